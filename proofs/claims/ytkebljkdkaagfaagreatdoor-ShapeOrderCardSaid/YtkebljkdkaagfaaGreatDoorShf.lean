/- badCycle: the first task that leads to itself, back edges left out. -/
import Derived.Test.YtkebljkdkaagfaaGreatDoorShe
namespace Go.Proofs.YtkebljkdkaagfaaGreatDoor.S
open Go Tr
set_option maxRecDepth 100000
set_option maxHeartbeats 4000000
/-! The trees of badCycle (by hand: it ranges over a function in a loop). -/
abbrev fx37_4 (n1 : Nat) (n2 : Nat) (l3 : Option Addr × Nat × Nat) : List (Tmp × Value) := [(1, .pointer (some ⟨n1, 0, none⟩)), (2, .pointer (some ⟨n2, 0, none⟩)), (10, .int .i64 (↑l3.snd.fst : Int))]
abbrev m37_4 : List (Tmp × Comp) := [(11, .leaf (.int .i64))]
abbrev mx37_4 : List (Tmp × Comp) := []
abbrev mr37_4 : List (Tmp × Comp) := []
abbrev fx37_11 (n1 : Nat) (n2 : Nat) (l3 : Option Addr × Nat × Nat) (x_11 : Int) (n5 : Nat) (v10 : Value) : List (Tmp × Value) := [(1, .pointer (some ⟨n1, 0, none⟩)), (2, .pointer (some ⟨n2, 0, none⟩)), (3, .pointer (some ⟨n5, 0, none⟩)), (10, .int .i64 (↑l3.snd.fst : Int)), (11, .int .i64 x_11), (16, v10)]
def s37_4 : Script := .sym (.ld (.int .i64) (.ld .sl (.ld .sl (.ld (.int .i64) (.cl (.one (.leaf .any)) (.rfd [1, 2, 3, 10, 11, 16] .nil .nil)))))) .nil
theorem t37_4 (n1 : Nat) (n2 : Nat) (l3 : Option Addr × Nat × Nat) (x_11 : Int) (gg4 : Nat → Value) (ds : List Deferred) : pieceD Tryz.prog (at_ Tryz.f37 [1, 0, 1, 0, 0]) 49 (fx37_4 n1 n2 l3 ++ mvals m37_4 (x_11, ())) gg4 ds (m37_4.map (·.1)) (mx37_4.map (·.1)) (mr37_4.map (·.1)) s37_4 = .br (Decidable.decide (x_11 < (↑l3.snd.fst : Int))) (.new (.cells #[.int .i64 0] 3 (0, 0)) (fun n5 => .store ⟨n5, 0, none⟩ (.int .i64 x_11) (.load ⟨n1, 0, none⟩ (.int .i64) (fun x6 => .load ⟨n1, 1, none⟩ .sl (fun l7 => .load ⟨n1, 2, none⟩ .sl (fun l8 => .load ⟨n5, 0, none⟩ (.int .i64) (fun x9 => .call 27 #[.agg #[.int .i64 x6, .slice l7.1 l7.2.1 l7.2.2, .slice l8.1 l8.2.1 l8.2.2], .int .i64 x9, .bool false] (.one (.leaf .any)) (fun v10 => .rfd (at_ Tryz.f37 [1, 0, 1, 0, 0, 1, 1, 0, 0, 1, 1, 0]) 49 (fx37_11 n1 n2 l3 x_11 n5 v10) ds (fun D => .finD .normal [(11, .int .i64 (IntKind.i64.wrap (x_11 + 1)))] (collD D :: ds)) (fun D => .finD .ret [] (collD D :: ds)))))))))) (.finD (.exit 0) [] ds) := by kernel_rfl
def s37 : Script := .ld .sl (.lpd 0 [1, 2, 10] [11] mx37_4 mr37_4 (.ld (.int .i64) .nil) (.ld (.int .i64) .nil))
theorem t37 (qx0_0 : Int) (qa0_1 : Option Addr) (qn0_1 : Nat) (qc0_1 : Nat) (qa0_2 : Option Addr) (qn0_2 : Nat) (qc0_2 : Nat) : fnTM Tryz.prog Tryz.f37 #[.agg #[.int .i64 qx0_0, .slice qa0_1 qn0_1 qc0_1, .slice qa0_2 qn0_2 qc0_2]] s37 = .new (.cells #[.int .i64 qx0_0, .slice qa0_1 qn0_1 qc0_1, .slice qa0_2 qn0_2 qc0_2] tPlan (0, 0)) (fun n1 => .new (.cells #[.int .i64 0] 3 (0, 0)) (fun n2 => .load ⟨n1, 1, none⟩ .sl (fun l3 => .loopd (at_ Tryz.f37 [1, 0, 1, 0, 0]) 49 (fx37_4 n1 n2 l3) [(11, .int .i64 0)] mx37_4 mr37_4 0 (fun u14 g14 Ds => .store ⟨n2, 0, none⟩ (.int .i64 (-1)) (.lvs (Ds.map collD) (.load ⟨n2, 0, none⟩ (.int .i64) (fun x15 => .done (.returned (.int .i64 x15)))))) (fun u16 g16 Ds => .lvs (Ds.map collD) (.load ⟨n2, 0, none⟩ (.int .i64) (fun x17 => .done (.returned (.int .i64 x17)))))))) := by kernel_rfl
theorem isrf37 : (at_ Tryz.f37 [1, 0, 1, 0, 0, 1, 1, 0, 0, 1, 1, 0]) = .rangeFunc (.tmp 16) #[17, 18] (rfA (at_ Tryz.f37 [1, 0, 1, 0, 0, 1, 1, 0, 0, 1, 1, 0])) (rfB (at_ Tryz.f37 [1, 0, 1, 0, 0, 1, 1, 0, 0, 1, 1, 0])) := by kernel_rfl
abbrev La37 (y : Nat × Nat) : List (Tmp × Value) := [(17, .int .i64 (y.1 : Nat)), (18, .int .i64 (y.2 : Nat))]
abbrev ma37 : List (Tmp × Comp) := [(4, .leaf (.int .i64)), (5, .leaf (.int .i64))]
theorem ta37 (l0 : Nat) (n1 : Nat) (n2 : Nat) (l3 : Option Addr × Nat × Nat) (x_11 : Int) (n5 : Nat) (v10 : Value) (y : Nat × Nat) (g : Nat → Value) : pieceR Tryz.prog l0 (rfA (at_ Tryz.f37 [1, 0, 1, 0, 0, 1, 1, 0, 0, 1, 1, 0])) 49 (fx37_11 n1 n2 l3 x_11 n5 v10 ++ La37 y) g (ma37.map (·.1)) [] [] .nil =
  .fin .normal [(4, .int .i64 (y.1 : Nat)), (5, .int .i64 (y.2 : Nat))] := by kernel_rfl
abbrev fx37_b (n1 : Nat) (n2 : Nat) (n5 : Nat) (y : Nat × Nat) (l : Option Addr × Nat × Nat) : List (Tmp × Value) := [(1, .pointer (some ⟨n1, 0, none⟩)), (2, .pointer (some ⟨n2, 0, none⟩)), (3, .pointer (some ⟨n5, 0, none⟩)), (4, .int .i64 (y.1 : Nat)), (5, .int .i64 (y.2 : Nat)), (20, .slice l.1 l.2.1 l.2.2), (21, .int .i64 (↑l.snd.fst : Int))]
abbrev m37_b : List (Tmp × Comp) := [(22, .leaf (.int .i64))]
abbrev mx37_b : List (Tmp × Comp) := []
abbrev mr37_b : List (Tmp × Comp) := []
def s37_c : Script := .sym (.ix (.ld (.int .i64) (.ld (.int .i64) (.ld (.int .i64) (.ld (.int .i64) (.sym (.lit (.ld (.int .i64) (.lit (.lit (.lit (.sym (.lit (.ld (.int .i64) (.lit (.ld (.int .i64) (.lit (.lit (.sym (.ld (.int .i64) (.ld .sl (.ld .sl (.lit (.ld (.int .i64) (.ld (.int .i64) (.ld (.int .i64) (.ld (.int .i64) (.lit (.cl (.one (.leaf .bool)) (.lit (.lit (.sym (.ld (.int .i64) .nil) .nil)))))))))))))
  (.lit (.lit (.lit (.lit (.lit .nil)))))))))))) (.lit (.lit (.lit (.lit (.lit (.lit (.lit (.lit (.lit (.lit .nil)))))))))))))))) (.lit (.lit (.lit (.lit (.lit (.lit (.lit (.lit (.lit (.lit (.lit (.lit (.lit (.lit (.lit .nil))))))))))))))))))))) .nil
def s37_b : Script := .ld .sl (.lp 4 [1, 2, 3, 4, 5, 20, 21] [22] mx37_b mr37_b .nil .nil)
theorem tb37 (l0 : Nat) (n1 : Nat) (n2 : Nat) (l3 : Option Addr × Nat × Nat) (x_11 : Int) (n5 : Nat) (v10 : Value) (y : Nat × Nat) (g : Nat → Value) : pieceR Tryz.prog l0 (rfB (at_ Tryz.f37 [1, 0, 1, 0, 0, 1, 1, 0, 0, 1, 1, 0])) 49 (fx37_11 n1 n2 l3 x_11 n5 v10 ++ La37 y ++ mvals ma37 ((y.1 : Nat), (y.2 : Nat), ())) g [] [] [] s37_b =
  .load ⟨n1, 2, none⟩ .sl (fun l =>
    .loopr l0 (nav (rfB (at_ Tryz.f37 [1, 0, 1, 0, 0, 1, 1, 0, 0, 1, 1, 0])) [0, 1, 0, 0]) 49 (fx37_b n1 n2 n5 y l) [(22, .int .i64 0)] mx37_b mr37_b 4 (fun u g =>
      .fin .normal []) (fun u g =>
      .fin .ret [])) := by kernel_rfl
theorem tc37 (l0 : Nat) (n1 : Nat) (n2 : Nat) (n5 : Nat) (y : Nat × Nat) (l : Option Addr × Nat × Nat) (x_22 : Int) (gg : Nat → Value) : pieceR Tryz.prog l0 (nav (rfB (at_ Tryz.f37 [1, 0, 1, 0, 0, 1, 1, 0, 0, 1, 1, 0])) [0, 1, 0, 0]) 49 (fx37_b n1 n2 n5 y l ++ mvals m37_b (x_22, ())) gg (m37_b.map (·.1)) (mx37_b.map (·.1)) (mr37_b.map (·.1)) s37_c =
  .br (Decidable.decide (x_22 < (↑l.snd.fst : Int)))
    (.idx l.1 x_22 l.2.1 4 (fun a5 =>
      .load a5 (.int .i64) (fun x6 =>
        .load (a5.add 1) (.int .i64) (fun x7 =>
          .load (a5.add 2) (.int .i64) (fun x8 =>
            .load (a5.add 3) (.int .i64) (fun x9 =>
              .new (.cells #[.int .i64 0, .int .i64 0, .int .i64 0, .int .i64 0] tEdge (0, 0)) (fun n7 =>
                .store ⟨n7, 0, none⟩ (.int .i64 x6)
                  (.store ⟨n7, 1, none⟩ (.int .i64 x7)
                    (.store ⟨n7, 2, none⟩ (.int .i64 x8)
                      (.store ⟨n7, 3, none⟩ (.int .i64 x9)
                        (.br (Decidable.decide (((y.2 : Nat) : Int) ≥ 0))
                          (.load ⟨n7, 0, none⟩ (.int .i64) (fun x10 =>
                            .br (x10 == ((y.1 : Nat) : Int))
                              (.load ⟨n7, 2, none⟩ (.int .i64) (fun x11 =>
                                .load ⟨n5, 0, none⟩ (.int .i64) (fun x12 =>
                                  .br (x11 == x12)
                                    (.load ⟨n1, 0, none⟩ (.int .i64) (fun x13 =>
                                      .load ⟨n1, 1, none⟩ .sl (fun l14 =>
                                        .load ⟨n1, 2, none⟩ .sl (fun l15 =>
                                          .load ⟨n7, 0, none⟩ (.int .i64) (fun x16 =>
                                            .load ⟨n7, 1, none⟩ (.int .i64) (fun x17 =>
                                              .load ⟨n7, 2, none⟩ (.int .i64) (fun x18 =>
                                                .load ⟨n7, 3, none⟩ (.int .i64) (fun x19 =>
                                                  .call 38 #[.agg #[.int .i64 x13, .slice l14.1 l14.2.1 l14.2.2, .slice l15.1 l15.2.1 l15.2.2], .agg #[.int .i64 x16, .int .i64 x17, .int .i64 x18, .int .i64 x19]] (.one (.leaf .bool)) (fun b20 =>
                                                    .br (!b20)
                                                      (.load ⟨n5, 0, none⟩ (.int .i64) (fun x21 =>
                                                        .store ⟨n2, 0, none⟩ (.int .i64 x21)
                                                          (.fin .ret [])))
                                                      (.fin .normal [(22, .int .i64 (IntKind.i64.wrap (x_22 + 1)))]))))))))))
                                    (.fin .normal [(22, .int .i64 (IntKind.i64.wrap (x_22 + 1)))]))))
                              (.fin .normal [(22, .int .i64 (IntKind.i64.wrap (x_22 + 1)))])))
                          (.fin .normal [(22, .int .i64 (IntKind.i64.wrap (x_22 + 1)))]))))))))))))
    (.fin (.exit 4) []) := by kernel_rfl
/-! ### Marks -/
/-- Marks that wait, their blocks behind base. -/
def Marks (base : Nat) (Ds : List Nat) (w : World) : Prop := (∀ D ∈ Ds, base ≤ D ∧ w.heap[D]? = some (.deferred (some []))) ∧ Ds.Nodup
theorem Marks.nil (base : Nat) (w : World) : Marks base [] w := ⟨fun _ h => (by cases h), List.nodup_nil⟩
theorem Marks.lt {base : Nat} {Ds : List Nat} {w : World} (h : Marks base Ds w) {D : Nat} (hD : D ∈ Ds) : base ≤ D ∧ D < w.heap.size := ⟨(h.1 D hD).1, (Array.getElem?_eq_some_iff.1 (h.1 D hD).2).1⟩
theorem Marks.ch {S : Nat → Prop} {base : Nat} {Ds : List Nat} {w w' : World} (h : Marks base Ds w) (hc : Ch S w w') (hS : ∀ D ∈ Ds, ¬ S D) : Marks base Ds w' :=
  ⟨fun D hD => ⟨(h.1 D hD).1, hc.at_ (h.1 D hD).2 (hS D hD)⟩, h.2⟩
theorem Marks.cons {base : Nat} {Ds : List Nat} {w : World} (h : Marks base Ds w) {D : Nat} (hb : base ≤ D) (hD : w.heap[D]? = some (.deferred (some []))) (hn : D ∉ Ds) : Marks base (D :: Ds) w :=
  ⟨fun E hE => by
    rcases List.mem_cons.1 hE with rfl | hE
    · exact ⟨hb, hD⟩
    · exact h.1 E hE, List.nodup_cons.2 ⟨hn, h.2⟩⟩
theorem Marks.ne {base : Nat} {Ds : List Nat} {w : World} (h : Marks base Ds w) {b : Nat} {cs : List Value} {t : TypeId} (hb : Blk w b cs t) : b ∉ Ds := fun hD => by
  have := (h.1 b hD).2
  unfold Blk at hb
  rw [hb] at this
  cases this
theorem lvsP_of {base : Nat} {K : World → Prop} : ∀ (Ds : List Nat) (w : World), Marks base Ds w → (∀ w', Ch (fun k => k ∈ Ds) w w' → K w') → lvsP (Ds.map collD) w K
  | [], w, _, h => h w (Ch.refl _ _)
  | D :: Ds, w, hm, h => by
    have hnd := List.nodup_cons.1 hm.2
    refine ⟨D, rfl, (hm.1 D (.head _)).2, lvsP_of Ds _ ⟨fun E hE => ⟨(hm.1 E (.tail _ hE)).1, ?_⟩, hnd.2⟩ fun w' hc => h w' (((Ch.refl (fun k => k ∈ D :: Ds) w).put (.inr (.head _)) _).trans (hc.mono fun k hk => .tail _ hk))⟩
    rw [World.putObj_heap_other (fun e => by subst e; exact hnd.1 hE)]
    exact (hm.1 E (.tail _ hE)).2
theorem lvs_i {P : Program} {R : Ending → World → Prop} {Q : Exit → List (Tmp × Value) → World → Prop} {t : T} {base : Nat} {Ds : List Nat} {w : World} (hm : Marks base Ds w) (h : ∀ w', Ch (fun k => k ∈ Ds) w w' → wpT P R Q t .pl w') : wpT P R Q (.lvs (Ds.map collD) t) .pl w :=
  lvsP_of Ds w hm h
/-! ### badCycle -/
theorem gr_mem {p : PM} {back : Bool} {x t : Nat} : (grOf p back).contains (x, t) = true ↔ ∃ e ∈ p.edges, goesB p back e = true ∧ edgeP e = (x, t) := by
  rw [List.contains_iff_mem]
  unfold grOf
  rw [List.mem_map]
  constructor
  · rintro ⟨e, he, h⟩
    obtain ⟨h1, h2⟩ := List.mem_filter.1 he
    exact ⟨e, h1, h2, h⟩
  · rintro ⟨e, h1, h2, h⟩
    exact ⟨e, List.mem_filter.2 ⟨h1, h2⟩, h⟩
theorem badCycle_any (w : World) (p : PM) (tp ep : Option Addr) (tc ec : Nat) (h : IsP w tp ep p) (he : ∀ e ∈ p.edges, (0 ≤ e.frm ∧ e.frm < p.tasks.length) ∧ (0 ≤ e.to ∧ e.to < p.tasks.length) ∧ (0 ≤ e.out ∧ e.out < 4) ∧ 0 ≤ e.inn ∧ e.inn < 4) (hn : p.tasks.length ≤ 12) :
    Calls Tryz.prog 37 #[planV p tp tc ep ec] w (ChkR w p.tasks.length (cycBad p)) := by
  refine calls_of_fnTM mixed Tryz.func37 (s := s37) ?_
  rw [t37]
  refine nw (cs := planC p tp tc ep ec) fun w1 c1 s1 b1 => nw (cs := [intC 0]) fun w2 c2 s2 b2 => ?_
  replace b1 := b1.ch c2 (fun h => h)
  have c02 := c1.trans c2
  generalize hn1 : w.heap.size = n1 at *
  generalize hn2 : w1.heap.size = n2 at *
  have hen := h.en
  refine ld_sl (b1.cell 1) ?_
  refine loopd_i mixed m37_4 s37_4 (by kernel_rfl) (by kernel_rfl) (fun v Ds w3 => ∃ i : Nat, v.1 = (i : Nat) ∧ i ≤ p.tasks.length ∧ Ch No w2 w3 ∧ (∀ j, j < i → cycBad p j = false) ∧ Marks w2.heap.size Ds w3) (fun v _ => p.tasks.length - v.1.toNat) (0, ()) rfl
    ⟨0, rfl, Nat.zero_le _, Ch.refl _ _, fun j h => by omega, Marks.nil _ _⟩ ?_
  rintro ⟨_, ⟨⟩⟩ Ds g w3 ⟨i, rfl, hi, c3, hall, hM⟩
  rw [t37_4]
  dsimp only
  -- the way out with what stands in the result's box
  have out : ∀ (Es : List Nat) (x : Int) (w4 : World), Marks w2.heap.size Es w4 → Blk w4 n2 [intC x] tInt → Ch (fun k => k = n2) w2 w4 → x = atI (firstM p.tasks.length (cycBad p)) →
      wpT Tryz.prog (ChkR w p.tasks.length (cycBad p)) (fun _ _ _ => False) (.lvs (Es.map collD) (.load ⟨n2, 0, none⟩ (.int .i64) (fun x15 => .done (.returned (.int .i64 x15))))) .pl w4 := by
    intro Es x w4 hM4 b4 c4 hx
    refine lvs_i hM4 fun w5 c5 => ?_
    refine ld_int ((b4.ch c5 (hM4.ne b4)).cell 0) ⟨by rw [hx], (c02.then_ c4 (fun k hk (e : k = n2) => by omega)).then_ c5 (fun k hk hE => by have := (hM4.lt hE).1; omega)⟩
  refine br_both (fun e => ?_) fun e => ?_
  · have e := lt_t e
    have hil : i < p.tasks.length := by omega
    have hz3 := c3.size
    refine nw (cs := [intC 0]) fun w4 c4 s4 b4 => st_blk b4 (by simp) rfl fun w5 c5 s5 b5 => ?_
    generalize hn5 : w3.heap.size = n5 at *
    have c35 : Ch No w3 w5 := c4.then_ c5 (fun k hk (e : k = n5) => by omega)
    have b1' := (b1.ch c3 (fun h => h)).ch c35 (fun h => h)
    refine ld_int (b1'.cell 0) (ld_sl (b1'.cell 1) (ld_sl (b1'.cell 2) (ld_int (b5.cell 0) (cl_i (spread_any w5 p tp ep tc ec i false) ?_))))
    rintro r w6 ⟨c6, m1, m2, m3, g1, g2, g3, rfl, B1, B2, B3⟩
    refine ⟨_, rfl, ?_⟩
    have c26 : Ch No w2 w6 := c3.trans (c35.trans c6)
    have c06 : Ch No w w6 := c02.trans c26
    have hz5 := c35.size
    have hz6 := c6.size
    have hz2 := b2.lt
    have hIP : ∀ W', Ch (fun k => k = n2 ∨ w6.heap.size ≤ k) w6 W' → IsP W' tp ep p := fun W' hc => h.of fun a v ha => by
      have hb := World.block_lt_of_cell? w a ha
      exact hc.cellv (c06.cellv ha (fun h => h)) (fun hk => by rcases hk with hk | hk <;> omega)
    have b5' := b5.ch c6 (fun h => h)
    have b1'' := b1'.ch c6 (fun h => h)
    have b2' := b2.ch c26 (fun h => h)
    have hM6 := hM.ch (c35.trans c6) (fun _ _ h => h)
    have hlt : n1 < w6.heap.size ∧ n2 < w6.heap.size ∧ n5 < w6.heap.size := ⟨b1''.lt, b2'.lt, b5'.lt⟩
    refine rfd_i (.tmp 16) #[17, 18] isrf37 (fun g => by kernel_rfl) (enters_of Tryz.func40 (by kernel_rfl) rfl) (encs := fun y : Nat × Nat => #[.int .i64 (y.1 : Nat), .int .i64 (y.2 : Nat)]) (fun _ => rfl) (Sb := fun k => k = n2) (fun k (hk : k = n2) => by omega)
      (spread_iter p tp ep tc ec i false m1 m2 m3 (fun k => k = n2) w6 B1 B2 B3 (fun hk => by omega) (fun hk => by omega) (fun hk => by omega) (fun k hk => by omega) hIP he hn hil)
      (fun pre W => Ch (fun k => w6.heap.size ≤ k) w6 W ∧ ∀ y ∈ pre, (grOf p false).contains (y.1, i) = false)
      (fun pre W => Ch (fun k => k = n2 ∨ w6.heap.size ≤ k) w6 W ∧ Blk W n2 [intC (i : Nat)] tInt ∧ ∃ y ∈ pre, (grOf p false).contains (y.1, i) = true)
      (fun pre A B hA hc => ⟨hA.1.trans hc, hA.2⟩) (fun pre A B hA hc => ⟨hA.1.trans (hc.mono fun k h => .inr h), hA.2.1.ch hc (fun hh => by omega), hA.2.2⟩) ⟨Ch.refl _ _, fun y hy => (by cases hy)⟩
      La37 (fun g x => by kernel_rfl) ma37 .nil (fun y => ((y.1 : Nat), (y.2 : Nat), ())) (fun x => by kernel_rfl) (fun l x g W => by rw [ta37]; exact ⟨rfl, rfl, rfl⟩) s37_b ?_ ?_ ?_
    · -- a round
      rintro l0 pre y g W ⟨cW, hpre⟩ hnext
      rw [tb37]
      have b1W := b1''.ch cW (fun hh => by omega)
      have b5W := b5'.ch cW (fun hh => by omega)
      have b2W := b2'.ch cW (fun hh => by omega)
      have hPW := hIP W (cW.mono fun k h => .inr h)
      have hym : y ∈ spreadM (grOf p false) p.tasks.length i := hnext.subset (by simp)
      obtain ⟨y2, y1, -⟩ := mem_spread hym
      refine ld_sl (b1W.cell 2) ?_
      refine loopr_i m37_b s37_c (by kernel_rfl) (by kernel_rfl) (fun v W2 => Ch No W W2 ∧ ∃ j : Nat, v.1 = (j : Nat) ∧ j ≤ p.edges.length ∧ ∀ ed ∈ p.edges.take j, ¬ (goesB p false ed = true ∧ edgeP ed = (y.1, i))) (fun v _ => p.edges.length - v.1.toNat) (0, ()) rfl
        ⟨Ch.refl _ _, 0, rfl, Nat.zero_le _, fun ed h => (by cases h)⟩ ?_
      rintro ⟨_, ⟨⟩⟩ g W2 ⟨cW2, j, rfl, hj, hno⟩
      rw [tc37]
      dsimp only
      refine br_both (fun e2 => ?_) fun e2 => ?_
      · have e2 := lt_t e2
        obtain ⟨ed, hed⟩ := some_at (l := p.edges) (i := j) (by omega)
        have hedm := List.mem_of_getElem? hed
        obtain ⟨⟨f0, f1⟩, ⟨t0, t1⟩, -⟩ := he ed hedm
        refine ed_i (hPW.ch cW2) hed fun ea n7 w7 c7 hn7 b7 => ?_
        have cW7 := cW2.trans c7
        have b1W7 := b1W.ch cW7 (fun h => h)
        have b5W7 := b5W.ch cW7 (fun h => h)
        have b2W7 := b2W.ch cW7 (fun h => h)
        have goOn : ∀ w8, Ch No w7 w8 → ¬ (goesB p false ed = true ∧ edgeP ed = (y.1, i)) → wpT Tryz.prog (ChkR w p.tasks.length (cycBad p)) (after Tryz.prog (ChkR w p.tasks.length (cycBad p)) (afterB (fun k => k = n2) (fun pre W => Ch (fun k => w6.heap.size ≤ k) w6 W ∧ ∀ y ∈ pre, (grOf p false).contains (y.1, i) = false)
            (fun pre W => Ch (fun k => k = n2 ∨ w6.heap.size ≤ k) w6 W ∧ Blk W n2 [intC (i : Nat)] tInt ∧ ∃ y ∈ pre, (grOf p false).contains (y.1, i) = true) (pre ++ [y]) W) m37_b mx37_b mr37_b 4 (fun u g => .fin .normal []) (fun u g => .fin .ret [])
            (fun v' W' => (Ch No W W' ∧ ∃ j : Nat, v'.1 = (j : Nat) ∧ j ≤ p.edges.length ∧ ∀ ed ∈ p.edges.take j, ¬ (goesB p false ed = true ∧ edgeP ed = (y.1, i))) ∧ p.edges.length - v'.1.toNat < p.edges.length - ((j : Nat) : Int).toNat)) (.fin .normal [(22, .int .i64 (IntKind.i64.wrap (((j : Nat) : Int) + 1)))]) .pl w8 := fun w8 c8 hx => by
          refine ⟨(((j : Nat) : Int) + 1, ()), by rw [wrap_succ (by omega) (by omega)]; rfl, ⟨cW7.trans c8, j + 1, rfl, by omega, fun z hz => ?_⟩, by show p.edges.length - (((j : Nat) : Int) + 1).toNat < _; omega⟩
          rw [List.take_add_one, hed] at hz
          rcases List.mem_append.1 hz with hz | hz
          · exact hno z hz
          · obtain rfl : z = ed := by simpa using hz
            exact hx
        refine br_true (decide_eq_true (by omega)) ?_
        refine ld_int (b7.cell 0) (br_both (fun e3 => ?_) fun e3 => ?_)
        · have e3 : ed.frm = ((y.1 : Nat) : Int) := eq_of_beq e3
          refine ld_int (b7.cell 2) (ld_int (b5W7.cell 0) (br_both (fun e4 => ?_) fun e4 => ?_))
          · have e4 : ed.to = ((i : Nat) : Int) := eq_of_beq e4
            refine ld_int (b1W7.cell 0) (ld_sl (b1W7.cell 1) (ld_sl (b1W7.cell 2) (ld_int (b7.cell 0) (ld_int (b7.cell 1) (ld_int (b7.cell 2) (ld_int (b7.cell 3) (cl_i (loops_any w7 p tp ep tc ec ed ((hPW.ch cW2).ch c7) t0 (by omega)) ?_)))))))
            rintro r w8 ⟨rfl, c8⟩
            refine ⟨loopsM p ed, rfl, br_both (fun e5 => ?_) fun e5 => ?_⟩
            · refine ld_int ((b5W7.ch c8 (fun h => h)).cell 0) (st_blk (b2W7.ch c8 (fun h => h)) (by simp) rfl fun w9 c9 s9 b9 => ?_)
              have c29 : Ch (fun k => k = n2) W w9 := ((cW7.trans c8).no).trans c9
              refine ⟨(), rfl, fun g => ⟨c29, (cW.mono fun k h => .inr h).trans (c29.mono fun k h => .inl h), b9, y, by simp, ?_⟩⟩
              refine gr_mem.2 ⟨ed, hedm, ?_, ?_⟩
              · unfold goesB
                rw [e5]
                rfl
              · unfold edgeP
                rw [e3, e4]
                rfl
            · refine goOn w8 c8 fun hh => ?_
              have := hh.1
              unfold goesB at this
              rw [Bool.false_or] at this
              rw [this] at e5
              cases e5
          · have e4 : ¬ ed.to = ((i : Nat) : Int) := fun hh => by rw [hh] at e4; simp at e4
            refine goOn w7 (Ch.refl _ _) fun hh => e4 ?_
            have := congrArg Prod.snd hh.2
            have : ed.to.toNat = i := this
            omega
        · have e3 : ¬ ed.frm = ((y.1 : Nat) : Int) := fun hh => by rw [hh] at e3; simp at e3
          refine goOn w7 (Ch.refl _ _) fun hh => e3 ?_
          have := congrArg Prod.fst hh.2
          have : ed.frm.toNat = y.1 := this
          omega
      · have e2 := lt_f e2
        obtain rfl : j = p.edges.length := by omega
        rw [List.take_length] at hno
        refine ⟨rfl, (), rfl, fun g => ⟨cW2.no, cW.trans cW2.no, fun z hz => ?_⟩⟩
        rcases List.mem_append.1 hz with hz | hz
        · exact hpre z hz
        · rw [List.mem_singleton.1 hz]
          rw [Bool.eq_false_iff]
          intro hc
          obtain ⟨ed, h1, h2, h3⟩ := gr_mem.1 hc
          exact hno ed h1 ⟨h2, h3⟩
    · -- no cycle through i
      rintro D W hD ⟨cW, hno⟩ hK
      have hMW := hM6.ch cW (fun E hE hh => by have := (hM6.lt hE).2; omega)
      have hDn : D ∉ Ds := fun hE => by have := (hM6.lt hE).2; omega
      refine ⟨D :: Ds, rfl, (((i : Nat) : Int) + 1, ()), D :: Ds, by rw [wrap_succ (by omega) (by omega)]; rfl, ⟨i + 1, rfl, by omega, c26.then_ cW (fun k hk hh => by have := c26.size; omega), fun j hj => ?_, hMW.cons (by have := c26.size; omega) hK hDn⟩, by show p.tasks.length - (((i : Nat) : Int) + 1).toNat < _; omega⟩
      by_cases hji : j = i
      · rw [hji]
        unfold cycBad
        exact List.any_eq_false.2 fun y hy => by rw [hno y hy]; decide
      · exact hall j (by omega)
    · -- a cycle
      rintro D pre W hD hpre ⟨cW, bW, y, hy, hc⟩ hK
      have hn2D : n2 ∉ Ds := hM6.ne b2'
      have hMW := hM6.ch cW (fun E hE hh => by
        rcases hh with hh | hh
        · subst hh; exact hn2D hE
        · have := (hM6.lt hE).2; omega)
      have hDn : D ∉ Ds := fun hE => by have := (hM6.lt hE).2; omega
      refine ⟨D :: Ds, rfl, (), D :: Ds, rfl, fun g => ?_⟩
      refine out (D :: Ds) (i : Nat) W (hMW.cons (by have := c26.size; omega) hK hDn) bW ?_ ?_
      · refine c26.no.trans ?_ |>.then_ (Ch.refl (fun k => k = n2) W) (fun k hk h => h)
        exact ⟨cW.os, cW.tape, cW.output, cW.size, fun k hk hS => cW.block k hk (fun hh => by rcases hh with hh | hh; exact hS hh; omega)⟩
      · rw [firstM_some hil (by unfold cycBad; exact List.any_eq_true.2 ⟨y, hpre.subset hy, hc⟩) hall]
        rfl
  · have e := lt_f e
    obtain rfl : i = p.tasks.length := by omega
    refine ⟨Ds, rfl, rfl, (), Ds, rfl, fun g => ?_⟩
    refine st_blk (b2.ch c3 (fun h => h)) (by simp) rfl fun w4 c4 s4 b4 => ?_
    have hn2D : n2 ∉ Ds := hM.ne (b2.ch c3 (fun h => h))
    refine out Ds (-1) w4 (hM.ch c4 (fun E hE (hh : E = n2) => by subst hh; exact hn2D hE)) b4 (c3.no.trans c4) (at_none hall)
end Go.Proofs.YtkebljkdkaagfaaGreatDoor.S
