/- The document's reader: build: the value of a list of parts. -/
import Derived.Test.YtjlmkahagcojcaaGreatDoorXj
namespace Go.Proofs.YtjlmkahagcojcaaGreatDoor.V
open Go Tr
set_option maxRecDepth 100000
/-! the tree of function 140 -/
abbrev fx140_9 (qa0 : Option Addr) (qn0 : Nat) (qc0 : Nat) (qx1 : Int) (n1 : Nat) (n8 : Nat) : List (Tmp × Value) := [(0, .slice qa0 qn0 qc0), (1, .int .i64 qx1), (4, .pointer (some ⟨n1, 0, none⟩)), (5, .int .i64 0), (6, .pointer (some ⟨n8, 0, none⟩))]
abbrev m140_9 : List (Tmp × Comp) := [(7, .leaf (.int .i64)), (8, .leaf (.int .i64))]
abbrev mx140_9 : List (Tmp × Comp) := [(7, .leaf (.int .i64))]
abbrev mr140_9 : List (Tmp × Comp) := []
abbrev fx140_10 (qa0 : Option Addr) (qn0 : Nat) (qc0 : Nat) (qx1 : Int) (n1 : Nat) (n8 : Nat) (x_7 : Int) (x_8 : Int) : List (Tmp × Value) := [(0, .slice qa0 qn0 qc0), (1, .int .i64 qx1), (4, .pointer (some ⟨n1, 0, none⟩)), (6, .pointer (some ⟨n8, 0, none⟩)), (7, .int .i64 x_7), (8, .int .i64 x_8)]
abbrev mx140_10 : List (Tmp × Comp) := [(41, .leaf .bool)]
def s140_10 : Script := .ix (.ld (.int .i64) (.sym (.lit (.lit (.lit (.lit .nil)))) (.lit (.lit (.lit (.lit .nil))))))
theorem t140_10 (qa0 : Option Addr) (qn0 : Nat) (qc0 : Nat) (qx1 : Int) (n1 : Nat) (n8 : Nat) (x_7 : Int) (x_8 : Int) (gg10 : Nat → Value) : pieceT Tryz.prog (at_ Tryz.f140 [1, 1, 1, 0, 1, 0, 0, 0, 0]) 59 (fx140_10 qa0 qn0 qc0 qx1 n1 n8 x_7 x_8) gg10 (mx140_10.map (·.1)) [] [] s140_10 = .idx qa0 qx1 qn0 4 (fun a11 => .load (a11.add 3) (.int .i64) (fun x12 => .br (Decidable.decide (x_8 < x12)) (.fin .normal [(41, .bool (Decidable.decide (x_7 < (↑qn0 : Int))))]) (.fin .normal [(41, .bool false)]))) := by kernel_rfl
def s140_9 : Script := .ct 1 [0, 1, 4, 6, 7, 8] mx140_10 (.sym (.cl (.tup [.agg [.int .i64, .int .i64, .str, .sl], .leaf (.int .i64)]) (.ld .sl (.ld (.int .i64) (.ld (.int .i64) (.ld .str (.ld .sl (.nop (.rn (.one (.leaf .sl)) .nil)))))))) .nil)
theorem t140_9 (qa0 : Option Addr) (qn0 : Nat) (qc0 : Nat) (qx1 : Int) (n1 : Nat) (n8 : Nat) (x_7 : Int) (x_8 : Int) (gg9 : Nat → Value) : pieceT Tryz.prog (at_ Tryz.f140 [1, 1, 1, 0, 1, 0, 0]) 59 (fx140_9 qa0 qn0 qc0 qx1 n1 n8 ++ mvals m140_9 (x_7, x_8, ())) gg9 (m140_9.map (·.1)) (mx140_9.map (·.1)) (mr140_9.map (·.1)) s140_9 = .cut (at_ Tryz.f140 [1, 1, 1, 0, 1, 0, 0, 0, 0]) 59 (fx140_10 qa0 qn0 qc0 qx1 n1 n8 x_7 x_8) mx140_10 (fun u13 g13 => .br u13.1 (.call 140 #[.slice qa0 qn0 qc0, .int .i64 x_7] (.tup [.agg [.int .i64, .int .i64, .str, .sl], .leaf (.int .i64)]) (fun r14 => .new (.cells #[.int .i64 0, .int .i64 0, .string (bytesL []), .slice none 0 0] 52 (0, 0)) (fun n15 => .store ⟨n15, 0, none⟩ (.int .i64 r14.1.1) (.store ⟨n15, 1, none⟩ (.int .i64 r14.1.2.1) (.store ⟨n15, 2, none⟩ (.string r14.1.2.2.1) (.store ⟨n15, 3, none⟩ (.slice r14.1.2.2.2.1.1 r14.1.2.2.2.1.2.1 r14.1.2.2.2.1.2.2) (.load ⟨n8, 3, none⟩ .sl (fun l16 => .load ⟨n15, 0, none⟩ (.int .i64) (fun x17 => .load ⟨n15, 1, none⟩ (.int .i64) (fun x18 => .load ⟨n15, 2, none⟩ .str (fun s19 => .load ⟨n15, 3, none⟩ .sl (fun l20 => .new (.cells #[.int .i64 x17, .int .i64 x18, .string s19, .slice l20.1 l20.2.1 l20.2.2] 52 (0, 0)) (fun n21 => .run (builtin .append #[50, 50] 50 #[false, false] #[.slice l16.1 l16.2.1 l16.2.2, .slice (some ⟨n21, 0, none⟩) 1 1]) (.one (.leaf .sl)) (fun l22 => .store ⟨n8, 3, none⟩ (.slice l22.1 l22.2.1 l22.2.2) (.fin .normal [(7, .int .i64 r14.2.1), (8, .int .i64 (IntKind.i64.wrap (x_8 + 1)))]))))))))))))))) (.fin (.exit 0) [(7, .int .i64 x_7)])) := by kernel_rfl
def s140 : Script := .hd0 (.hq 0 (.hq 1 (.hq 2 (.ix (.hq 3 (.hq 4 (.ld (.int .i64) (.hq 5 (.hq 6 (.hq 7 (.ix (.hq 8 (.hq 9 (.ld (.int .i64) (.hq 10 (.hq 11 (.hq 12 (.ix (.hq 13 (.hq 14 (.ld .str (.hq 15 (.he 16 (.he 17 (.lp 0 [0, 1, 4, 5, 6] [7, 8] mx140_9 mr140_9 (.ld (.int .i64) (.ld (.int .i64) (.ld .str (.ld .sl (.ld (.int .i64) (.ld (.int .i64) (.ld .str (.ld .sl .nil)))))))) .nil)))))))))))))))))))))))))
theorem t140 (qa0 : Option Addr) (qn0 : Nat) (qc0 : Nat) (qx1 : Int) : fnT Tryz.prog Tryz.f140 #[.slice qa0 qn0 qc0, .int .i64 qx1] s140 = .new (.cells #[.int .i64 0, .int .i64 0, .string (bytesL []), .slice none 0 0] 52 (0, 0)) (fun n1 => .hdrawn (.idx qa0 qx1 qn0 4 (fun a2 => .load a2 (.int .i64) (fun x3 => .idx qa0 qx1 qn0 4 (fun a4 => .load (a4.add 1) (.int .i64) (fun x5 => .idx qa0 qx1 qn0 4 (fun a6 => .load (a6.add 2) .str (fun s7 => .eff (.new (.cells #[.int .i64 0, .int .i64 0, .string (bytesL []), .slice none 0 0] 52 (0, 0)) (fun n8 => .back (.eff (.store ⟨n8, 0, none⟩ (.int .i64 x3) (.store ⟨n8, 1, none⟩ (.int .i64 x5) (.store ⟨n8, 2, none⟩ (.string s7) (.store ⟨n8, 3, none⟩ (.slice none 0 0) (.back (.undrawn (.loop (at_ Tryz.f140 [1, 1, 1, 0, 1, 0, 0]) 59 (fx140_9 qa0 qn0 qc0 qx1 n1 n8) [(7, .int .i64 (IntKind.i64.wrap (qx1 + 1))), (8, .int .i64 0)] mx140_9 mr140_9 0 (fun u23 g23 => .load ⟨n8, 0, none⟩ (.int .i64) (fun x24 => .load ⟨n8, 1, none⟩ (.int .i64) (fun x25 => .load ⟨n8, 2, none⟩ .str (fun s26 => .load ⟨n8, 3, none⟩ .sl (fun l27 => .store ⟨n1, 0, none⟩ (.int .i64 x24) (.store ⟨n1, 1, none⟩ (.int .i64 x25) (.store ⟨n1, 2, none⟩ (.string s26) (.store ⟨n1, 3, none⟩ (.slice l27.1 l27.2.1 l27.2.2) (.load ⟨n1, 0, none⟩ (.int .i64) (fun x28 => .load ⟨n1, 1, none⟩ (.int .i64) (fun x29 => .load ⟨n1, 2, none⟩ .str (fun s30 => .load ⟨n1, 3, none⟩ .sl (fun l31 => .done (.returned (.tuple #[.agg #[.int .i64 x28, .int .i64 x29, .string s30, .slice l31.1 l31.2.1 l31.2.2], .int .i64 u23.1]))))))))))))))) (fun u32 g32 => .stuck))))))))))))))))))) := by kernel_rfl
abbrev tVal : TypeId := 52
section
variable {R : Ending → World → Prop} {Q : Exit → List (Tmp × Value) → World → Prop} {w : World}
/-- A value is stored. -/
theorem st4_i {md : Md} [hmd : md.Runs] {b : Nat} {x : VT} {p : Option Addr} {m c : Nat} {vs : List Value} {k : T} (hb : Blk w b vs tVal) (hl : vs.length = 4)
    (h : ∀ w1, Ch (· = b) w w1 → Blk w1 b (cellsV x p m c) tVal → wpT Tryz.prog R Q k md w1) :
    wpT Tryz.prog R Q (.store ⟨b, 0, none⟩ (.int .i64 x.kind) (.store ⟨b, 1, none⟩ (.int .i64 x.int) (.store ⟨b, 2, none⟩ (.string x.text) (.store ⟨b, 3, none⟩ (.slice p m c) k)))) md w := by
  match vs, hl with
  | [v0, v1, v2, v3], _ =>
    exact st_blk hb (by simp) rfl fun w2 h2 z2 b2 => st_blk b2 (by simp) rfl fun w3 h3 z3 b3 => st_blk b3 (by simp) rfl fun w4 h4 z4 b4 => st_blk b4 (by simp) rfl fun w5 h5 z5 b5 => h w5 (h2.trans (h3.trans (h4.trans h5))) b5
/-- A value is appended to a value's items. -/
theorem vap_i {k i : Int} {s : ByteArray} (n8 : Nat) (q : Option Addr) (t d : Nat) (acc : List Elt) (ht : t ≤ 1000000) (y : Elt) (n10 : Nat) {K : T}
    (b8 : Blk w n8 [.int .i64 k, .int .i64 i, .string s, .slice q t d] tVal) (V : RowV w (n8 + 1) q t d acc) (hs : n8 + 1 ≤ w.heap.size) (hy : IsVB (fun b => n8 + 1 ≤ b ∧ b < w.heap.size ∧ ¬ rowS q t d b) w y.1 y.2.1 y.2.2.1 y.2.2.2) (b10 : Blk w n10 y.cells tVal)
    (h : ∀ w' q' d', Blk w' n8 [.int .i64 k, .int .i64 i, .string s, .slice q' (t + 1) d'] tVal → RowV w' (n8 + 1) q' (t + 1) d' (acc ++ [y]) → Ch (fun b => n8 ≤ b) w w' → Ch (fun b => b = n8 ∨ rowS q t d b) w w' → wpT Tryz.prog R Q K .pl w') :
    wpT Tryz.prog R Q (.run (builtin .append #[50, 50] 50 #[false, false] #[.slice q t d, .slice (some ⟨n10, 0, none⟩) 1 1]) (.one (.leaf .sl)) (fun l11 : Option Addr × Nat × Nat => .store ⟨n8, 3, none⟩ (.slice l11.1 l11.2.1 l11.2.2) K)) .pl w := by
  refine ap_blk (by kernel_rfl) infoVal rfl (by omega) V.row hs b10 rfl (fun u hu => ?_) (Nat.le_trans (by omega : t + 1 ≤ 1000001) (by decide)) (by omega) fun q' c' w12 g12 => ?_
  · simp only [Elt.cells, cellsV, List.mem_cons, List.mem_nil_iff, or_false] at hu
    rcases hu with rfl | rfl | rfl | rfl <;> rfl
  have s12 := g12.ch.size
  have lo : ∀ k, rowS q t d k → n8 + 1 ≤ k ∧ k < w.heap.size := fun k hk => V.row.lt hk
  have b12 : Blk w12 n8 _ _ := b8.ch g12.ch (fun h => by have := (lo _ h).1; omega)
  refine st_blk b12 (by simp) rfl fun w13 h13 z13 b13 => ?_
  have hrow := Row.ch g12.own h13 (fun k hk (e : k = n8) => by
    rcases g12.lies k hk with h | h
    · have := (lo _ h).1; omega
    · omega)
  have lies : ∀ k, rowS q' (t + 1) c' k → rowS q t d k ∨ w.heap.size ≤ k := g12.lies
  have s13 := h13.size
  have mv : ∀ {z : Elt}, IsVB (fun b => n8 + 1 ≤ b ∧ b < w.heap.size ∧ ¬ rowS q t d b) w z.1 z.2.1 z.2.2.1 z.2.2.2 → IsVB (fun b => n8 + 1 ≤ b ∧ b < w13.heap.size ∧ ¬ rowS q' (t + 1) c' b) w13 z.1 z.2.1 z.2.2.1 z.2.2.2 := fun e9 => by
    have e12 := e9.ch g12.ch (fun k hk => hk.2.2)
    have e13 := e12.ch h13 (fun k hk (e : k = n8) => by have := hk.1; omega)
    refine e13.mono fun k hk => ⟨hk.1, by have := hk.2.1; omega, fun hr => ?_⟩
    rcases lies k hr with h | h
    · exact hk.2.2 h
    · have := hk.2.1; omega
  refine h w13 q' c' b13 ⟨?_, by simp [V.len], fun z hz => ?_⟩ ?_ ?_
  · rw [List.flatMap_append]
    simpa using hrow
  · rcases List.mem_append.1 hz with hz | hz
    · exact mv (V.elts z hz)
    · obtain rfl : z = y := by simpa using hz
      exact mv hy
  · exact (g12.ch.mono fun k hk => by have := (lo _ hk).1; show n8 ≤ k; omega).trans (h13.mono fun k (hk : k = n8) => by show n8 ≤ k; omega)
  · exact (g12.ch.mono fun k hk => .inr hk).trans (h13.mono fun k hk => .inl hk)
end
theorem items_le : ∀ (l : List VT), l.length ≤ (flatL l).length
  | [] => Nat.le_refl _
  | x :: r => by
    have := items_le r
    have := flatP_pos x
    simp only [flatL, List.length_append, List.length_cons]
    omega
set_option maxHeartbeats 1000000 in
theorem build_any (k : Nat) : ∀ (x : VT) (A C : List PartM) (q : Option Addr) (t d : Nat) (w : World), SizeOf.sizeOf x < k → AtP w q t (A ++ flatP x ++ C) → t ≤ 1000000 →
    Calls Tryz.prog 140 #[.slice q t d, .int .i64 (A.length : Int)] w fun e w' => ∃ p m c, e = .returned (.tuple #[valV x p m c, .int .i64 ((A.length + (flatP x).length : Nat) : Int)]) ∧ Ch No w w' ∧ IsVB (fun b => w.heap.size ≤ b ∧ b < w'.heap.size) w' x p m c := by
  induction k with
  | zero => intro x A C q t d w h; omega
  | succ k ih =>
    intro x A C q t d w hk hA h6
    refine calls_of_fnT mixed Tryz.func140 (s := s140) ?_
    rw [t140]
    have hlt := hA.1
    simp only [List.length_append] at hlt
    have hfp : (flatP x).length = 1 + (flatL x.items).length := by rw [flatP_def]; simp; omega
    have hil := items_le x.items
    have hLi : (A ++ flatP x ++ C)[A.length]? = some ⟨x.kind, x.int, x.text, x.items.length⟩ := by
      rw [flatP_def, List.append_assoc, List.getElem?_append_right (Nat.le_refl _), Nat.sub_self]; rfl
    refine nw fun w1 h1 z1 b1 => ?_
    have hs1 := h1.size
    have hb1 := b1.lt
    refine hd_i (fun w' => AtP w' q t (A ++ flatP x ++ C)) ((hA.no h1).no (Ch.refl No _).drew) ?_
    have A1 := (hA.no h1).no (Ch.refl No _).drew
    have bd := b1.ch (Ch.refl No _).drew (fun h => h)
    have hd : Ch No w w1.drew := h1.drew
    obtain ⟨g0, o0, hq0, _⟩ := A1.2 (by omega)
    subst hq0
    have cellC : ∀ w', AtP w' (some ⟨g0, o0, none⟩) t (A ++ flatP x ++ C) → ∀ (j : Nat) (y : PartM), (A ++ flatP x ++ C)[j]? = some y → w'.cell? ⟨g0, o0 + j * 4, none⟩ = some (.int .i64 y.kind) ∧ w'.cell? ⟨g0, o0 + j * 4 + 1, none⟩ = some (.int .i64 y.int) ∧ w'.cell? ⟨g0, o0 + j * 4 + 2, none⟩ = some (.string y.text) ∧ w'.cell? ⟨g0, o0 + j * 4 + 3, none⟩ = some (.int .i64 y.n) := fun w' h j y hy => by
      obtain ⟨g, o, e, hh⟩ := h.2 (by omega)
      simp only [Option.some.injEq, Addr.mk.injEq, and_true] at e
      obtain ⟨rfl, rfl⟩ := e
      exact hh j y hy
    have hg0 : g0 < w.heap.size := by
      obtain ⟨g, o, e, hh⟩ := hA.2 (by omega)
      simp only [Option.some.injEq, Addr.mk.injEq, and_true] at e
      obtain ⟨rfl, rfl⟩ := e
      exact World.block_lt_of_cell? w _ (hh _ _ hLi).1
    refine ix_i (by omega) (by omega) ?_
    simp only [Int.toNat_natCast, addr_add]
    refine lh_int (fun w' h => (cellC w' h _ _ hLi).1) (ix_i (by omega) (by omega) ?_)
    simp only [Int.toNat_natCast, addr_add]
    refine lh_int (fun w' h => (cellC w' h _ _ hLi).2.1) (ix_i (by omega) (by omega) ?_)
    simp only [Int.toNat_natCast, addr_add]
    refine lh_str (fun w' h => (cellC w' h _ _ hLi).2.2.1) ?_
    dsimp only
    refine eff_i (nw fun w2 h2 z2 b2 => bk (A1.no h2) (eff_i ?_))
    have bd2 := bd.ch h2 (fun h => h)
    generalize hn8 : w1.drew.heap.size = n8 at *
    have hn8' : w.heap.size + 1 ≤ n8 := by have := bd.lt; omega
    refine st4_i (x := .mk x.kind x.int x.text []) (p := none) (m := 0) (c := 0) b2 rfl fun w3 h3 b3 => bk ((A1.no h2).keep h3 (fun g o e e' => by simp only [Option.some.injEq, Addr.mk.injEq] at e; omega)) (un_h ?_)
    have bd3 := bd2.ch h3 (fun e => by omega)
    have H3 : Ch No w w3 := (hd.trans h2).then_ h3 fun i hi e => by omega
    have A3 := hA.no H3
    have hs3 := h3.size
    have hs2 := b2.lt
    have hwi : IntKind.i64.wrap ((A.length : Int) + 1) = ((A.length + 1 : Nat) : Int) := wrap_succ (by omega) (by omega)
    rw [hwi]
    refine loop_i mixed m140_9 s140_9 (by kernel_rfl) (by kernel_rfl)
      (fun (v : Int × Int × Unit) w' => ∃ (j : Nat) (acc : List Elt) (q' : Option Addr) (d' : Nat), v.2.1 = j ∧ j ≤ x.items.length ∧ v.1 = ((A.length + 1 + (flatL (x.items.take j)).length : Nat) : Int) ∧ Blk w' n8 [.int .i64 x.kind, .int .i64 x.int, .string x.text, .slice q' j d'] tVal ∧ RowV w' (n8 + 1) q' j d' acc ∧ acc.map (·.1) = x.items.take j ∧ Ch No w w' ∧ Blk w' w.heap.size [.int .i64 0, .int .i64 0, .string (bytesL []), .slice none 0 0] tVal ∧ n8 + 1 ≤ w'.heap.size)
      (fun (v : Int × Int × Unit) _ => x.items.length - v.2.1.toNat) (((A.length + 1 : Nat) : Int), 0, ()) rfl ⟨0, [], none, 0, rfl, by omega, rfl, b3, RowV.nil _ _, rfl, H3, bd3, by omega⟩ ?_
    intro v g w4 hv
    rw [t140_9]
    obtain ⟨a, b, ⟨⟩⟩ := v
    dsimp only at hv ⊢
    obtain ⟨j, acc, q4, d4, hb, hj, ha, b4, V4, hacc, H4, c4, hs4⟩ := hv
    subst hb ha
    have A4 := hA.no H4
    refine cut_i mixed s140_10 (fun v w' => w' = w4 ∧ v.1 = decide (j < x.items.length)) (by kernel_rfl) (fun g => ?_) ?_
    · rw [t140_10]
      refine ix_i (by omega) (by omega) ?_
      simp only [Int.toNat_natCast, addr_add]
      refine ld_int (cellC w4 A4 _ _ hLi).2.2.2 (br_both (fun e => ⟨rfl, (_, ()), rfl, rfl, ?_⟩) fun e => ⟨rfl, (false, ()), rfl, rfl, ?_⟩)
      · have hj' : j < x.items.length := by have e := lt_t e; dsimp only at e; omega
        rw [decide_eq_true hj']
        refine decide_eq_true ?_
        have h1 := items_le (x.items.drop j)
        have h2 : (flatL x.items).length = (flatL (x.items.take j)).length + (flatL (x.items.drop j)).length := by
          conv => lhs; rw [← List.take_append_drop j x.items, flatL_app, List.length_append]
        rw [List.length_drop] at h1
        omega
      · have e := lt_f e
        dsimp only at e
        exact (decide_eq_false (by omega)).symm
    intro v g w5 hv
    obtain ⟨u, ⟨⟩⟩ := v
    obtain ⟨hw5, hu⟩ := hv
    dsimp only at hu
    subst hu hw5
    refine br_both (fun e => ?_) fun e => ?_
    · have hj' := of_decide_eq_true e
      have hdr : x.items.drop j = x.items[j] :: x.items.drop (j + 1) := List.drop_eq_getElem_cons hj'
      have htk : x.items.take (j + 1) = x.items.take j ++ [x.items[j]] := List.take_succ_eq_append_getElem hj'
      have hy : x.items[j]? = some x.items[j] := List.getElem?_eq_getElem hj'
      have hsz := VT.size_lt hy
      generalize x.items[j] = y at *
      have hL : A ++ flatP x ++ C = (A ++ ⟨x.kind, x.int, x.text, x.items.length⟩ :: flatL (x.items.take j)) ++ flatP y ++ (flatL (x.items.drop (j + 1)) ++ C) := by
        rw [flatP_def]
        have hfl : flatL x.items = flatL (x.items.take j) ++ (flatP y ++ flatL (x.items.drop (j + 1))) := by
          conv => lhs; rw [← List.take_append_drop j x.items, hdr, flatL_app]
          rfl
        rw [hfl]
        simp
      have hAl : (A ++ ⟨x.kind, x.int, x.text, x.items.length⟩ :: flatL (x.items.take j)).length = A.length + 1 + (flatL (x.items.take j)).length := by simp; omega
      rw [hL] at A4
      have hc := ih y (A ++ ⟨x.kind, x.int, x.text, x.items.length⟩ :: flatL (x.items.take j)) (flatL (x.items.drop (j + 1)) ++ C) _ t d w5 (by omega) A4 h6
      rw [hAl] at hc
      refine cl_i hc ?_
      rintro e' w6 ⟨p6, m6, c6, rfl, h6', V6⟩
      refine ⟨((y.kind, y.int, y.text, (p6, m6, c6), ()), ((A.length + 1 + (flatL (x.items.take j)).length + (flatP y).length : Nat) : Int), ()), rfl, ?_⟩
      dsimp only
      refine put_v (x := y) (p := p6) (m := m6) (c := c6) fun w7 h7 b7 => ?_
      have b7' := (b4.ch h6' (fun h => h)).ch h7 (fun h => h)
      refine ld_sl (b7'.cell 3) (ld_v b7 ?_)
      dsimp only
      refine nw fun w8 h8 z8 (b8 : Blk w8 _ (Elt.cells (y, p6, m6, c6)) tVal) => ?_
      have H8 : Ch No w5 w8 := h6'.trans (h7.trans h8)
      have s5 := h6'.size
      have s7 := h7.size
      have s8 := h8.size
      have Y8 := (V6.ch h7 (fun k _ h => h)).ch h8 (fun k _ h => h)
      have lo : ∀ k, rowS q4 j d4 k → n8 + 1 ≤ k ∧ k < w5.heap.size := fun k hk => V4.row.lt hk
      refine vap_i n8 q4 j d4 acc (by omega) (y, p6, m6, c6) w7.heap.size (b4.ch H8 (fun h => h)) (V4.ch H8 (fun k _ h => h)) (by omega) (Y8.mono fun k hk => ⟨by have := hk.1; omega, by have := hk.2; omega, fun hr => by have := (lo k hr).2; have := hk.1; omega⟩) b8 fun w9 q9 d9 b9 V9 h9 h9' => ?_
      have hwj : IntKind.i64.wrap ((j : Int) + 1) = ((j + 1 : Nat) : Int) := wrap_succ (by omega) (by omega)
      rw [hwj]
      refine ⟨(_, _, ()), rfl, ⟨j + 1, acc ++ [(y, p6, m6, c6)], q9, d9, rfl, hj', ?_, b9, V9, ?_, (H4.trans H8).then_ h9 fun i hi hh => by omega, (c4.ch H8 (fun h => h)).ch h9 (fun hh => by omega), by have := h9.size; omega⟩, ?_⟩
      · dsimp only
        rw [htk, flatL_app]
        simp [flatL]; omega
      · rw [htk, List.map_append, hacc]; rfl
      · dsimp only
        rw [Int.toNat_natCast, Int.toNat_natCast]
        exact Nat.sub_lt_sub_left hj' (Nat.lt_succ_self j)
    · have hj' : j = x.items.length := by have := of_decide_eq_false e; omega
      subst hj'
      rw [List.take_length] at hacc
      refine ⟨rfl, (_, ()), rfl, fun g => ?_⟩
      dsimp only
      rw [List.take_length]
      refine ld_v (x := x) b4 (st4_i (x := x) (p := q4) (m := x.items.length) (c := d4) c4 rfl fun w6 h6' b6 => ld_v b6 ?_)
      dsimp only
      refine ⟨q4, x.items.length, d4, ?_, H4.then_ h6' fun i hi e => by omega, ?_⟩
      · unfold valV
        rw [hfp, show A.length + (1 + (flatL x.items).length) = A.length + 1 + (flatL x.items).length by omega]
      · have hx := V4.is x.kind x.int x.text
        rw [hacc] at hx
        have hxe : VT.mk x.kind x.int x.text x.items = x := by cases x; rfl
        rw [hxe] at hx
        have s6 := h6'.size
        exact (hx.ch h6' (fun k hk (e : k = w.heap.size) => by have := hk.1; omega)).mono fun k hk => ⟨by have := hk.1; omega, by have := hk.2; omega⟩
end Go.Proofs.YtjlmkahagcojcaaGreatDoor.V
