/- The decoder: list. -/
import Derived.Test.YtjellmblammiaaaDoorDcx
namespace Go.Proofs.YtjellmblammiaaaDoor
open Go Tr
open Go.RowKit (Below)
set_option maxRecDepth 100000
theorem infoVal : (Tryd.prog.info? 24).map (fun i => (i.zero, i.size, i.bytes)) = some (some (.agg #[.int .i64 0, .int .i64 0, .string (bytesL []), .slice none 0 0]), 4, 56) := by kernel_rfl
abbrev Elt := VT × Option Addr × Nat × Nat
def Elt.cells (y : Elt) : List Value := cellsV y.1 y.2.1 y.2.2.1 y.2.2.2
theorem flat4 : ∀ (acc : List Elt) (i r : Nat) (y : Elt), acc[i]? = some y → r < 4 → (acc.flatMap Elt.cells)[i * 4 + r]? = y.cells[r]?
  | [], i, _, _, h, _ => by simp at h
  | z :: acc, 0, r, y, h, hr => by
    simp at h
    subst h
    rw [List.flatMap_cons, Nat.zero_mul, Nat.zero_add, List.getElem?_append_left (by simpa [Elt.cells, cellsV] using hr)]
  | z :: acc, i + 1, r, y, h, hr => by
    have hl : (Elt.cells z).length = 4 := rfl
    rw [List.flatMap_cons, List.getElem?_append_right (by omega), hl, show (i + 1) * 4 + r - 4 = i * 4 + r by omega]
    exact flat4 acc i r y (by simpa using h) hr
theorem RLB_of {B : Nat → Prop} {w : World} {ad : Addr} : ∀ (l : List Elt) (j : Nat), (∀ i y, l[i]? = some y → CellsV w (ad.add ((j + i) * 4)) y.1 y.2.1 y.2.2.1 y.2.2.2 ∧ IsVB B w y.1 y.2.1 y.2.2.1 y.2.2.2) → RLB B w (l.map (·.1)) ad j
  | [], _, _ => trivial
  | y :: r, j, h => by
    simp only [List.map_cons, RLB]
    refine ⟨?_, RLB_of r (j + 1) fun i z hz => ?_⟩
    · obtain ⟨h1, h2⟩ := h 0 y rfl
      exact ⟨_, _, _, h1, h2.cap, h2.big, h2.its⟩
    · have := h (i + 1) z (by simpa using hz)
      rw [show j + 1 + i = j + (i + 1) by omega]
      exact this
/-- A list of values of one's own: the elements' memory lies elsewhere. -/
structure RowV (w : World) (base : Nat) (p : Option Addr) (n c : Nat) (acc : List Elt) : Prop where
  row : Row w base 24 4 p n c (acc.flatMap Elt.cells)
  len : acc.length = n
  elts : ∀ y ∈ acc, IsVB (fun k => base ≤ k ∧ k < w.heap.size ∧ ¬ rowS p n c k) w y.1 y.2.1 y.2.2.1 y.2.2.2
namespace RowV
variable {w w' : World} {base : Nat} {p : Option Addr} {n c : Nat} {acc : List Elt} {S : Nat → Prop}
theorem nil (w : World) (base : Nat) : RowV w base none 0 0 [] := ⟨Row.nil _ _ _ _, rfl, fun _ h => by cases h⟩
theorem ch (h : RowV w base p n c acc) (hc : Ch S w w') (hS : ∀ k, base ≤ k → ¬ S k) : RowV w' base p n c acc :=
  ⟨h.row.ch hc (fun k hk => hS k (h.row.lt hk).1), h.len, fun y hy => ((h.elts y hy).ch hc (fun k hk => hS k hk.1)).mono fun k hk => ⟨hk.1, Nat.lt_of_lt_of_le hk.2.1 hc.size, hk.2.2⟩⟩
theorem cap (h : RowV w base p n c acc) : n ≤ c := by
  have hh := h.row
  rcases hh.2 with ⟨e, he⟩ | ⟨g, cap, cur, e, _, _, hnc, _⟩
  · omega
  · simp only [Value.slice.injEq, true_and] at e
    omega
theorem big (h : RowV w base p n c acc) : c ≤ 9223372036854775807 := by
  have hh := h.row
  rcases hh.2 with ⟨e, he⟩ | ⟨g, cap, cur, e, _, _, _, hm, _⟩
  · simp only [Value.slice.injEq] at e
    omega
  · simp only [Value.slice.injEq, true_and] at e
    have : maxLen = 9223372036854775807 := by decide
    omega
theorem is (h : RowV w base p n c acc) (k i : Int) (s : ByteArray) : IsVB (fun b => base ≤ b ∧ b < w.heap.size) w (.mk k i s (acc.map (·.1))) p n c := by
  refine ⟨h.cap, h.big, ?_⟩
  rw [RItB_def]
  refine ⟨by simp [VT.items, h.len], fun hn => ?_⟩
  have hh := h.row
  rcases hh.2 with ⟨_, he⟩ | ⟨g, cap, cur, e, hb, hg, _⟩
  · omega
  · simp only [Value.slice.injEq, true_and] at e
    obtain ⟨rfl, rfl⟩ := e
    refine ⟨_, rfl, ⟨hb, (Array.getElem?_eq_some_iff.1 hg).1⟩, RLB_of acc 0 fun i y hy => ⟨?_, (h.elts y (List.mem_of_getElem? hy)).mono fun k hk => ⟨hk.1, hk.2.1⟩⟩⟩
    have cell : ∀ r, r < 4 → w.cell? (Addr.add ⟨g, 0, none⟩ (i * 4 + r)) = y.cells[r]? := fun r hr => by
      have hf := flat4 acc i r y hy hr
      have : r < y.cells.length := hr
      rw [List.getElem?_eq_getElem this] at hf ⊢
      exact World.ownsRow.cells (g := g) h.row rfl (i * 4 + r) _ hf
    rw [Nat.zero_add]
    have e0 := cell 0 (by omega)
    rw [Nat.add_zero] at e0
    refine ⟨e0, ?_, ?_, ?_⟩
    · rw [add_add]; exact cell 1 (by omega)
    · rw [add_add]; exact cell 2 (by omega)
    · rw [add_add]; exact cell 3 (by omega)
end RowV
def listM (k : Nat) (depth : Int) (l : List UInt8) (n : Int) : Except Int (VT × List UInt8 × Int) :=
  match l with
  | [] => .error 28
  | m :: l' => if m.toNat > 6 then .error 22 else match decL (decV k (depth + 1)) m.toNat [] l' n with
    | .error e => .error e
    | .ok (xs, l'', n') => .ok (.mk 3 0 (bytesL []) xs, l'', n')
/-! the tree of function 53 -/
abbrev fx53_3 (qa0 : Addr) (qx1 : Int) (n1 : Nat) (x2 : Int) : List (Tmp × Value) := [(0, .pointer (some qa0)), (1, .int .i64 qx1), (4, .pointer (some ⟨n1, 0, none⟩)), (5, .int .i64 (IntKind.i64.wrap x2))]
abbrev mx53_3 : List (Tmp × Comp) := []
def s53_3 : Script := .sym (.clx .nil) .nil
theorem t53_3 (qa0 : Addr) (qx1 : Int) (n1 : Nat) (x2 : Int) (g : Nat → Value) : pieceT Tryd.prog (at_ Tryd.f53 [1, 1, 0]) 29 (fx53_3 qa0 qx1 n1 x2) g (mx53_3.map (·.1)) [] [] s53_3 =
  .br (Decidable.decide (IntKind.i64.wrap x2 > 6))
    (.callx 50 #[.pointer (some qa0), .int .i64 22] (fun ch4 =>
      .done (.panicked ch4)))
    (.fin .normal []) := by kernel_rfl
abbrev fx53_7 (qa0 : Addr) (qx1 : Int) (n1 : Nat) (x2 : Int) (n6 : Nat) : List (Tmp × Value) := [(0, .pointer (some qa0)), (1, .int .i64 qx1), (4, .pointer (some ⟨n1, 0, none⟩)), (6, .pointer (some ⟨n6, 0, none⟩)), (15, .int .i64 (IntKind.i64.wrap x2))]
abbrev m53_7 : List (Tmp × Comp) := [(16, .leaf (.int .i64))]
abbrev mx53_7 : List (Tmp × Comp) := []
abbrev mr53_7 : List (Tmp × Comp) := []
def s53_7 : Script := .sym (.hd0 (.hq 0 (.hq 2 (.hq 3 (.hq 4 (.hl 1 (.ld .sl (.he 5 (.clp (.one (.agg [.int .i64, .int .i64, .str, .sl])) (.he 6 (.he 7 (.rn (.one (.leaf .sl)) (.hq 8 (.he 9 .nil))))) .nil))) (.hl 5 (.clp (.one (.agg [.int .i64, .int .i64, .str, .sl])) (.hl 1 (.ld .sl (.he 6 (.he 7 (.rn (.one (.leaf .sl)) (.hq 8 (.he 9 .nil)))))) (.hl 6 (.he 1 (.ld .sl (.he 7 (.rn (.one (.leaf .sl)) (.hq 8 (.he 9 .nil)))))) .nil)) .nil) .nil))))))) .nil
theorem t53_7 (qa0 : Addr) (qx1 : Int) (n1 : Nat) (x2 : Int) (n6 : Nat) (x_16 : Int) (g : Nat → Value) : pieceT Tryd.prog (at_ Tryd.f53 [1, 1, 1, 1, 0, 1, 0, 0]) 29 (fx53_7 qa0 qx1 n1 x2 n6 ++ mvals m53_7 (x_16, ())) g (m53_7.map (·.1)) (mx53_7.map (·.1)) (mr53_7.map (·.1)) s53_7 =
  .br (Decidable.decide (x_16 < IntKind.i64.wrap x2))
    (.hdrawn
      (.both
        (.eff
          (.load ⟨n6, 3, none⟩ .sl (fun l8 =>
            .back
              (.eff
                (.callp 34 #[.pointer (some qa0), .int .i64 (IntKind.i64.wrap (qx1 + 1))] (.one (.agg [.int .i64, .int .i64, .str, .sl])) (fun r9 =>
                  .back
                    (.eff
                      (.new (.cells #[.int .i64 r9.1, .int .i64 r9.2.1, .string r9.2.2.1, .slice r9.2.2.2.1.1 r9.2.2.2.1.2.1 r9.2.2.2.1.2.2] 24 (0, 0)) (fun n10 =>
                        .back
                          (.eff
                            (.run (builtin .append #[22, 22] 22 #[false, false] #[.slice l8.1 l8.2.1 l8.2.2, .slice (some ⟨n10, 0, none⟩) 1 1]) (.one (.leaf .sl)) (fun l11 =>
                              .back
                                (.eff
                                  (.store ⟨n6, 3, none⟩ (.slice l11.1 l11.2.1 l11.2.2)
                                    (.back
                                      (.undrawn
                                        (.fin .normal [(16, .int .i64 (IntKind.i64.wrap (x_16 + 1)))])))))))))))) (fun ch12 =>
                  .done (.panicked ch12)))))))
        (.both
          (.eff
            (.callp 34 #[.pointer (some qa0), .int .i64 (IntKind.i64.wrap (qx1 + 1))] (.one (.agg [.int .i64, .int .i64, .str, .sl])) (fun r13 =>
              .back
                (.both
                  (.eff
                    (.load ⟨n6, 3, none⟩ .sl (fun l14 =>
                      .back
                        (.eff
                          (.new (.cells #[.int .i64 r13.1, .int .i64 r13.2.1, .string r13.2.2.1, .slice r13.2.2.2.1.1 r13.2.2.2.1.2.1 r13.2.2.2.1.2.2] 24 (0, 0)) (fun n15 =>
                            .back
                              (.eff
                                (.run (builtin .append #[22, 22] 22 #[false, false] #[.slice l14.1 l14.2.1 l14.2.2, .slice (some ⟨n15, 0, none⟩) 1 1]) (.one (.leaf .sl)) (fun l16 =>
                                  .back
                                    (.eff
                                      (.store ⟨n6, 3, none⟩ (.slice l16.1 l16.2.1 l16.2.2)
                                        (.back
                                          (.undrawn
                                            (.fin .normal [(16, .int .i64 (IntKind.i64.wrap (x_16 + 1)))]))))))))))))))
                  (.both
                    (.eff
                      (.new (.cells #[.int .i64 r13.1, .int .i64 r13.2.1, .string r13.2.2.1, .slice r13.2.2.2.1.1 r13.2.2.2.1.2.1 r13.2.2.2.1.2.2] 24 (0, 0)) (fun n17 =>
                        .back
                          (.eff
                            (.load ⟨n6, 3, none⟩ .sl (fun l18 =>
                              .back
                                (.eff
                                  (.run (builtin .append #[22, 22] 22 #[false, false] #[.slice l18.1 l18.2.1 l18.2.2, .slice (some ⟨n17, 0, none⟩) 1 1]) (.one (.leaf .sl)) (fun l19 =>
                                    .back
                                      (.eff
                                        (.store ⟨n6, 3, none⟩ (.slice l19.1 l19.2.1 l19.2.2)
                                          (.back
                                            (.undrawn
                                              (.fin .normal [(16, .int .i64 (IntKind.i64.wrap (x_16 + 1)))]))))))))))))))
                    (.triv)))) (fun ch20 =>
              .done (.panicked ch20))))
          (.triv))))
    (.fin (.exit 0) []) := by kernel_rfl
def s53 : Script := .clp (.one (.leaf (.int .u8))) (.ct 0 [0, 1, 4, 5] mx53_3 (.lp 0 [0, 1, 4, 6, 15] [16] mx53_7 mr53_7 (.ld (.int .i64) (.ld (.int .i64) (.ld .str (.ld .sl (.ld (.int .i64) (.ld (.int .i64) (.ld .str (.ld .sl .nil)))))))) .nil)) .nil
theorem t53 (qa0 : Addr) (qx1 : Int) : fnT Tryd.prog Tryd.f53 #[.pointer (some qa0), .int .i64 qx1] s53 =
  .new (.cells #[.int .i64 0, .int .i64 0, .string (bytesL []), .slice none 0 0] 24 (0, 0)) (fun n1 =>
    .callp 49 #[.pointer (some qa0)] (.one (.leaf (.int .u8))) (fun x2 =>
      .cut (at_ Tryd.f53 [1, 1, 0]) 29 (fx53_3 qa0 qx1 n1 x2) mx53_3 (fun u5 g5 =>
        .new (.cells #[.int .i64 0, .int .i64 0, .string (bytesL []), .slice none 0 0] 24 (0, 0)) (fun n6 =>
          .store ⟨n6, 0, none⟩ (.int .i64 3)
            (.store ⟨n6, 1, none⟩ (.int .i64 0)
              (.store ⟨n6, 2, none⟩ (.string (bytesL []))
                (.store ⟨n6, 3, none⟩ (.slice none 0 0)
                  (.loop (at_ Tryd.f53 [1, 1, 1, 1, 0, 1, 0, 0]) 29 (fx53_7 qa0 qx1 n1 x2 n6) [(16, .int .i64 0)] mx53_7 mr53_7 0 (fun u21 g21 =>
                    .load ⟨n6, 0, none⟩ (.int .i64) (fun x22 =>
                      .load ⟨n6, 1, none⟩ (.int .i64) (fun x23 =>
                        .load ⟨n6, 2, none⟩ .str (fun s24 =>
                          .load ⟨n6, 3, none⟩ .sl (fun l25 =>
                            .store ⟨n1, 0, none⟩ (.int .i64 x22)
                              (.store ⟨n1, 1, none⟩ (.int .i64 x23)
                                (.store ⟨n1, 2, none⟩ (.string s24)
                                  (.store ⟨n1, 3, none⟩ (.slice l25.1 l25.2.1 l25.2.2)
                                    (.load ⟨n1, 0, none⟩ (.int .i64) (fun x26 =>
                                      .load ⟨n1, 1, none⟩ (.int .i64) (fun x27 =>
                                        .load ⟨n1, 2, none⟩ .str (fun s28 =>
                                          .load ⟨n1, 3, none⟩ .sl (fun l29 =>
                                            .done (.returned (.agg #[.int .i64 x26, .int .i64 x27, .string s28, .slice l29.1 l29.2.1 l29.2.2]))))))))))))))) (fun u30 g30 =>
                    .stuck)))))))) (fun ch31 =>
      .done (.panicked ch31))) := by kernel_rfl

theorem eff_i {P : Program} {R : Ending → World → Prop} {Q : Exit → List (Tmp × Value) → World → Prop} {C : World → Prop} {w : World} {t : T} (h : wpT P R Q t (.ef C) w) : wpT P R Q (.eff t) (.he C) w := h
theorem decL_succ (f : List UInt8 → Int → Except Int (VT × List UInt8 × Int)) (m : Nat) (acc : List VT) (l : List UInt8) (n : Int) : decL f (m + 1) acc l n = (match f l n with
    | .error e => .error e
    | .ok (x, l', n') => decL f m (acc ++ [x]) l' n') := rfl
/-- Behind a list's element: it is appended. -/
theorem list_tail {R : Ending → World → Prop} {Q : Exit → List (Tmp × Value) → World → Prop} (nd n6 : Nat) (p : Option Addr) (m c : Nat) (bs : List UInt8) (hnd : nd < n6) (w9 w10 w11 : World) (q : Option Addr) (t d : Nat) (acc : List Elt) (ht : t ≤ 6)
    (b9 : Blk w9 n6 [.int .i64 3, .int .i64 0, .string (bytesL []), .slice q t d] 24) (V9 : RowV w9 (n6 + 1) q t d acc) (hs9 : n6 + 1 ≤ w9.heap.size) (h10 : Ch (· = nd) w9 w10) (y : Elt) (hy : IsVB (fun b => w9.heap.size ≤ b ∧ b < w10.heap.size) w10 y.1 y.2.1 y.2.2.1 y.2.2.2)
    (i1 : Nat) (n1 : Int) (D10 : DecS w10 nd p m c bs i1 n1) (h11 : Ch No w10 w11) (n10 : Nat) (b11 : Blk w11 n10 y.cells 24) (X : Value)
    (hfin : ∀ w13 q' d', Blk w13 n6 [.int .i64 3, .int .i64 0, .string (bytesL []), .slice q' (t + 1) d'] 24 → RowV w13 (n6 + 1) q' (t + 1) d' (acc ++ [y]) → Ch (fun b => b = nd ∨ n6 ≤ b) w9 w13 → DecS w13 nd p m c bs i1 n1 → (∀ b vs ty, Blk w9 b vs ty → b < n6 → b ≠ nd → Blk w13 b vs ty) → n6 + 1 ≤ w13.heap.size → Q .normal [(16, X)] w13) :
    wpT Tryd.prog R Q (.run (builtin .append #[22, 22] 22 #[false, false] #[.slice q t d, .slice (some ⟨n10, 0, none⟩) 1 1]) (.one (.leaf .sl)) (fun l11 : Option Addr × Nat × Nat => .back (.eff (.store ⟨n6, 3, none⟩ (.slice l11.1 l11.2.1 l11.2.2) (.back (.undrawn (.fin .normal [(16, X)]))))))) (.ef (fun _ => True)) w11 := by
  have V10 : RowV w10 (n6 + 1) q t d acc := V9.ch h10 (fun k hk (e : k = nd) => by omega)
  have V11 : RowV w11 (n6 + 1) q t d acc := V10.ch h11 (fun k hk h => h)
  have b10 := b9.ch h10 (fun e : n6 = nd => by omega)
  have c11 := b10.ch h11 (fun h => h)
  have D11 := D10.no h11
  have s10 := h10.size
  have s11 := h11.size
  refine ap_blk (by kernel_rfl) infoVal rfl (by omega) V11.row (by omega) b11 rfl (fun u hu => ?_) (Nat.le_trans (by omega : t + 1 ≤ 7) (by decide)) (by omega) fun q' c' w12 g12 => ?_
  · simp only [Elt.cells, cellsV, List.mem_cons, List.mem_nil_iff, or_false] at hu
    rcases hu with rfl | rfl | rfl | rfl <;> rfl
  have s12 := g12.ch.size
  have lo : ∀ k, rowS q t d k → n6 + 1 ≤ k ∧ k < w9.heap.size := fun k hk => V9.row.lt hk
  have b12 : Blk w12 n6 _ _ := c11.ch g12.ch (fun h => by have := (lo _ h).1; omega)
  refine ⟨trivial, ?_⟩
  show wpT _ _ _ (.store _ _ _) (.ef _) w12
  refine st_blk b12 (by simp) rfl fun w13 h13 z13 b13 => ⟨trivial, ?_⟩
  show Q _ _ w13
  have hrow := Row.ch g12.own h13 (fun k hk (e : k = n6) => by
    rcases g12.lies k hk with h | h
    · have := (lo _ h).1; omega
    · omega)
  refine hfin w13 q' c' b13 ⟨?_, by simp [V9.len], fun z hz => ?_⟩ ?_ ?_ ?_ (by omega)
  · rw [List.flatMap_append]
    simpa using hrow
  · have lies : ∀ k, rowS q' (t + 1) c' k → rowS q t d k ∨ w11.heap.size ≤ k := g12.lies
    rcases List.mem_append.1 hz with hz | hz
    · have e9 := V11.elts z hz
      have e12 := e9.ch g12.ch (fun k hk => hk.2.2)
      have e13 := e12.ch h13 (fun k hk (e : k = n6) => by have := hk.1; omega)
      refine e13.mono fun k hk => ⟨hk.1, by have := hk.2.1; omega, fun hr => ?_⟩
      rcases lies k hr with h | h
      · exact hk.2.2 h
      · have := hk.2.1; omega
    · obtain rfl : z = y := by simpa using hz
      have e11 := hy.ch h11 (fun k _ h => h)
      have e12 := e11.ch g12.ch (fun k hk h => by have := (lo _ h).2; have := hk.1; omega)
      have e13 := e12.ch h13 (fun k hk (e : k = n6) => by have := hk.1; omega)
      refine e13.mono fun k hk => ⟨by have := hk.1; omega, by have := hk.2; omega, fun hr => ?_⟩
      rcases lies k hr with h | h
      · have := (lo _ h).2; have := hk.1; omega
      · have := hk.2; omega
  · refine (h10.mono fun k hk => .inl hk).trans ((h11.no).trans ((g12.ch.mono fun k hk => .inr (by have := (lo _ hk).1; omega)).trans (h13.mono fun k (hk : k = n6) => .inr (by omega))))
  · exact (D11.keep g12.ch (fun k hk => by have := (lo _ hk).1; omega)).keep h13 (fun k (hk : k = n6) => by omega)
  · intro b vs ty hb h1 h2
    exact (((hb.ch h10 h2).ch h11 (fun h => h)).ch g12.ch (fun h => by have := (lo _ h).1; omega)).ch h13 (fun e : b = n6 => by omega)
theorem list_any (k : Nat) (nd : Nat) (p : Option Addr) (m c : Nat) (bs : List UInt8) (depth : Int) (d0 : 0 ≤ depth) (d1 : depth ≤ 3)
    (hv : ∀ (w : World) (i : Nat) (parts : Int), DecS w nd p m c bs i parts → 0 ≤ parts → parts ≤ 12 → Calls Tryd.prog 34 #[.pointer (some ⟨nd, 0, none⟩), .int .i64 (depth + 1)] w (DecR w nd p m c bs (decV k (depth + 1) (bs.drop i) parts)))
    (w : World) (i : Nat) (parts : Int) (D : DecS w nd p m c bs i parts) (p0 : 0 ≤ parts) (p1 : parts ≤ 12) :
    Calls Tryd.prog 53 #[.pointer (some ⟨nd, 0, none⟩), .int .i64 depth] w (DecR w nd p m c bs (listM k depth (bs.drop i) parts)) := by
  refine calls_of_fnT mixed Tryd.func53 (s := s53) ?_
  rw [t53]
  refine nw fun w1 h1 z1 b1 => ?_
  refine cp_i (next_any w1 nd p m c bs i parts (D.no h1)) ?_
  rintro e w2 ⟨h2, hn⟩
  have H2 : Ch (· = nd) w w2 := h1.no.trans h2
  have hnd := D.blk.lt
  cases hd : bs.drop i with
  | nil =>
    rw [hd] at hn
    right
    exact ⟨_, hn, H2, rfl⟩
  | cons u l' =>
    rw [hd] at hn
    obtain ⟨rfl, D2, hl'⟩ := hn
    left
    refine ⟨_, rfl, ?_⟩
    have hu := u.toNat_lt
    have hwu : IntKind.i64.wrap (u.toNat : Int) = (u.toNat : Int) := by rw [IntKind.wrap_i64]; omega
    have B2 := b1.ch h2 (fun e : w.heap.size = nd => by omega)
    unfold listM
    dsimp only
    refine cut_i mixed s53_3 (fun (v : Unit) w' => ¬ u.toNat > 6 ∧ w' = w2) (by kernel_rfl) (fun g => ?_) ?_
    · rw [t53_3, hwu]
      refine br_both (fun e => ?_) fun e => ?_
      · have e : (u.toNat : Int) > 6 := of_decide_eq_true e
        refine cx_i (fail_any _ _ w2) ?_
        rintro r w3 ⟨rfl, rfl⟩
        refine ⟨_, rfl, H2, ?_⟩
        rw [if_pos (by omega)]
      · have e : ¬ (u.toNat : Int) > 6 := of_decide_eq_false e
        exact ⟨rfl, (), rfl, by omega, rfl⟩
    rintro ⟨⟩ g w3 ⟨h6, rfl⟩
    rw [if_neg h6]
    refine nw fun w4 h4 z4 b4 => ?_
    refine st_blk b4 (by simp) rfl fun w5 h5 z5 b5 => st_blk b5 (by simp) rfl fun w6 h6' z6 b6 => st_blk b6 (by simp) rfl fun w7 h7 z7 b7 => st_blk b7 (by simp) rfl fun w8 h8 z8 b8 => ?_
    have hsz := h1.size
    have hsz2 := h2.size
    have h38 : Ch No w3 w8 := h4.then_ (h5.trans (h6'.trans (h7.trans h8))) (fun i hi (e : i = _) => by omega)
    have D8 := D2.no h38
    have H8 : Ch (· = nd) w w8 := H2.trans h38.no
    have B8 := B2.ch h38 (fun h => h)
    generalize hn6 : w3.heap.size = n6 at *
    have hbase : w8.heap.size = n6 + 1 := by omega
    have R8 : DecR w nd p m c bs (match decL (decV k (depth + 1)) u.toNat [] l' parts with
      | .error e => .error e
      | .ok (xs, l'', n') => .ok (.mk 3 0 (bytesL []) xs, l'', n')) = DecR w nd p m c bs (match decL (decV k (depth + 1)) u.toNat [] (bs.drop (i + 1)) parts with
      | .error e => .error e
      | .ok (xs, l'', n') => .ok (.mk 3 0 (bytesL []) xs, l'', n')) := by rw [hl']
    rw [R8]
    refine loop_i mixed m53_7 s53_7 (by kernel_rfl) (by kernel_rfl)
      (fun (v : Int × Unit) w' => ∃ (t : Nat) (q : Option Addr) (d : Nat) (acc : List Elt) (i' : Nat) (n' : Int), v.1 = t ∧ t ≤ u.toNat ∧ Blk w' n6 [.int .i64 3, .int .i64 0, .string (bytesL []), .slice q t d] 24 ∧ Blk w' w.heap.size [.int .i64 0, .int .i64 0, .string (bytesL []), .slice none 0 0] 24 ∧
        RowV w' (n6 + 1) q t d acc ∧ Ch (· = nd) w w' ∧ DecS w' nd p m c bs i' n' ∧ 0 ≤ n' ∧ n' ≤ 12 ∧ n6 + 1 ≤ w'.heap.size ∧
        decL (decV k (depth + 1)) u.toNat [] (bs.drop (i + 1)) parts = decL (decV k (depth + 1)) (u.toNat - t) (acc.map (·.1)) (bs.drop i') n')
      (fun (v : Int × Unit) _ => u.toNat - v.1.toNat) (0, ()) rfl ⟨0, none, 0, [], i + 1, parts, rfl, by omega, b8, B8, RowV.nil _ _, H8, D8, p0, p1, by omega, rfl⟩ ?_
    rintro ⟨_, ⟨⟩⟩ g wz ⟨t, q, d, acc, i', n', rfl, htu, b9, B9, V9, H9, D9, n0, n1', hs9, hm⟩
    rw [t53_7, hwu]
    have hdw : IntKind.i64.wrap (depth + 1) = depth + 1 := by rw [IntKind.wrap_i64]; omega
    rw [hdw]
    refine br_both (fun e => ?_) fun e => ?_
    · have e : (t : Int) < (u.toNat : Int) := of_decide_eq_true e
      obtain ⟨f, hf⟩ : ∃ f, u.toNat - t = f + 1 := ⟨u.toNat - t - 1, by omega⟩
      rw [hf, decL_succ] at hm
      refine ⟨fun _ => True, trivial, ?_⟩
      have hdr : Ch No wz wz.drew := (Ch.refl _ _).drew
      replace b9 := b9.ch hdr (fun h => h)
      replace B9 := B9.ch hdr (fun h => h)
      replace V9 := V9.ch hdr (fun _ _ h => h)
      replace H9 := H9.trans hdr.no
      replace D9 := D9.no hdr
      replace hs9 := Nat.le_trans hs9 hdr.size
      generalize wz.drew = w9 at *
      have hwt : IntKind.i64.wrap ((t : Int) + 1) = ((t + 1 : Nat) : Int) := by rw [IntKind.wrap_i64]; omega
      rw [hwt]
      -- what holds behind the round
      have fin : ∀ (x : VT) (q1 : Option Addr) (k1 c1 : Nat) (i1 : Nat) (n1 : Int), decV k (depth + 1) (bs.drop i') n' = .ok (x, bs.drop i1, n1) → ∀ w13 q' d', Blk w13 n6 [.int .i64 3, .int .i64 0, .string (bytesL []), .slice q' (t + 1) d'] 24 → RowV w13 (n6 + 1) q' (t + 1) d' (acc ++ [(x, q1, k1, c1)]) → Ch (fun b => b = nd ∨ n6 ≤ b) w9 w13 → DecS w13 nd p m c bs i1 n1 → (∀ b vs ty, Blk w9 b vs ty → b < n6 → b ≠ nd → Blk w13 b vs ty) → n6 + 1 ≤ w13.heap.size →
          ∃ v' : Int × Unit, [((16 : Nat), Value.int .i64 ((t + 1 : Nat) : Int))] = mvals m53_7 v' ∧ (∃ (t : Nat) (q : Option Addr) (d : Nat) (acc : List Elt) (i' : Nat) (n' : Int), v'.1 = t ∧ t ≤ u.toNat ∧ Blk w13 n6 [.int .i64 3, .int .i64 0, .string (bytesL []), .slice q t d] 24 ∧ Blk w13 w.heap.size [.int .i64 0, .int .i64 0, .string (bytesL []), .slice none 0 0] 24 ∧
        RowV w13 (n6 + 1) q t d acc ∧ Ch (· = nd) w w13 ∧ DecS w13 nd p m c bs i' n' ∧ 0 ≤ n' ∧ n' ≤ 12 ∧ n6 + 1 ≤ w13.heap.size ∧
        decL (decV k (depth + 1)) u.toNat [] (bs.drop (i + 1)) parts = decL (decV k (depth + 1)) (u.toNat - t) (acc.map (·.1)) (bs.drop i') n') ∧ u.toNat - v'.1.toNat < u.toNat - ((t : Int), ()).1.toNat := by
        intro x q1 k1 c1 i1 n1 hx w13 q' d' hb hV hC hD hk hs
        have hb12 := partV_bound x n' (depth + 1) n0 n1'
        rw [(dec_is k _ _ _ _ _ _ hx).1] at hb12
        refine ⟨(((t + 1 : Nat) : Int), ()), rfl, ⟨t + 1, q', d', _, i1, n1, rfl, by omega, hb, hk _ _ _ B9 (by omega) (by omega), hV, H9.then_ hC (fun b hb h => by omega), hD, hb12.1, hb12.2.2 rfl, hs, ?_⟩, ?_⟩
        · rw [hm, hx, show u.toNat - (t + 1) = f by omega, List.map_append]
          rfl
        · dsimp only; omega
      have bad : ∀ er, decV k (depth + 1) (bs.drop i') n' = .error er → ∀ w10, Ch (· = nd) w9 w10 → DecR w nd p m c bs (match decL (decV k (depth + 1)) u.toNat [] (bs.drop (i + 1)) parts with
        | .error e => .error e
        | .ok (xs, l'', n') => .ok (.mk 3 0 (bytesL []) xs, l'', n')) (.panicked (thrown er 0)) w10 := by
        intro er he w10 h10
        refine ⟨H9.trans h10, ?_⟩
        rw [hm, he]
      refine ⟨?_, ?_, trivial⟩
      · refine eff_i (ld_sl (b9.cell 3) (bk trivial (eff_i ?_)))
        refine cp_i (hv w9 i' n' D9 n0 n1') ?_
        rintro e2 w10 ⟨h10, hr⟩
        cases hx : decV k (depth + 1) (bs.drop i') n' with
        | error er =>
          rw [hx] at hr
          exact .inr ⟨_, hr, bad er hx w10 h10⟩
        | ok y =>
          obtain ⟨x, l1, n1⟩ := y
          rw [hx] at hr
          obtain ⟨q1, k1, c1, i1, rfl, hI, D10, rfl⟩ := hr
          refine .inl ⟨(x.kind, x.int, x.text, (q1, k1, c1), ()), rfl, bk trivial (eff_i ?_)⟩
          refine nw fun w11 h11 z11 b11 => bk trivial (eff_i ?_)
          exact list_tail nd n6 p m c bs (by omega) w9 w10 w11 q t d acc (by omega) b9 V9 hs9 h10 (x, q1, k1, c1) hI i1 n1 D10 h11 _ b11 _ (fun w13 q' d' a1 a2 a3 a4 a5 a6 => fin x q1 k1 c1 i1 n1 hx w13 q' d' a1 a2 a3 a4 a5 a6)
      refine eff_i ?_
      refine cp_i (hv w9 i' n' D9 n0 n1') ?_
      rintro e2 w10 ⟨h10, hr⟩
      cases hx : decV k (depth + 1) (bs.drop i') n' with
      | error er =>
        rw [hx] at hr
        exact .inr ⟨_, hr, bad er hx w10 h10⟩
      | ok y =>
        obtain ⟨x, l1, n1⟩ := y
        rw [hx] at hr
        obtain ⟨q1, k1, c1, i1, rfl, hI, D10, rfl⟩ := hr
        have b10 := b9.ch h10 (fun e : n6 = nd => by omega)
        refine .inl ⟨(x.kind, x.int, x.text, (q1, k1, c1), ()), rfl, bk trivial ⟨?_, ?_, trivial⟩⟩
        · refine eff_i (ld_sl (b10.cell 3) (bk trivial (eff_i ?_)))
          refine nw fun w11 h11 z11 b11 => bk trivial (eff_i ?_)
          exact list_tail nd n6 p m c bs (by omega) w9 w10 w11 q t d acc (by omega) b9 V9 hs9 h10 (x, q1, k1, c1) hI i1 n1 D10 h11 _ b11 _ (fun w13 q' d' a1 a2 a3 a4 a5 a6 => fin x q1 k1 c1 i1 n1 hx w13 q' d' a1 a2 a3 a4 a5 a6)
        · refine eff_i (nw fun w11 h11 z11 b11 => bk trivial (eff_i ?_))
          refine ld_sl ((b10.ch h11 (fun h => h)).cell 3) (bk trivial (eff_i ?_))
          exact list_tail nd n6 p m c bs (by omega) w9 w10 w11 q t d acc (by omega) b9 V9 hs9 h10 (x, q1, k1, c1) hI i1 n1 D10 h11 _ b11 _ (fun w13 q' d' a1 a2 a3 a4 a5 a6 => fin x q1 k1 c1 i1 n1 hx w13 q' d' a1 a2 a3 a4 a5 a6)
    · have e : ¬ (t : Int) < (u.toNat : Int) := of_decide_eq_false e
      obtain rfl : t = u.toNat := by omega
      refine ⟨rfl, (), rfl, fun g => ?_⟩
      refine ld_int (b9.cell 0) (ld_int (b9.cell 1) (ld_str (b9.cell 2) (ld_sl (b9.cell 3) ?_)))
      refine st_blk B9 (by simp) rfl fun w10 h10 z10 b10 => st_blk b10 (by simp) rfl fun w11 h11 z11 b11 => st_blk b11 (by simp) rfl fun w12 h12 z12 b12 => st_blk b12 (by simp) rfl fun w13 h13 z13 b13 => ?_
      refine ld_int (b13.cell 0) (ld_int (b13.cell 1) (ld_str (b13.cell 2) (ld_sl (b13.cell 3) ?_)))
      have h913 := h10.trans (h11.trans (h12.trans h13))
      have V13 := V9.ch h913 (fun k hk (e : k = w.heap.size) => by omega)
      have D13 := D9.keep h913 (fun k (e : k = w.heap.size) => by omega)
      refine ⟨H9.then_ h913 (fun b hb (e : b = w.heap.size) => by omega), ?_⟩
      rw [hm, Nat.sub_self]
      unfold decL
      dsimp only
      exact ⟨q, u.toNat, d, i', rfl, (V13.is 3 0 (bytesL [])).mono fun b hb => ⟨by omega, hb.2⟩, D13, rfl⟩
end Go.Proofs.YtjellmblammiaaaDoor
