/- Few parts; the order of two values: what they compute, in plain words. -/
import Derived.Test.YtjellmblammiaaaDoorChk
namespace Go.Proofs.YtjellmblammiaaaDoor
open Go Tr
set_option maxRecDepth 100000
/-! the tree of function 26 -/
abbrev fx26_8 (n1 : Nat) (n2 : Nat) : List (Tmp × Value) := [(2, .pointer (some ⟨n1, 0, none⟩)), (3, .pointer (some ⟨n2, 0, none⟩))]
abbrev mx26_8 : List (Tmp × Comp) := [(19, .leaf .bool)]
def s26_8 : Script := .ld (.int .i64) (.sym (.lit (.ld (.int .i64) (.lit (.lit (.ld (.int .i64) (.lit (.lit .nil))))))) (.lit (.lit (.lit (.lit (.lit .nil))))))
theorem t26_8 (n1 : Nat) (n2 : Nat) (g : Nat → Value) : pieceT Tryd.prog (at_ Tryd.f26 [1, 0, 0, 1, 1, 0]) 93 (fx26_8 n1 n2) g (mx26_8.map (·.1)) [] [] s26_8 =
  .load ⟨n1, 0, none⟩ (.int .i64) (fun x9 =>
    .br (x9 == 1)
      (.load ⟨n1, 1, none⟩ (.int .i64) (fun x10 =>
        .load ⟨n2, 1, none⟩ (.int .i64) (fun x11 =>
          .fin .normal [(19, .bool (x10 != x11))])))
      (.fin .normal [(19, .bool false)])) := by kernel_rfl
abbrev fx26_16 (n1 : Nat) (n2 : Nat) : List (Tmp × Value) := [(2, .pointer (some ⟨n1, 0, none⟩)), (3, .pointer (some ⟨n2, 0, none⟩))]
abbrev mx26_16 : List (Tmp × Comp) := [(36, .leaf .bool)]
def s26_16 : Script := .ld (.int .i64) (.sym (.lit (.ld .str (.lit (.lit (.ld .str (.lit (.lit .nil))))))) (.lit (.lit (.lit (.lit (.lit .nil))))))
theorem t26_16 (n1 : Nat) (n2 : Nat) (g : Nat → Value) : pieceT Tryd.prog (at_ Tryd.f26 [1, 0, 0, 1, 1, 1, 1, 0]) 93 (fx26_16 n1 n2) g (mx26_16.map (·.1)) [] [] s26_16 =
  .load ⟨n1, 0, none⟩ (.int .i64) (fun x17 =>
    .br (x17 == 2)
      (.load ⟨n1, 2, none⟩ .str (fun s18 =>
        .load ⟨n2, 2, none⟩ .str (fun s19 =>
          .fin .normal [(36, .bool (!s18.toList == s19.toList))])))
      (.fin .normal [(36, .bool false)])) := by kernel_rfl
abbrev fx26_26 (n1 : Nat) (n2 : Nat) (l24 : Option Addr × Nat × Nat) (l25 : Option Addr × Nat × Nat) : List (Tmp × Value) := [(2, .pointer (some ⟨n1, 0, none⟩)), (3, .pointer (some ⟨n2, 0, none⟩)), (59, .int .i64 (if (↑l25.snd.fst : Int) < (↑l24.snd.fst : Int) then (↑l25.snd.fst : Int) else (↑l24.snd.fst : Int)))]
abbrev m26_26 : List (Tmp × Comp) := [(60, .leaf (.int .i64))]
abbrev mx26_26 : List (Tmp × Comp) := []
abbrev mr26_26 : List (Tmp × Comp) := [(4, .leaf (.int .i64))]
def s26_26 : Script := .sym (.qt (.ld .sl (.ix (.ld (.int .i64) (.ld (.int .i64) (.ld .str (.ld .sl (.ld .sl (.ix (.ld (.int .i64) (.ld (.int .i64) (.ld .str (.ld .sl (.cl (.one (.leaf (.int .i64))) (.sym .nil .nil))))))))))))))) .nil
theorem t26_26 (n1 : Nat) (n2 : Nat) (l24 : Option Addr × Nat × Nat) (l25 : Option Addr × Nat × Nat) (x_60 : Int) (g : Nat → Value) : pieceT Tryd.prog (at_ Tryd.f26 [1, 1, 0, 1, 0, 0]) 93 (fx26_26 n1 n2 l24 l25 ++ mvals m26_26 (x_60, ())) g (m26_26.map (·.1)) (mx26_26.map (·.1)) (mr26_26.map (·.1)) s26_26 =
  .br (Decidable.decide (x_60 < if (↑l25.snd.fst : Int) < (↑l24.snd.fst : Int) then (↑l25.snd.fst : Int) else (↑l24.snd.fst : Int)))
    (.drawn
      (.load ⟨n1, 3, none⟩ .sl (fun l27 =>
        .idx l27.1 x_60 l27.2.1 4 (fun a28 =>
          .load a28 (.int .i64) (fun x29 =>
            .load (a28.add 1) (.int .i64) (fun x30 =>
              .load (a28.add 2) .str (fun s31 =>
                .load (a28.add 3) .sl (fun l32 =>
                  .load ⟨n2, 3, none⟩ .sl (fun l33 =>
                    .idx l33.1 x_60 l33.2.1 4 (fun a34 =>
                      .load a34 (.int .i64) (fun x35 =>
                        .load (a34.add 1) (.int .i64) (fun x36 =>
                          .load (a34.add 2) .str (fun s37 =>
                            .load (a34.add 3) .sl (fun l38 =>
                              .call 26 #[.agg #[.int .i64 x29, .int .i64 x30, .string s31, .slice l32.1 l32.2.1 l32.2.2], .agg #[.int .i64 x35, .int .i64 x36, .string s37, .slice l38.1 l38.2.1 l38.2.2]] (.one (.leaf (.int .i64))) (fun x39 =>
                                .undrawn
                                  (.br (x39 != 0)
                                    (.fin .ret [(4, .int .i64 x39)])
                                    (.fin .normal [(60, .int .i64 (IntKind.i64.wrap (x_60 + 1)))])))))))))))))))))
    (.fin (.exit 1) []) := by kernel_rfl
def s26 : Script := .ld (.int .i64) (.ld (.int .i64) (.sym (.ld (.int .i64) (.ld (.int .i64) (.cl (.one (.leaf (.int .i64))) .nil))) (.ct 0 [2, 3] mx26_8 (.sym (.ld (.int .i64) (.ld (.int .i64) (.cl (.one (.leaf (.int .i64))) .nil))) (.ct 0 [2, 3] mx26_16 (.sym (.ld .str (.ld .str (.cl (.one (.leaf (.int .i64))) .nil))) (.ld .sl (.ld .sl (.lp 1 [2, 3, 59] [60] mx26_26 mr26_26 (.ld .sl (.ld .sl (.sym (.ld .sl (.ld .sl (.cl (.one (.leaf (.int .i64))) .nil))) .nil))) .nil)))))))))
theorem t26 (qx0_0 : Int) (qx0_1 : Int) (qs0_2 : ByteArray) (qa0_3 : Option Addr) (qn0_3 : Nat) (qc0_3 : Nat) (qx1_0 : Int) (qx1_1 : Int) (qs1_2 : ByteArray) (qa1_3 : Option Addr) (qn1_3 : Nat) (qc1_3 : Nat) : fnT Tryd.prog Tryd.f26 #[.agg #[.int .i64 qx0_0, .int .i64 qx0_1, .string qs0_2, .slice qa0_3 qn0_3 qc0_3], .agg #[.int .i64 qx1_0, .int .i64 qx1_1, .string qs1_2, .slice qa1_3 qn1_3 qc1_3]] s26 =
  .new (.cells #[.int .i64 qx0_0, .int .i64 qx0_1, .string qs0_2, .slice qa0_3 qn0_3 qc0_3] 24 (0, 0)) (fun n1 =>
    .new (.cells #[.int .i64 qx1_0, .int .i64 qx1_1, .string qs1_2, .slice qa1_3 qn1_3 qc1_3] 24 (0, 0)) (fun n2 =>
      .load ⟨n1, 0, none⟩ (.int .i64) (fun x3 =>
        .load ⟨n2, 0, none⟩ (.int .i64) (fun x4 =>
          .br (x3 != x4)
            (.load ⟨n1, 0, none⟩ (.int .i64) (fun x5 =>
              .load ⟨n2, 0, none⟩ (.int .i64) (fun x6 =>
                .call 43 #[.bool (Decidable.decide (x5 < x6))] (.one (.leaf (.int .i64))) (fun x7 =>
                  .done (.returned (.int .i64 x7))))))
            (.cut (at_ Tryd.f26 [1, 0, 0, 1, 1, 0]) 93 (fx26_8 n1 n2) mx26_8 (fun u12 g12 =>
              .br u12.1
                (.load ⟨n1, 1, none⟩ (.int .i64) (fun x13 =>
                  .load ⟨n2, 1, none⟩ (.int .i64) (fun x14 =>
                    .call 43 #[.bool (Decidable.decide (x13 < x14))] (.one (.leaf (.int .i64))) (fun x15 =>
                      .done (.returned (.int .i64 x15))))))
                (.cut (at_ Tryd.f26 [1, 0, 0, 1, 1, 1, 1, 0]) 93 (fx26_16 n1 n2) mx26_16 (fun u20 g20 =>
                  .br u20.1
                    (.load ⟨n1, 2, none⟩ .str (fun s21 =>
                      .load ⟨n2, 2, none⟩ .str (fun s22 =>
                        .call 43 #[.bool (Go.Op.bytesLess s21.toList s22.toList)] (.one (.leaf (.int .i64))) (fun x23 =>
                          .done (.returned (.int .i64 x23))))))
                    (.load ⟨n1, 3, none⟩ .sl (fun l24 =>
                      .load ⟨n2, 3, none⟩ .sl (fun l25 =>
                        .loop (at_ Tryd.f26 [1, 1, 0, 1, 0, 0]) 93 (fx26_26 n1 n2 l24 l25) [(60, .int .i64 0)] mx26_26 mr26_26 1 (fun u40 g40 =>
                          .load ⟨n1, 3, none⟩ .sl (fun l41 =>
                            .load ⟨n2, 3, none⟩ .sl (fun l42 =>
                              .br ((↑l41.snd.fst : Int) != (↑l42.snd.fst : Int))
                                (.load ⟨n1, 3, none⟩ .sl (fun l43 =>
                                  .load ⟨n2, 3, none⟩ .sl (fun l44 =>
                                    .call 43 #[.bool (Decidable.decide ((↑l43.snd.fst : Int) < (↑l44.snd.fst : Int)))] (.one (.leaf (.int .i64))) (fun x45 =>
                                      .done (.returned (.int .i64 x45))))))
                                (.done (.returned (.int .i64 0)))))) (fun u46 g46 =>
                          .done (.returned (.int .i64 u46.1)))))))))))))) := by kernel_rfl
/-! the tree of function 9 -/
def s9 : Script := .qt (.ld (.int .i64) (.ld (.int .i64) (.ld .str (.ld .sl (.cl (.one (.agg [.int .i64, .int .i64, .str, .sl])) (.ld (.int .i64) (.ld (.int .i64) (.ld .str (.ld .sl (.cl (.one (.agg [.int .i64, .int .i64, .str, .sl])) (.cl (.one (.leaf (.int .i64))) .nil)))))))))))
theorem t9 (qx0_0 : Int) (qx0_1 : Int) (qs0_2 : ByteArray) (qa0_3 : Option Addr) (qn0_3 : Nat) (qc0_3 : Nat) (qx1_0 : Int) (qx1_1 : Int) (qs1_2 : ByteArray) (qa1_3 : Option Addr) (qn1_3 : Nat) (qc1_3 : Nat) : fnT Tryd.prog Tryd.f9 #[.agg #[.int .i64 qx0_0, .int .i64 qx0_1, .string qs0_2, .slice qa0_3 qn0_3 qc0_3], .agg #[.int .i64 qx1_0, .int .i64 qx1_1, .string qs1_2, .slice qa1_3 qn1_3 qc1_3]] s9 =
  .new (.cells #[.int .i64 qx0_0, .int .i64 qx0_1, .string qs0_2, .slice qa0_3 qn0_3 qc0_3] 24 (0, 0)) (fun n1 =>
    .new (.cells #[.int .i64 qx1_0, .int .i64 qx1_1, .string qs1_2, .slice qa1_3 qn1_3 qc1_3] 24 (0, 0)) (fun n2 =>
      .drawn
        (.load ⟨n1, 0, none⟩ (.int .i64) (fun x3 =>
          .load ⟨n1, 1, none⟩ (.int .i64) (fun x4 =>
            .load ⟨n1, 2, none⟩ .str (fun s5 =>
              .load ⟨n1, 3, none⟩ .sl (fun l6 =>
                .call 27 #[.agg #[.int .i64 x3, .int .i64 x4, .string s5, .slice l6.1 l6.2.1 l6.2.2]] (.one (.agg [.int .i64, .int .i64, .str, .sl])) (fun r7 =>
                  .load ⟨n2, 0, none⟩ (.int .i64) (fun x8 =>
                    .load ⟨n2, 1, none⟩ (.int .i64) (fun x9 =>
                      .load ⟨n2, 2, none⟩ .str (fun s10 =>
                        .load ⟨n2, 3, none⟩ .sl (fun l11 =>
                          .call 27 #[.agg #[.int .i64 x8, .int .i64 x9, .string s10, .slice l11.1 l11.2.1 l11.2.2]] (.one (.agg [.int .i64, .int .i64, .str, .sl])) (fun r12 =>
                            .call 26 #[.agg #[.int .i64 r7.1, .int .i64 r7.2.1, .string r7.2.2.1, .slice r7.2.2.2.1.1 r7.2.2.2.1.2.1 r7.2.2.2.1.2.2], .agg #[.int .i64 r12.1, .int .i64 r12.2.1, .string r12.2.2.1, .slice r12.2.2.2.1.1 r12.2.2.2.1.2.1 r12.2.2.2.1.2.2]] (.one (.leaf (.int .i64))) (fun x13 =>
                              .undrawn
                                (.done (.returned (.int .i64 x13))))))))))))))))) := by kernel_rfl


/-! ### eddysize.Values -/
mutual
def sizeV (left : Int) : VT → Int
  | .mk _ _ _ l => sizeL (addS left l.length) l
def sizeL (left : Int) : List VT → Int
  | [] => left
  | x :: r => if left ≥ 0 then sizeL (sizeV left x) r else left
end
theorem sizeV_def (left : Int) (x : VT) : sizeV left x = sizeL (addS left x.items.length) x.items := by cases x; simp only [sizeV, VT.items]
theorem addS_le {left n : Int} (h : 0 ≤ n) : addS left n ≤ left := by unfold addS; split <;> omega
mutual
theorem sizeV_le : ∀ (x : VT) (left : Int), sizeV left x ≤ left
  | .mk _ _ _ l, left => by
    simp only [sizeV]
    have := sizeL_le l (addS left l.length)
    have := addS_le (left := left) (n := l.length) (by omega)
    omega
theorem sizeL_le : ∀ (l : List VT) (left : Int), sizeL left l ≤ left
  | [], left => by simp [sizeL]
  | x :: r, left => by
    simp only [sizeL]
    split
    · have := sizeL_le r (sizeV left x)
      have := sizeV_le x left
      omega
    · omega
end
theorem sizeL_drop {l : List VT} {i : Nat} {x : VT} {left : Int} (hl : left ≥ 0) (hx : l[i]? = some x) : sizeL left (l.drop i) = sizeL (sizeV left x) (l.drop (i + 1)) := by
  rw [List.drop_eq_getElem?_toList_append, hx]
  simp [sizeL, hl]
theorem sizeL_neg {l : List VT} {left : Int} (hl : ¬ left ≥ 0) : sizeL left l = left := by
  cases l <;> simp [sizeL, hl]

theorem sizes_any (k : Nat) : ∀ (x : VT) (p : Option Addr) (m c : Nat) (w0 w : World) (b : Nat) (t : TypeId) (left : Int), SizeOf.sizeOf x < k → IsV w0 x p m c → Ch No w0 w → w0.heap.size ≤ b → Blk w b [.int .i64 left] t → left ≤ 10000 →
    Calls Tryd.prog 23 #[.pointer (some ⟨b, 0, none⟩), .slice p m c] w fun e w' => e = .returned (.tuple #[]) ∧ Ch (· = b) w w' ∧ Blk w' b [.int .i64 (sizeV left x)] t := by
  induction k with
  | zero => intro x p m c w0 w b t left h; omega
  | succ k ih =>
    intro x p m c w0 w b t left hk hx h0w hb0 hb hl
    refine calls_of_fnT mixed Tryd.func23 (s := s23) ?_
    rw [t23, sizeV_def]
    have hcap := hx.cap
    have hbig := hx.big
    refine cl_i (add_any b t left m w hb hl (by omega) (by omega)) ?_
    rintro e w1 ⟨rfl, h1, b1⟩
    refine ⟨_, rfl, ?_⟩
    have hlen := RIt_len hx.its
    have hle := addS_le (left := left) (n := m) (by omega)
    refine loop_i mixed m23_2 s23_2 (by kernel_rfl) (by kernel_rfl)
      (fun (v : Int × Unit) w' => 0 ≤ v.1 ∧ v.1 ≤ m ∧ ∃ n' : Int, n' ≤ 10000 ∧ Ch (· = b) w w' ∧ Blk w' b [.int .i64 n'] t ∧ sizeL n' (x.items.drop v.1.toNat) = sizeL (addS left x.items.length) x.items) (fun (v : Int × Unit) _ => m - v.1.toNat) (0, ()) rfl ⟨by simp, by simp, _, by omega, h1, b1, by simp [hlen]⟩ ?_
    rintro ⟨(i : Int), ⟨⟩⟩ g w' ⟨(i0 : 0 ≤ i), (i1 : i ≤ m), n', hn, hw, bn, hs⟩
    rw [t23_2]
    dsimp only at hs
    refine cut_i mixed s23_3 (fun (v : Bool × Unit) w'' => w'' = w' ∧ v.1 = decide (i < m ∧ n' ≥ 0)) (by kernel_rfl) (fun g => ?_) ?_
    · rw [t23_3]
      refine br_both (fun e => cl_i (ok_any b t n' w' bn) ?_) fun e => ⟨rfl, (false, ()), rfl, rfl, ?_⟩
      · rintro e' w'' ⟨rfl, rfl⟩
        refine ⟨decide (n' ≥ 0), rfl, rfl, (decide (n' ≥ 0), ()), rfl, rfl, ?_⟩
        have e := of_decide_eq_true e
        simp [e]
      · have e := of_decide_eq_false e
        simp [e]
    rintro ⟨u, ⟨⟩⟩ g w'' ⟨rfl, hu⟩
    dsimp only at hu
    subst hu
    refine br_both (fun e => ?_) fun e => ?_
    · obtain ⟨hi, hn0⟩ := of_decide_eq_true e
      obtain ⟨y, hy⟩ : ∃ u, x.items[i.toNat]? = some u := ⟨_, List.getElem?_eq_getElem (by omega)⟩
      obtain ⟨ad, q, my, cy, rfl, cv, vy⟩ := hx.get hy
      have h0'' : Ch No w0 w'' := h0w.then_ hw (fun i hi (e : i = b) => by omega)
      have C := cv.ch (w' := w'') (fun a v ha => h0''.cellv ha (fun h => h))
      refine ix_i i0 (by simpa using hi) (ld_sl C.c3 ?_)
      have hsz := VT.size_lt hy
      refine cl_i (ih y q my cy w0 w'' b t n' (by omega) vy h0'' hb0 bn hn) ?_
      rintro e w3 ⟨rfl, h3, b3⟩
      have := sizeV_le y n'
      refine ⟨(), rfl, (i + 1, ()), ?_, ⟨by dsimp only; omega, by dsimp only; omega, _, by omega, hw.trans h3, b3, ?_⟩, by dsimp only; omega⟩
      · rw [wrap_succ i0 (by omega)]; rfl
      · dsimp only
        rw [show (i + 1).toNat = i.toNat + 1 by omega, ← hs, sizeL_drop hn0 hy]
    · have e := of_decide_eq_false e
      refine ⟨rfl, (), rfl, fun g => ⟨rfl, hw, ?_⟩⟩
      rw [← hs]
      by_cases hi : i < m
      · rw [sizeL_neg (fun h => e ⟨hi, h⟩)]; exact bn
      · rw [List.drop_of_length_le (by omega)]; simpa only [sizeL] using bn

/-- Are there few parts? -/
def fewV (x : VT) : Bool := decide (sizeV 10000 x ≥ 0)
theorem few_any (x : VT) (p : Option Addr) (m c : Nat) (w : World) (hx : IsV w x p m c) :
    Calls Tryd.prog 7 #[.slice p m c] w fun e w' => e = .returned (.bool (fewV x)) ∧ Ch No w w' := by
  refine calls_of_fnT mixed Tryd.func7 (s := s7) ?_
  rw [t7]
  refine cl_i (new_any w) ?_
  rintro e w1 ⟨rfl, h1, b1⟩
  refine ⟨some ⟨w.heap.size, 0, none⟩, rfl, ?_⟩
  refine cl_i (sizes_any _ x p m c w w1 w.heap.size 75 10000 (Nat.lt_succ_self _) hx h1 (by omega) b1 (by omega)) ?_
  rintro e w2 ⟨rfl, h2, b2⟩
  refine ⟨(), rfl, cl_i (ok_any _ _ _ w2 b2) ?_⟩
  rintro e w3 ⟨rfl, rfl⟩
  exact ⟨_, rfl, rfl, h1.then_ h2 (fun i hi (e : i = _) => by omega)⟩

/-! ### Compare -/
def sgn (b : Bool) : Int := if b then -1 else 1
theorem sign_any (b : Bool) (w : World) : Calls Tryd.prog 43 #[.bool b] w fun e w' => e = .returned (.int .i64 (sgn b)) ∧ w' = w := by
  refine calls_of_fnT mixed Tryd.func43 (s := s43) ?_
  rw [t43]
  refine br_both (fun e => ?_) fun e => ?_
  · subst e; exact ⟨rfl, rfl⟩
  · subst e; exact ⟨rfl, rfl⟩
mutual
def ordV : VT → VT → Int
  | .mk k i s l, .mk k' i' s' l' =>
    if k ≠ k' then sgn (decide (k < k'))
    else if k = 1 ∧ i ≠ i' then sgn (decide (i < i'))
    else if k = 2 ∧ s.toList ≠ s'.toList then sgn (Op.bytesLess s.toList s'.toList)
    else ordL l l'
def ordL : List VT → List VT → Int
  | [], [] => 0
  | [], _ :: _ => -1
  | _ :: _, [] => 1
  | x :: r, y :: r' => if ordV x y ≠ 0 then ordV x y else ordL r r'
end
theorem ordV_def (x y : VT) : ordV x y = (if x.kind ≠ y.kind then sgn (decide (x.kind < y.kind))
    else if x.kind = 1 ∧ x.int ≠ y.int then sgn (decide (x.int < y.int))
    else if x.kind = 2 ∧ x.text.toList ≠ y.text.toList then sgn (Op.bytesLess x.text.toList y.text.toList)
    else ordL x.items y.items) := by
  cases x; cases y; simp only [ordV]; rfl
theorem ordL_drop {l l' : List VT} {i : Nat} {x y : VT} (hx : l[i]? = some x) (hy : l'[i]? = some y) : ordL (l.drop i) (l'.drop i) = (if ordV x y ≠ 0 then ordV x y else ordL (l.drop (i + 1)) (l'.drop (i + 1))) := by
  rw [List.drop_eq_getElem?_toList_append, List.drop_eq_getElem?_toList_append (l := l'), hx, hy]
  simp [ordL]

theorem order_any (k : Nat) : ∀ (x y : VT) (p : Option Addr) (m c : Nat) (q : Option Addr) (m' c' : Nat) (w : World), SizeOf.sizeOf x < k → IsV w x p m c → IsV w y q m' c' →
    Calls Tryd.prog 26 #[valV x p m c, valV y q m' c'] w fun e w' => e = .returned (.int .i64 (ordV x y)) ∧ Ch No w w' := by
  induction k with
  | zero => intro x y p m c q m' c' w h; omega
  | succ k ih =>
    intro x y p m c q m' c' w hk hx hy
    refine calls_of_fnT mixed Tryd.func26 (s := s26) ?_
    unfold valV
    rw [t26, ordV_def]
    refine nw fun w1 h1 z1 b1 => nw fun w2 h2 z2 b2 => ?_
    have B1 := b1.ch h2 (fun h => h)
    have H := h1.trans h2
    refine ld_int (B1.cell 0) (ld_int (b2.cell 0) (br_both (fun e => ?_) fun e => ?_))
    · have e : x.kind ≠ y.kind := by rwa [bne_iff_ne] at e
      rw [if_pos e]
      refine ld_int (B1.cell 0) (ld_int (b2.cell 0) (cl_i (sign_any _ _) ?_))
      rintro e w3 ⟨rfl, rfl⟩
      exact ⟨_, rfl, rfl, H⟩
    have e : x.kind = y.kind := by simpa using e
    rw [if_neg (fun h => h e)]
    refine cut_i mixed s26_8 (fun (v : Bool × Unit) w' => w' = w2 ∧ v.1 = decide (x.kind = 1 ∧ x.int ≠ y.int)) (by kernel_rfl) (fun g => ?_) ?_
    · rw [t26_8]
      refine ld_int (B1.cell 0) (br_both (fun e => ld_int (B1.cell 1) (ld_int (b2.cell 1) ⟨rfl, (x.int != y.int, ()), rfl, rfl, ?_⟩)) fun e => ⟨rfl, (false, ()), rfl, rfl, ?_⟩)
      · have e : x.kind = 1 := by simpa using e
        rw [Bool.eq_iff_iff, bne_iff_ne, decide_eq_true_eq]
        exact ⟨fun h => ⟨e, h⟩, fun h => h.2⟩
      · have e : ¬ x.kind = 1 := by simpa using e
        simp [e]
    rintro ⟨u, ⟨⟩⟩ g w' ⟨rfl, hu⟩
    dsimp only at hu
    subst hu
    refine br_both (fun e => ?_) fun e => ?_
    · rw [if_pos (of_decide_eq_true e)]
      refine ld_int (B1.cell 1) (ld_int (b2.cell 1) (cl_i (sign_any _ _) ?_))
      rintro e w3 ⟨rfl, rfl⟩
      exact ⟨_, rfl, rfl, H⟩
    rw [if_neg (of_decide_eq_false e)]
    refine cut_i mixed s26_16 (fun (v : Bool × Unit) w'' => w'' = w' ∧ v.1 = decide (x.kind = 2 ∧ x.text.toList ≠ y.text.toList)) (by kernel_rfl) (fun g => ?_) ?_
    · rw [t26_16]
      refine ld_int (B1.cell 0) (br_both (fun e => ld_str (B1.cell 2) (ld_str (b2.cell 2) ⟨rfl, (!(x.text.toList == y.text.toList), ()), rfl, rfl, ?_⟩)) fun e => ⟨rfl, (false, ()), rfl, rfl, ?_⟩)
      · have e : x.kind = 2 := by simpa using e
        rw [Bool.eq_iff_iff, decide_eq_true_eq]
        simp [e]
      · have e : ¬ x.kind = 2 := by simpa using e
        simp [e]
    rintro ⟨u, ⟨⟩⟩ g w'' ⟨rfl, hu⟩
    dsimp only at hu
    subst hu
    refine br_both (fun e => ?_) fun e => ?_
    · rw [if_pos (of_decide_eq_true e)]
      refine ld_str (B1.cell 2) (ld_str (b2.cell 2) (cl_i (sign_any _ _) ?_))
      rintro e w3 ⟨rfl, rfl⟩
      exact ⟨_, rfl, rfl, H⟩
    rw [if_neg (of_decide_eq_false e)]
    have hxl := RIt_len hx.its
    have hyl := RIt_len hy.its
    have hc := hx.cap
    have hbg := hx.big
    refine ld_sl (B1.cell 3) (ld_sl (b2.cell 3) ?_)
    dsimp only
    obtain ⟨mm, hmm, hmi⟩ : ∃ mm : Nat, (if (m' : Int) < m then (m' : Int) else m) = mm ∧ mm ≤ m ∧ mm ≤ m' ∧ (mm = m ∨ mm = m') := by
      by_cases h : (m' : Int) < m
      · exact ⟨m', if_pos h, by omega, by omega, .inr rfl⟩
      · exact ⟨m, if_neg h, by omega, by omega, .inl rfl⟩
    refine loop_i mixed m26_26 s26_26 (by kernel_rfl) (by kernel_rfl)
      (fun (v : Int × Unit) w' => 0 ≤ v.1 ∧ v.1 ≤ mm ∧ Ch No w'' w' ∧ ordL (x.items.drop v.1.toNat) (y.items.drop v.1.toNat) = ordL x.items y.items) (fun (v : Int × Unit) _ => mm - v.1.toNat) (0, ()) rfl ⟨by simp, by simp, Ch.refl _ _, by simp⟩ ?_
    rintro ⟨(i : Int), ⟨⟩⟩ g w' ⟨(i0 : 0 ≤ i), (i1 : i ≤ mm), hw, hs⟩
    rw [t26_26]
    dsimp only at hs ⊢
    rw [hmm]
    have C1 := B1.ch hw (fun h => h)
    have C2 := b2.ch hw (fun h => h)
    refine br_both (fun e => ?_) fun e => ?_
    · have hi : i < mm := of_decide_eq_true e
      obtain ⟨xi, hxi⟩ : ∃ u, x.items[i.toNat]? = some u := ⟨_, List.getElem?_eq_getElem (by omega)⟩
      obtain ⟨yi, hyi⟩ : ∃ u, y.items[i.toNat]? = some u := ⟨_, List.getElem?_eq_getElem (by omega)⟩
      obtain ⟨ad, pi, mi, ci, rfl, cx, vx⟩ := hx.get hxi
      obtain ⟨bd, qi, ni, di, rfl, cy, vy⟩ := hy.get hyi
      have hB : ∀ w'', Ch No w' w'' → Ch No w w'' := fun w'' h => (H.trans hw).trans h
      refine ⟨fun w'' => Ch No w' w'', (Ch.refl _ _).drew, ?_⟩
      refine ⟨(some ad, m, c), fun w'' h => (C1.ch h (fun h => h)).cell 3, ⟨ad, rfl, i0, by dsimp only; omega, ?_⟩⟩
      refine ⟨xi.kind, fun w'' h => (hB w'' h).cellv cx.c0 (fun h => h), xi.int, fun w'' h => (hB w'' h).cellv cx.c1 (fun h => h), xi.text, fun w'' h => (hB w'' h).cellv cx.c2 (fun h => h), (pi, mi, ci), fun w'' h => (hB w'' h).cellv cx.c3 (fun h => h), ?_⟩
      refine ⟨(some bd, m', c'), fun w'' h => (C2.ch h (fun h => h)).cell 3, ⟨bd, rfl, i0, by dsimp only; omega, ?_⟩⟩
      refine ⟨yi.kind, fun w'' h => (hB w'' h).cellv cy.c0 (fun h => h), yi.int, fun w'' h => (hB w'' h).cellv cy.c1 (fun h => h), yi.text, fun w'' h => (hB w'' h).cellv cy.c2 (fun h => h), (qi, ni, di), fun w'' h => (hB w'' h).cellv cy.c3 (fun h => h), ?_⟩
      have hsz := VT.size_lt hxi
      refine ⟨ordV xi yi, fun w'' h => (ih xi yi pi mi ci qi ni di w'' (by omega) (vx.no (hB w'' h)) (vy.no (hB w'' h))).mono fun e w3 ⟨he, h3⟩ => ⟨he, h.trans h3⟩, ?_⟩
      intro w3 h3
      have hd := ordL_drop hxi hyi
      refine br_both (fun e => ?_) (fun e => ?_)
      · rw [bne_iff_ne] at e
        rw [if_pos e] at hd
        refine ⟨(_, ()), rfl, fun g => ⟨?_, H.trans (hw.trans h3)⟩⟩
        rw [← hs, hd]
      · have e : ordV xi yi = 0 := by simpa using e
        rw [if_neg (fun h => h e)] at hd
        refine ⟨(i + 1, ()), ?_, ⟨by dsimp only; omega, by dsimp only; omega, hw.trans h3, ?_⟩, by dsimp only; omega⟩
        · rw [wrap_succ i0 (by omega)]; rfl
        · dsimp only
          rw [show (i + 1).toNat = i.toNat + 1 by omega, ← hs, hd]
    · have hi : ¬ i < mm := of_decide_eq_false e
      refine ⟨rfl, (), rfl, fun g => ?_⟩
      have hii : i.toNat = mm := by omega
      rw [hii] at hs
      refine ld_sl (C1.cell 3) (ld_sl (C2.cell 3) (br_both (fun e => ?_) fun e => ?_))
      · have e : ¬ m = m' := fun h => by simp [h] at e
        refine ld_sl (C1.cell 3) (ld_sl (C2.cell 3) (cl_i (sign_any _ _) ?_))
        rintro e' w3 ⟨rfl, rfl⟩
        refine ⟨_, rfl, ?_, H.trans hw⟩
        rw [← hs]
        by_cases hlt : m < m'
        · have hmm' : mm = m := by omega
          rw [List.drop_of_length_le (by omega)]
          obtain ⟨z, zs, hz⟩ : ∃ z zs, y.items.drop mm = z :: zs := by
            cases h : y.items.drop mm with
            | nil => have := congrArg List.length h; simp at this; omega
            | cons z zs => exact ⟨z, zs, rfl⟩
          rw [hz]
          have : (decide ((m : Int) < (m' : Int))) = true := decide_eq_true (by omega)
          dsimp only
          rw [this]; simp [ordL, sgn]
        · have hmm' : mm = m' := by omega
          rw [List.drop_of_length_le (l := y.items) (by omega)]
          obtain ⟨z, zs, hz⟩ : ∃ z zs, x.items.drop mm = z :: zs := by
            cases h : x.items.drop mm with
            | nil => have := congrArg List.length h; simp at this; omega
            | cons z zs => exact ⟨z, zs, rfl⟩
          rw [hz]
          have : (decide ((m : Int) < (m' : Int))) = false := decide_eq_false (by omega)
          dsimp only
          rw [this]; simp [ordL, sgn]
      · have e : m = m' := by
          have h : (m : Int) = m' := by simpa using e
          omega
        refine ⟨?_, H.trans hw⟩
        rw [← hs, List.drop_of_length_le (by omega), List.drop_of_length_le (by omega)]
        simp [ordL]

/-- Compare's answer. -/
def cmpV (x y : VT) : Int := ordV (validV x) (validV y)
theorem compare_any (x y : VT) (p : Option Addr) (m c : Nat) (q : Option Addr) (m' c' : Nat) (w : World) (hx : IsV w x p m c) (hy : IsV w y q m' c') :
    Calls Tryd.prog 9 #[valV x p m c, valV y q m' c'] w fun e w' => e = .returned (.int .i64 (cmpV x y)) ∧ Ch No w w' := by
  refine calls_of_fnT mixed Tryd.func9 (s := s9) ?_
  unfold valV
  rw [t9]
  refine nw fun w1 h1 z1 b1 => nw fun w2 h2 z2 b2 => ?_
  have B1 := b1.ch h2 (fun h => h)
  have H := h1.trans h2
  refine ⟨fun w'' => Ch No w2 w'', (Ch.refl _ _).drew, ?_⟩
  obtain ⟨px, mx, cx, vx, ex⟩ : ∃ px mx cx, (∀ w'', Ch No w w'' → IsV w'' (validV x) px mx cx) ∧ (if checkV x = 0 then valV x p m c else valV noneV none 0 0) = valV (validV x) px mx cx := by
    unfold validV
    by_cases h : checkV x = 0
    · rw [if_pos h, if_pos h]; exact ⟨p, m, c, fun w'' hw => hx.no hw, rfl⟩
    · rw [if_neg h, if_neg h]; exact ⟨none, 0, 0, fun w'' hw => noneV_is _, rfl⟩
  obtain ⟨py, my, cy, vy, ey⟩ : ∃ px mx cx, (∀ w'', Ch No w w'' → IsV w'' (validV y) px mx cx) ∧ (if checkV y = 0 then valV y q m' c' else valV noneV none 0 0) = valV (validV y) px mx cx := by
    unfold validV
    by_cases h : checkV y = 0
    · rw [if_pos h, if_pos h]; exact ⟨q, m', c', fun w'' hw => hy.no hw, rfl⟩
    · rw [if_neg h, if_neg h]; exact ⟨none, 0, 0, fun w'' hw => noneV_is _, rfl⟩
  refine ⟨x.kind, fun w'' h => (B1.ch h (fun h => h)).cell 0, x.int, fun w'' h => (B1.ch h (fun h => h)).cell 1, x.text, fun w'' h => (B1.ch h (fun h => h)).cell 2, (p, m, c), fun w'' h => (B1.ch h (fun h => h)).cell 3, ?_⟩
  refine ⟨((validV x).kind, (validV x).int, (validV x).text, (px, mx, cx), ()), fun w'' h => (valid_any x p m c w'' (hx.no (H.trans h))).mono fun e w3 ⟨he, h3⟩ => ⟨he.trans (congrArg _ ex), h.trans h3⟩, ?_⟩
  refine ⟨y.kind, fun w'' h => (b2.ch h (fun h => h)).cell 0, y.int, fun w'' h => (b2.ch h (fun h => h)).cell 1, y.text, fun w'' h => (b2.ch h (fun h => h)).cell 2, (q, m', c'), fun w'' h => (b2.ch h (fun h => h)).cell 3, ?_⟩
  refine ⟨((validV y).kind, (validV y).int, (validV y).text, (py, my, cy), ()), fun w'' h => (valid_any y q m' c' w'' (hy.no (H.trans h))).mono fun e w3 ⟨he, h3⟩ => ⟨he.trans (congrArg _ ey), h.trans h3⟩, ?_⟩
  refine ⟨cmpV x y, fun w'' h => (order_any _ (validV x) (validV y) px mx cx py my cy w'' (Nat.lt_succ_self _) (vx w'' (H.trans h)) (vy w'' (H.trans h))).mono fun e w3 ⟨he, h3⟩ => ⟨he, h.trans h3⟩, ?_⟩
  intro w3 h3
  exact ⟨rfl, H.trans h3⟩
end Go.Proofs.YtjellmblammiaaaDoor
