/- The law's own look at two values ('same') answers whether they are the same, field by field. -/
import Derived.Test.YtjellmblammiaaaDoorMem
import Derived.Test.YtjellmblammiaaaDoorProg
import Derived.KernelRfl
namespace Go.Proofs.YtjellmblammiaaaDoor
open Go Tr
set_option maxRecDepth 100000
theorem mixed : Tryd.prog.follows .mixedOrders = true := by kernel_rfl
/-! the tree of function 12 -/
abbrev fx12_11 (n1 : Nat) (n2 : Nat) : List (Tmp × Value) := [(2, .pointer (some ⟨n1, 0, none⟩)), (3, .pointer (some ⟨n2, 0, none⟩))]
abbrev m12_11 : List (Tmp × Comp) := [(5, .leaf (.int .i64))]
abbrev mx12_11 : List (Tmp × Comp) := []
abbrev mr12_11 : List (Tmp × Comp) := [(4, .leaf .bool)]
def s12_11 : Script := .ld .sl (.sym (.qt (.ld .sl (.ix (.ld (.int .i64) (.ld (.int .i64) (.ld .str (.ld .sl (.ld .sl (.ix (.ld (.int .i64) (.ld (.int .i64) (.ld .str (.ld .sl (.cl (.one (.leaf .bool)) (.sym .nil .nil))))))))))))))) .nil)
theorem t12_11 (n1 : Nat) (n2 : Nat) (x_5 : Int) (g : Nat → Value) : pieceT Tryd.prog (at_ Tryd.f12 [1, 1, 0, 1, 0, 0]) 53 (fx12_11 n1 n2 ++ mvals m12_11 (x_5, ())) g (m12_11.map (·.1)) (mx12_11.map (·.1)) (mr12_11.map (·.1)) s12_11 =
  .load ⟨n1, 3, none⟩ .sl (fun l12 =>
    .br (Decidable.decide (x_5 < (↑l12.snd.fst : Int)))
      (.drawn
        (.load ⟨n1, 3, none⟩ .sl (fun l13 =>
          .idx l13.1 x_5 l13.2.1 4 (fun a14 =>
            .load a14 (.int .i64) (fun x15 =>
              .load (a14.add 1) (.int .i64) (fun x16 =>
                .load (a14.add 2) .str (fun s17 =>
                  .load (a14.add 3) .sl (fun l18 =>
                    .load ⟨n2, 3, none⟩ .sl (fun l19 =>
                      .idx l19.1 x_5 l19.2.1 4 (fun a20 =>
                        .load a20 (.int .i64) (fun x21 =>
                          .load (a20.add 1) (.int .i64) (fun x22 =>
                            .load (a20.add 2) .str (fun s23 =>
                              .load (a20.add 3) .sl (fun l24 =>
                                .call 12 #[.agg #[.int .i64 x15, .int .i64 x16, .string s17, .slice l18.1 l18.2.1 l18.2.2], .agg #[.int .i64 x21, .int .i64 x22, .string s23, .slice l24.1 l24.2.1 l24.2.2]] (.one (.leaf .bool)) (fun b25 =>
                                  .undrawn
                                    (.br (!b25)
                                      (.fin .ret [(4, .bool false)])
                                      (.fin .normal [(5, .int .i64 (IntKind.i64.wrap (x_5 + 1)))])))))))))))))))))
      (.fin (.exit 0) [])) := by kernel_rfl
def s12 : Script := .ld (.int .i64) (.ld (.int .i64) (.sym (.lit (.lit (.lit (.lit (.lit (.lit (.lit (.lit (.lit (.lit (.lit (.lit (.lit (.lit (.lit (.lit (.lit (.lit (.lit (.lit .nil)))))))))))))))))))) (.lit (.ld (.int .i64) (.lit (.lit (.ld (.int .i64) (.lit (.lit (.sym (.lit (.lit (.lit (.lit (.lit (.lit (.lit (.lit (.lit (.lit (.lit (.lit (.lit (.lit .nil)))))))))))))) (.lit (.ld .str (.lit (.lit (.ld .str (.lit (.lit (.sym (.lit (.lit (.lit (.lit (.lit (.lit (.lit (.lit .nil)))))))) (.lit (.ld .sl (.lit (.lit (.lit (.ld .sl (.lit (.lit (.lit (.sym .nil (.lp 0 [2, 3] [5] mx12_11 mr12_11 .nil .nil)))))))))))))))))))))))))))))
theorem t12 (qx0_0 : Int) (qx0_1 : Int) (qs0_2 : ByteArray) (qa0_3 : Option Addr) (qn0_3 : Nat) (qc0_3 : Nat) (qx1_0 : Int) (qx1_1 : Int) (qs1_2 : ByteArray) (qa1_3 : Option Addr) (qn1_3 : Nat) (qc1_3 : Nat) : fnT Tryd.prog Tryd.f12 #[.agg #[.int .i64 qx0_0, .int .i64 qx0_1, .string qs0_2, .slice qa0_3 qn0_3 qc0_3], .agg #[.int .i64 qx1_0, .int .i64 qx1_1, .string qs1_2, .slice qa1_3 qn1_3 qc1_3]] s12 =
  .new (.cells #[.int .i64 qx0_0, .int .i64 qx0_1, .string qs0_2, .slice qa0_3 qn0_3 qc0_3] 24 (0, 0)) (fun n1 =>
    .new (.cells #[.int .i64 qx1_0, .int .i64 qx1_1, .string qs1_2, .slice qa1_3 qn1_3 qc1_3] 24 (0, 0)) (fun n2 =>
      .load ⟨n1, 0, none⟩ (.int .i64) (fun x3 =>
        .load ⟨n2, 0, none⟩ (.int .i64) (fun x4 =>
          .br (x3 != x4)
            (.done (.returned (.bool false)))
            (.load ⟨n1, 1, none⟩ (.int .i64) (fun x5 =>
              .load ⟨n2, 1, none⟩ (.int .i64) (fun x6 =>
                .br (x5 != x6)
                  (.done (.returned (.bool false)))
                  (.load ⟨n1, 2, none⟩ .str (fun s7 =>
                    .load ⟨n2, 2, none⟩ .str (fun s8 =>
                      .br (!s7.toList == s8.toList)
                        (.done (.returned (.bool false)))
                        (.load ⟨n1, 3, none⟩ .sl (fun l9 =>
                          .load ⟨n2, 3, none⟩ .sl (fun l10 =>
                            .br ((↑l9.snd.fst : Int) != (↑l10.snd.fst : Int))
                              (.done (.returned (.bool false)))
                              (.loop (at_ Tryd.f12 [1, 1, 0, 1, 0, 0]) 53 (fx12_11 n1 n2) [(5, .int .i64 0)] mx12_11 mr12_11 0 (fun u26 g =>
                                .done (.returned (.bool true))) (fun u27 g =>
                                .done (.returned (.bool u27.1))))))))))))))))) := by kernel_rfl

mutual
def sameV : VT → VT → Bool
  | .mk k i s l, .mk k' i' s' l' => k == k' && i == i' && s.toList == s'.toList && (l.length == l'.length && sameL l l')
def sameL : List VT → List VT → Bool
  | x :: r, y :: r' => sameV x y && sameL r r'
  | _, _ => true
end
theorem sameV_def (x y : VT) : sameV x y = (x.kind == y.kind && x.int == y.int && x.text.toList == y.text.toList && (x.items.length == y.items.length && sameL x.items y.items)) := by
  cases x; cases y; simp only [sameV, VT.kind, VT.int, VT.text, VT.items]
theorem sameL_drop {l l' : List VT} {i : Nat} {x y : VT} (hx : l[i]? = some x) (hy : l'[i]? = some y) : sameL (l.drop i) (l'.drop i) = (sameV x y && sameL (l.drop (i + 1)) (l'.drop (i + 1))) := by
  rw [List.drop_eq_getElem?_toList_append, List.drop_eq_getElem?_toList_append (l := l'), hx, hy]
  simp [sameL]

theorem wrap_succ {x : Int} (h0 : 0 ≤ x) (h : x < 9223372036854775807) : IntKind.i64.wrap (x + 1) = x + 1 := by
  rw [IntKind.wrap_i64]; omega

theorem same_any (k : Nat) : ∀ (x y : VT) (p : Option Addr) (m c : Nat) (q : Option Addr) (m' c' : Nat) (w : World), SizeOf.sizeOf x < k → IsV w x p m c → IsV w y q m' c' →
    Calls Tryd.prog 12 #[valV x p m c, valV y q m' c'] w fun e w' => e = .returned (.bool (sameV x y)) ∧ Ch No w w' := by
  induction k with
  | zero => intro x y p m c q m' c' w h; omega
  | succ k ih =>
    intro x y p m c q m' c' w hk hx hy
    refine calls_of_fnT mixed Tryd.func12 (s := s12) ?_
    unfold valV
    rw [t12, sameV_def]
    refine nw fun w1 h1 z1 b1 => ?_
    refine nw fun w2 h2 z2 b2 => ?_
    have B1 := b1.ch h2 (fun h => h)
    have H := h1.trans h2
    refine ld_int (B1.cell 0) (ld_int (b2.cell 0) (br_both (fun e => ⟨?_, H⟩) fun e0 => ?_))
    · rw [bne_iff_ne] at e; simp [e]
    refine ld_int (B1.cell 1) (ld_int (b2.cell 1) (br_both (fun e => ⟨?_, H⟩) fun e1 => ?_))
    · rw [bne_iff_ne] at e; simp [e]
    refine ld_str (B1.cell 2) (ld_str (b2.cell 2) (br_both (fun e => ⟨?_, H⟩) fun e2 => ?_))
    · simp only [Bool.not_eq_true'] at e; simp [e]
    refine ld_sl (B1.cell 3) (ld_sl (b2.cell 3) (br_both (fun e => ⟨?_, H⟩) fun e3 => ?_))
    · rw [bne_iff_ne] at e
      have : ¬ x.items.length = y.items.length := by rw [RIt_len hx.its, RIt_len hy.its]; exact fun h => e (by rw [h])
      simp [this]
    have hm : m = m' := by
      have h : (m : Int) = m' := by simpa using e3
      omega
    have hlen : x.items.length = y.items.length := by rw [RIt_len hx.its, RIt_len hy.its, hm]
    have g0 : (x.kind == y.kind) = true := by simpa using e0
    have g1 : (x.int == y.int) = true := by simpa using e1
    have g2 : (x.text.toList == y.text.toList) = true := by simpa using e2
    rw [g0, g1, g2, hlen]
    simp only [Bool.true_and, beq_self_eq_true]
    have hxl := RIt_len hx.its
    have hyl := RIt_len hy.its
    refine loop_i mixed m12_11 s12_11 (by kernel_rfl) (by kernel_rfl)
      (fun (v : Int × Unit) w' => 0 ≤ v.1 ∧ v.1 ≤ m ∧ Ch No w2 w' ∧ sameL (x.items.drop v.1.toNat) (y.items.drop v.1.toNat) = sameL x.items y.items) (fun (v : Int × Unit) _ => m - v.1.toNat) (0, ()) rfl ⟨by omega, by omega, Ch.refl _ _, by simp⟩ ?_
    rintro ⟨(i : Int), ⟨⟩⟩ g w' ⟨(i0 : 0 ≤ i), (i1 : i ≤ m), hw, hs⟩
    rw [t12_11]
    dsimp only at hs
    have C1 := B1.ch hw (fun h => h)
    have C2 := b2.ch hw (fun h => h)
    refine ld_sl (C1.cell 3) (br_both (fun e => ?_) (fun e => ?_))
    · have hi : i < m := by simpa using e
      have hc := hx.cap
      have hb := hx.big
      obtain ⟨xi, hxi⟩ : ∃ u, x.items[i.toNat]? = some u := ⟨_, List.getElem?_eq_getElem (by omega)⟩
      obtain ⟨yi, hyi⟩ : ∃ u, y.items[i.toNat]? = some u := ⟨_, List.getElem?_eq_getElem (by omega)⟩
      obtain ⟨ad, pi, mi, ci, rfl, cx, vx⟩ := hx.get hxi
      obtain ⟨bd, qi, ni, di, rfl, cy, vy⟩ := hy.get hyi
      have hB : ∀ w'', Ch No w' w'' → Ch No w w'' := fun w'' h => (H.trans hw).trans h
      refine ⟨fun w'' => Ch No w' w'', (Ch.refl _ _).drew, ?_⟩
      refine ⟨(some ad, m, c), fun w'' h => (C1.ch h (fun h => h)).cell 3, ⟨ad, rfl, i0, by simpa using hi, ?_⟩⟩
      refine ⟨xi.kind, fun w'' h => (hB w'' h).cellv cx.c0 (fun h => h), xi.int, fun w'' h => (hB w'' h).cellv cx.c1 (fun h => h), xi.text, fun w'' h => (hB w'' h).cellv cx.c2 (fun h => h), (pi, mi, ci), fun w'' h => (hB w'' h).cellv cx.c3 (fun h => h), ?_⟩
      refine ⟨(some bd, m', c'), fun w'' h => (C2.ch h (fun h => h)).cell 3, ⟨bd, rfl, i0, by simpa [← hm] using hi, ?_⟩⟩
      refine ⟨yi.kind, fun w'' h => (hB w'' h).cellv cy.c0 (fun h => h), yi.int, fun w'' h => (hB w'' h).cellv cy.c1 (fun h => h), yi.text, fun w'' h => (hB w'' h).cellv cy.c2 (fun h => h), (qi, ni, di), fun w'' h => (hB w'' h).cellv cy.c3 (fun h => h), ?_⟩
      have hsz := VT.size_lt hxi
      refine ⟨sameV xi yi, fun w'' h => (ih xi yi pi mi ci qi ni di w'' (by omega) (vx.no (hB w'' h)) (vy.no (hB w'' h))).mono fun e w3 ⟨he, h3⟩ => ⟨he, h.trans h3⟩, ?_⟩
      intro w3 h3
      have hd := sameL_drop hxi hyi
      refine br_both (fun e => ?_) (fun e => ?_)
      · refine ⟨(false, ()), rfl, fun g => ⟨?_, H.trans (hw.trans h3)⟩⟩
        simp only [Bool.not_eq_true'] at e
        rw [← hs, hd, e]; rfl
      · simp only [Bool.not_eq_false'] at e
        refine ⟨(i + 1, ()), ?_, ⟨by dsimp only; omega, by dsimp only; omega, hw.trans h3, ?_⟩, by dsimp only; omega⟩
        · rw [wrap_succ i0 (by omega)]; rfl
        · dsimp only
          rw [show (i + 1).toNat = i.toNat + 1 by omega, ← hs, hd, e]; rfl
    · have hi : ¬ i < m := by simpa using e
      refine ⟨rfl, (), rfl, fun g => ⟨?_, H.trans hw⟩⟩
      rw [← hs, List.drop_of_length_le (by omega)]
      simp [sameL]
end Go.Proofs.YtjellmblammiaaaDoor
