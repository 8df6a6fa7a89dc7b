/- Are there few parts? Count's walks. -/
import Derived.Test.YtjlmkahagcojcaaGreatDoorXn
namespace Go.Proofs.YtjlmkahagcojcaaGreatDoor.V
open Go Tr
set_option maxRecDepth 100000
/-! the tree of function 105 -/
abbrev fx105_2 (qa0 : Addr) (qa1 : Option Addr) (qn1 : Nat) (qc1 : Nat) : List (Tmp × Value) := [(0, .pointer (some qa0)), (1, .slice qa1 qn1 qc1)]
abbrev m105_2 : List (Tmp × Comp) := [(4, .leaf (.int .i64))]
abbrev mx105_2 : List (Tmp × Comp) := []
abbrev mr105_2 : List (Tmp × Comp) := []
abbrev fx105_3 (qa0 : Addr) (qa1 : Option Addr) (qn1 : Nat) (qc1 : Nat) (x_4 : Int) : List (Tmp × Value) := [(0, .pointer (some qa0)), (1, .slice qa1 qn1 qc1), (4, .int .i64 x_4)]
abbrev mx105_3 : List (Tmp × Comp) := [(16, .leaf .bool)]
def s105_3 : Script := .sym (.lit (.cl (.one (.leaf .bool)) (.lit .nil))) (.lit (.lit .nil))
theorem t105_3 (qa0 : Addr) (qa1 : Option Addr) (qn1 : Nat) (qc1 : Nat) (x_4 : Int) (gg3 : Nat → Value) : pieceT Tryz.prog (at_ Tryz.f105 [1, 1, 0, 0, 0, 0]) 26 (fx105_3 qa0 qa1 qn1 qc1 x_4) gg3 (mx105_3.map (·.1)) [] [] s105_3 = .br (Decidable.decide (x_4 < (↑qn1 : Int))) (.call 43 #[.pointer (some qa0)] (.one (.leaf .bool)) (fun b4 => .fin .normal [(16, .bool b4)])) (.fin .normal [(16, .bool false)]) := by kernel_rfl
def s105_2 : Script := .ct 1 [0, 1, 4] mx105_3 (.sym (.ix (.ld .sl (.cl (.tup []) .nil))) .nil)
theorem t105_2 (qa0 : Addr) (qa1 : Option Addr) (qn1 : Nat) (qc1 : Nat) (x_4 : Int) (gg2 : Nat → Value) : pieceT Tryz.prog (at_ Tryz.f105 [1, 1, 0, 0]) 26 (fx105_2 qa0 qa1 qn1 qc1 ++ mvals m105_2 (x_4, ())) gg2 (m105_2.map (·.1)) (mx105_2.map (·.1)) (mr105_2.map (·.1)) s105_2 = .cut (at_ Tryz.f105 [1, 1, 0, 0, 0, 0]) 26 (fx105_3 qa0 qa1 qn1 qc1 x_4) mx105_3 (fun u5 g5 => .br u5.1 (.idx qa1 x_4 qn1 4 (fun a6 => .load (a6.add 3) .sl (fun l7 => .call 105 #[.pointer (some qa0), .slice l7.1 l7.2.1 l7.2.2] (.tup []) (fun r8 => .fin .normal [(4, .int .i64 (IntKind.i64.wrap (x_4 + 1)))])))) (.fin (.exit 0) [])) := by kernel_rfl
def s105 : Script := .cl (.one (.leaf .bool)) (.lp 0 [0, 1] [4] mx105_2 mr105_2 .nil .nil)
theorem t105 (qa0 : Addr) (qa1 : Option Addr) (qn1 : Nat) (qc1 : Nat) : fnT Tryz.prog Tryz.f105 #[.pointer (some qa0), .slice qa1 qn1 qc1] s105 = .call 104 #[.pointer (some qa0), .int .i64 (↑qn1 : Int)] (.one (.leaf .bool)) (fun b1 => .loop (at_ Tryz.f105 [1, 1, 0, 0]) 26 (fx105_2 qa0 qa1 qn1 qc1) [(4, .int .i64 0)] mx105_2 mr105_2 0 (fun u9 g9 => .done (.returned (.tuple #[]))) (fun u10 g10 => .stuck)) := by kernel_rfl
/-! the tree of function 75 -/
def s75 : Script := .ld .sl (.cl (.one (.leaf .bool)) (.ld .sl (.cl (.tup []) .nil)))
theorem t75 (qa0 : Addr) (qs1_0 : ByteArray) (qx1_1 : Int) (qx1_2 : Int) (qs1_3 : ByteArray) (qa1_4 : Option Addr) (qn1_4 : Nat) (qc1_4 : Nat) (qa1_5 : Option Addr) (qn1_5 : Nat) (qc1_5 : Nat) : fnT Tryz.prog Tryz.f75 #[.pointer (some qa0), .agg #[.string qs1_0, .int .i64 qx1_1, .int .i64 qx1_2, .string qs1_3, .slice qa1_4 qn1_4 qc1_4, .slice qa1_5 qn1_5 qc1_5]] s75 = .new (.cells #[.string qs1_0, .int .i64 qx1_1, .int .i64 qx1_2, .string qs1_3, .slice qa1_4 qn1_4 qc1_4, .slice qa1_5 qn1_5 qc1_5] 54 (0, 0)) (fun n1 => .load ⟨n1, 5, none⟩ .sl (fun l2 => .call 104 #[.pointer (some qa0), .int .i64 (IntKind.i64.wrap (1 + (↑l2.snd.fst : Int)))] (.one (.leaf .bool)) (fun b3 => .load ⟨n1, 4, none⟩ .sl (fun l4 => .call 105 #[.pointer (some qa0), .slice l4.1 l4.2.1 l4.2.2] (.tup []) (fun r5 => .done (.returned (.tuple #[]))))))) := by kernel_rfl
/-! the tree of function 42 -/
abbrev fx42_1 (qa0 : Addr) (qa1 : Option Addr) (qn1 : Nat) (qc1 : Nat) : List (Tmp × Value) := [(0, .pointer (some qa0)), (1, .slice qa1 qn1 qc1)]
abbrev m42_1 : List (Tmp × Comp) := [(4, .leaf (.int .i64))]
abbrev mx42_1 : List (Tmp × Comp) := []
abbrev mr42_1 : List (Tmp × Comp) := []
abbrev fx42_2 (qa0 : Addr) (qa1 : Option Addr) (qn1 : Nat) (qc1 : Nat) (x_4 : Int) : List (Tmp × Value) := [(0, .pointer (some qa0)), (1, .slice qa1 qn1 qc1), (4, .int .i64 x_4)]
abbrev mx42_2 : List (Tmp × Comp) := [(12, .leaf .bool)]
def s42_2 : Script := .sym (.lit (.cl (.one (.leaf .bool)) (.lit .nil))) (.lit (.lit .nil))
theorem t42_2 (qa0 : Addr) (qa1 : Option Addr) (qn1 : Nat) (qc1 : Nat) (x_4 : Int) (gg2 : Nat → Value) : pieceT Tryz.prog (at_ Tryz.f42 [1, 0, 0, 0, 0]) 21 (fx42_2 qa0 qa1 qn1 qc1 x_4) gg2 (mx42_2.map (·.1)) [] [] s42_2 = .br (Decidable.decide (x_4 < (↑qn1 : Int))) (.call 43 #[.pointer (some qa0)] (.one (.leaf .bool)) (fun b3 => .fin .normal [(12, .bool b3)])) (.fin .normal [(12, .bool false)]) := by kernel_rfl
def s42_1 : Script := .ct 1 [0, 1, 4] mx42_2 (.sym (.ix (.ld .str (.ld (.int .i64) (.ld (.int .i64) (.ld .str (.ld .sl (.ld .sl (.cl (.tup []) .nil)))))))) .nil)
theorem t42_1 (qa0 : Addr) (qa1 : Option Addr) (qn1 : Nat) (qc1 : Nat) (x_4 : Int) (gg1 : Nat → Value) : pieceT Tryz.prog (at_ Tryz.f42 [1, 0, 0]) 21 (fx42_1 qa0 qa1 qn1 qc1 ++ mvals m42_1 (x_4, ())) gg1 (m42_1.map (·.1)) (mx42_1.map (·.1)) (mr42_1.map (·.1)) s42_1 = .cut (at_ Tryz.f42 [1, 0, 0, 0, 0]) 21 (fx42_2 qa0 qa1 qn1 qc1 x_4) mx42_2 (fun u4 g4 => .br u4.1 (.idx qa1 x_4 qn1 6 (fun a5 => .load a5 .str (fun s6 => .load (a5.add 1) (.int .i64) (fun x7 => .load (a5.add 2) (.int .i64) (fun x8 => .load (a5.add 3) .str (fun s9 => .load (a5.add 4) .sl (fun l10 => .load (a5.add 5) .sl (fun l11 => .call 75 #[.pointer (some qa0), .agg #[.string s6, .int .i64 x7, .int .i64 x8, .string s9, .slice l10.1 l10.2.1 l10.2.2, .slice l11.1 l11.2.1 l11.2.2]] (.tup []) (fun r12 => .fin .normal [(4, .int .i64 (IntKind.i64.wrap (x_4 + 1)))]))))))))) (.fin (.exit 0) [])) := by kernel_rfl
def s42 : Script := .lp 0 [0, 1] [4] mx42_1 mr42_1 .nil .nil
theorem t42 (qa0 : Addr) (qa1 : Option Addr) (qn1 : Nat) (qc1 : Nat) : fnT Tryz.prog Tryz.f42 #[.pointer (some qa0), .slice qa1 qn1 qc1] s42 = .loop (at_ Tryz.f42 [1, 0, 0]) 21 (fx42_1 qa0 qa1 qn1 qc1) [(4, .int .i64 0)] mx42_1 mr42_1 0 (fun u13 g13 => .done (.returned (.tuple #[]))) (fun u14 g14 => .stuck) := by kernel_rfl
/-! the tree of function 13 -/
def s13 : Script := .cl (.one (.leaf .ptr)) (.cl (.tup []) (.cl (.one (.leaf .bool)) .nil))
theorem t13 (qa0 : Option Addr) (qn0 : Nat) (qc0 : Nat) : fnT Tryz.prog Tryz.f13 #[.slice qa0 qn0 qc0] s13 = .call 41 #[] (.one (.leaf .ptr)) (fun p1 => .call 42 #[.pointer p1, .slice qa0 qn0 qc0] (.tup []) (fun r2 => .call 43 #[.pointer p1] (.one (.leaf .bool)) (fun b3 => .done (.returned (.bool b3))))) := by kernel_rfl
abbrev tCnt : TypeId := 150
mutual
def FewV : VT → Prop
  | .mk _ _ _ l => l.length ≤ 10000 ∧ FewL l
def FewL : List VT → Prop
  | [] => True
  | x :: r => FewV x ∧ FewL r
end
theorem FewV_def (x : VT) : FewV x = (x.items.length ≤ 10000 ∧ FewL x.items) := by cases x; simp only [FewV]; rfl
theorem FewL_snoc : ∀ (l : List VT) (x : VT), FewL l → FewV x → FewL (l ++ [x])
  | [], x, _, h => by simp only [List.nil_append, FewL]; exact ⟨h, trivial⟩
  | y :: l, x, h, hx => by
    simp only [List.cons_append, FewL] at h ⊢
    exact ⟨h.1, FewL_snoc l x h.2 hx⟩
theorem FewL_get : ∀ (l : List VT) (i : Nat) (x : VT), FewL l → l[i]? = some x → FewV x
  | [], i, x, _, h => by simp at h
  | y :: l, 0, x, h, hx => by
    simp only [FewL] at h
    simp at hx
    rw [← hx]; exact h.1
  | y :: l, i + 1, x, h, hx => by
    simp only [FewL] at h
    exact FewL_get l i x h.2 (by simpa using hx)
theorem cadd_any (b : Nat) (left n : Int) (w : World) (hb : Blk w b [.int .i64 left] tCnt) :
    Calls Tryz.prog 104 #[.pointer (some ⟨b, 0, none⟩), .int .i64 n] w fun e w' => ∃ l' : Int, e = .returned (.bool (decide (l' ≥ 0))) ∧ Ch (· = b) w w' ∧ Blk w' b [.int .i64 l'] tCnt ∧ l' = if left ≥ 0 then IntKind.i64.wrap (left - n) else left := by
  refine calls_of_fnT mixed Tryz.func104 (s := s104) ?_
  rw [t104]
  refine ld_int (hb.cell 0) (br_both (fun e => ?_) fun e => ?_)
  · have e := ge_t e
    exact ld_int (hb.cell 0) (st_blk hb (by simp) rfl fun w1 h1 z1 b1 => ld_int (b1.cell 0) ⟨_, rfl, h1, b1, by rw [if_pos e]⟩)
  · have e := ge_f e
    exact ld_int (hb.cell 0) ⟨_, rfl, Ch.refl _ _, hb, by rw [if_neg (by omega)]⟩
theorem cok_any (b : Nat) (n : Int) (w : World) (hb : Blk w b [.int .i64 n] tCnt) : Calls Tryz.prog 43 #[.pointer (some ⟨b, 0, none⟩)] w fun e w' => e = .returned (.bool (decide (n ≥ 0))) ∧ w' = w := ok_any b tCnt n w hb
theorem sub_in {left : Int} {n : Nat} (h : left ≤ 10000) (h0 : 0 ≤ left) (hn : n ≤ 9223372036854775807) : IntKind.i64.wrap (left - (n : Int)) = left - n := wrap_in (by omega) (by omega)
/-- Behind one more: what is left, if it is not below 0. -/
theorem one_more {left : Int} {n : Nat} (h : left ≤ 10000) (h0 : 0 ≤ left) (hn : n ≤ 9223372036854775807) (hr : 0 ≤ IntKind.i64.wrap (left - IntKind.i64.wrap (1 + (n : Int)))) : IntKind.i64.wrap (left - IntKind.i64.wrap (1 + (n : Int))) = left - 1 - n := by
  by_cases h1 : n ≤ 9223372036854775806
  · rw [wrap_in (x := 1 + (n : Int)) (by omega) (by omega), wrap_in (by omega) (by omega)]; omega
  · exfalso
    have : n = 9223372036854775807 := by omega
    subst this
    have e1 : IntKind.i64.wrap (1 + ((9223372036854775807 : Nat) : Int)) = -9223372036854775808 := by decide
    rw [e1, IntKind.wrap_i64] at hr
    omega
theorem one_le {left : Int} {n : Nat} (h : left ≤ 10000) (h0 : 0 ≤ left) (hn : n ≤ 9223372036854775807) : IntKind.i64.wrap (left - IntKind.i64.wrap (1 + (n : Int))) ≤ 10000 := by
  by_cases hr : 0 ≤ IntKind.i64.wrap (left - IntKind.i64.wrap (1 + (n : Int)))
  · rw [one_more h h0 hn hr]; omega
  · omega
theorem cvals_any (w0 : World) (b : Nat) (hb0 : w0.heap.size ≤ b) (k : Nat) : ∀ (x : VT) (p : Option Addr) (m c : Nat) (left : Int) (w : World), SizeOf.sizeOf x < k → IsV w0 x p m c → Ch (w0.heap.size ≤ ·) w0 w → Blk w b [.int .i64 left] tCnt → left ≤ 10000 →
    Calls Tryz.prog 105 #[.pointer (some ⟨b, 0, none⟩), .slice p m c] w fun e w' => e = .returned (.tuple #[]) ∧ Ch (· = b) w w' ∧ ∃ l' : Int, Blk w' b [.int .i64 l'] tCnt ∧ l' ≤ 10000 ∧ (0 ≤ l' → 0 ≤ left ∧ l' ≤ left ∧ FewV x) := by
  induction k with
  | zero => intro x p m c left w h; omega
  | succ k ih =>
    intro x p m c left w hk hx hw hb hl
    refine calls_of_fnT mixed Tryz.func105 (s := s105) ?_
    rw [t105]
    have hlen := RIt_len hx.its
    have hcap := hx.cap
    have hbig := hx.big
    refine cl_i (cadd_any b left (m : Int) w hb) ?_
    rintro e w1 ⟨l1, rfl, h1, b1, hl1⟩
    refine ⟨_, rfl, ?_⟩
    have l1le : l1 ≤ 10000 := by
      rw [hl1]
      split
      · rw [sub_in hl (by omega) (by omega)]; omega
      · exact hl
    have l1ok : 0 ≤ l1 → 0 ≤ left ∧ l1 = left - m := fun h => by
      rw [hl1] at h ⊢
      split at h
      · rename_i h0
        rw [if_pos h0, sub_in hl (by omega) (by omega)] at *
        exact ⟨by omega, rfl⟩
      · omega
    refine loop_i mixed m105_2 s105_2 (by kernel_rfl) (by kernel_rfl)
      (fun (v : Int × Unit) w' => ∃ (i : Nat) (l' : Int), v.1 = i ∧ i ≤ m ∧ Ch (· = b) w w' ∧ Blk w' b [.int .i64 l'] tCnt ∧ l' ≤ 10000 ∧ (0 ≤ l' → 0 ≤ l1 ∧ l' ≤ l1 ∧ FewL (x.items.take i)))
      (fun (v : Int × Unit) _ => m - v.1.toNat) (0, ()) rfl ⟨0, l1, rfl, by omega, h1, b1, l1le, fun h => ⟨h, Int.le_refl _, trivial⟩⟩ ?_
    intro v g w2 hv
    rw [t105_2]
    obtain ⟨a, ⟨⟩⟩ := v
    dsimp only at hv ⊢
    obtain ⟨i, l2, ha, him, h2, b2, l2le, hfew⟩ := hv
    subst ha
    refine cut_i mixed s105_3 (fun v w' => w' = w2 ∧ v.1 = decide (i < m ∧ 0 ≤ l2)) (by kernel_rfl) (fun g => ?_) ?_
    · rw [t105_3]
      refine br_both (fun e => ?_) fun e => ⟨rfl, (false, ()), rfl, rfl, ?_⟩
      · have e := lt_t e
        refine cl_i (cok_any b l2 w2 b2) ?_
        rintro e' w3 ⟨rfl, rfl⟩
        exact ⟨_, rfl, rfl, (_, ()), rfl, rfl, decide_eq_decide.2 ⟨fun h => ⟨by omega, h⟩, fun h => h.2⟩⟩
      · have e := lt_f e
        exact (decide_eq_false (by omega)).symm
    intro v g w3 hv
    obtain ⟨u, ⟨⟩⟩ := v
    obtain ⟨hw3, hu⟩ := hv
    dsimp only at hu
    subst hu hw3
    refine br_both (fun e => ?_) fun e => ?_
    · obtain ⟨hi, h0⟩ := of_decide_eq_true e
      obtain ⟨y, hy⟩ : ∃ u, x.items[i]? = some u := ⟨_, List.getElem?_eq_getElem (by omega)⟩
      obtain ⟨ad, yp, ym, yc, hpa, cy, vy⟩ := hx.get hy
      have hsz := VT.size_lt hy
      have W2 : Ch (w0.heap.size ≤ ·) w0 w3 := hw.trans (h2.mono fun k hk => by subst hk; exact hb0)
      subst hpa
      refine ix_i (by omega) (by omega) ?_
      rw [Int.toNat_natCast]
      refine ld_sl (upCell W2 cy.c3) ?_
      refine cl_i (ih y yp ym yc l2 w3 (by omega) vy W2 b2 l2le) ?_
      rintro e' w4 ⟨rfl, h4, l4, b4, l4le, hf4⟩
      have hwi : IntKind.i64.wrap ((i : Int) + 1) = ((i + 1 : Nat) : Int) := wrap_succ (by omega) (by omega)
      refine ⟨(), rfl, ?_⟩
      rw [hwi]
      refine ⟨(_, ()), rfl, ⟨i + 1, l4, rfl, hi, h2.trans h4, b4, l4le, fun h => ?_⟩, ?_⟩
      · obtain ⟨f1, f2, f3⟩ := hf4 h
        obtain ⟨f4, f5, f6⟩ := hfew f1
        have htk : x.items.take (i + 1) = x.items.take i ++ [y] := by
          obtain ⟨hlt, he⟩ := List.getElem?_eq_some_iff.1 hy
          rw [List.take_succ_eq_append_getElem hlt, he]
        rw [htk]
        exact ⟨f4, by omega, FewL_snoc _ _ f6 f3⟩
      · show m - (i + 1) < m - i
        exact Nat.sub_lt_sub_left hi (Nat.lt_succ_self i)
    · have e := of_decide_eq_false e
      refine ⟨rfl, (), rfl, fun g => ⟨rfl, h2, l2, b2, l2le, fun h => ?_⟩⟩
      have him' : i = m := by
        rcases Nat.lt_or_ge i m with h' | h'
        · exact absurd ⟨h', h⟩ e
        · omega
      obtain ⟨f1, f2, f3⟩ := hfew h
      obtain ⟨g1, g2⟩ := l1ok f1
      rw [List.take_of_length_le (by omega)] at f3
      rw [FewV_def]
      exact ⟨g1, by omega, by omega, f3⟩
theorem crec_few (w0 : World) (b : Nat) (hb0 : w0.heap.size ≤ b) (r : RecM) (vq : Option Addr) (vn vc : Nat) (kp : Option Addr) (kn kc : Nat) (left : Int) (w : World) (hx : IsV w0 r.val vq vn vc) (hkn : kn ≤ 9223372036854775807) (hw : Ch (w0.heap.size ≤ ·) w0 w) (hb : Blk w b [.int .i64 left] tCnt) (hl : left ≤ 10000) :
    Calls Tryz.prog 75 #[.pointer (some ⟨b, 0, none⟩), .agg #[.string r.key, .int .i64 r.val.kind, .int .i64 r.val.int, .string r.val.text, .slice vq vn vc, .slice kp kn kc]] w fun e w' => e = .returned (.tuple #[]) ∧ Ch (w0.heap.size ≤ ·) w w' ∧ ∃ l' : Int, Blk w' b [.int .i64 l'] tCnt ∧ l' ≤ 10000 ∧ (0 ≤ l' → 0 ≤ left ∧ l' + 1 ≤ left ∧ kn ≤ 10000 ∧ FewV r.val) := by
  refine calls_of_fnT mixed Tryz.func75 (s := s75) ?_
  rw [t75]
  refine nw fun w1 h1 z1 (b1 : Blk w1 _ [.string r.key, .int .i64 r.val.kind, .int .i64 r.val.int, .string r.val.text, .slice vq vn vc, .slice kp kn kc] 54) => ?_
  have hb1 := hb.ch h1 (fun h => h)
  have hne : ¬ w.heap.size = b := fun e => by have := hb.lt; omega
  refine ld_sl (b1.cell 5) ?_
  dsimp only
  refine cl_i (cadd_any b left _ w1 hb1) ?_
  rintro e w2 ⟨l1, rfl, h2, b2, hl1⟩
  refine ⟨_, rfl, ?_⟩
  have l1le : l1 ≤ 10000 := by
    rw [hl1]
    split
    · exact one_le hl (by omega) hkn
    · exact hl
  have l1ok : 0 ≤ l1 → 0 ≤ left ∧ l1 = left - 1 - kn := fun h => by
    rw [hl1] at h ⊢
    split at h
    · rename_i h0
      rw [if_pos h0]
      exact ⟨by omega, one_more hl (by omega) hkn h⟩
    · omega
  have b12 := b1.ch h2 hne
  refine ld_sl (b12.cell 4) ?_
  have W2 : Ch (w0.heap.size ≤ ·) w w2 := h1.no.trans (h2.mono fun k hk => by subst hk; exact hb0)
  refine cl_i (cvals_any w0 b hb0 _ r.val vq vn vc l1 w2 (Nat.lt_succ_self _) hx (hw.trans W2) b2 l1le) ?_
  rintro e w3 ⟨rfl, h3, l3, b3, l3le, hf⟩
  refine ⟨(), rfl, rfl, W2.trans (h3.mono fun k hk => by subst hk; exact hb0), l3, b3, l3le, fun h => ?_⟩
  obtain ⟨f1, f2, f3⟩ := hf h
  obtain ⟨g1, g2⟩ := l1ok f1
  exact ⟨g1, by omega, by omega, f3⟩
/-- Few records, few parts in each. -/
def FewR (l : List RecM) : Prop := l.length ≤ 10000 ∧ ∀ r ∈ l, r.loops.length ≤ 10000 ∧ FewV r.val
set_option maxHeartbeats 1000000 in
theorem crecs_any (p : Option Addr) (n c : Nat) (l : List RecM) (w : World) (ha : AtT w p n l) (hn : n ≤ 9223372036854775807) (hk : ∀ r ∈ l, r.loops.length ≤ 9223372036854775807) :
    Calls Tryz.prog 13 #[.slice p n c] w fun e w' => ∃ b, e = .returned (.bool b) ∧ Ch No w w' ∧ (b = true → FewR l) := by
  refine calls_of_fnT mixed Tryz.func13 (s := s13) ?_
  rw [t13]
  refine cl_i (new_any w) ?_
  rintro e w1 ⟨rfl, h1, b1⟩
  refine ⟨_, rfl, ?_⟩
  have hln := ha.1
  have hrecs : Calls Tryz.prog 42 #[.pointer (some ⟨w.heap.size, 0, none⟩), .slice p n c] w1 fun e w' => e = .returned (.tuple #[]) ∧ Ch (w.heap.size ≤ ·) w w' ∧ ∃ l' : Int, Blk w' w.heap.size [.int .i64 l'] tCnt ∧ (0 ≤ l' → FewR l) := by
    refine calls_of_fnT mixed Tryz.func42 (s := s42) ?_
    rw [t42]
    refine loop_i mixed m42_1 s42_1 (by kernel_rfl) (by kernel_rfl)
      (fun (v : Int × Unit) w' => ∃ (i : Nat) (l' : Int), v.1 = i ∧ i ≤ n ∧ Ch (w.heap.size ≤ ·) w w' ∧ Blk w' w.heap.size [.int .i64 l'] tCnt ∧ l' ≤ 10000 ∧ (0 ≤ l' → l' + i ≤ 10000 ∧ ∀ r ∈ l.take i, r.loops.length ≤ 10000 ∧ FewV r.val))
      (fun (v : Int × Unit) _ => n - v.1.toNat) (0, ()) rfl ⟨0, 10000, rfl, by omega, h1.no, b1, by omega, fun h => ⟨by omega, fun r hr => by simp at hr⟩⟩ ?_
    intro v g w2 hv
    rw [t42_1]
    obtain ⟨a, ⟨⟩⟩ := v
    dsimp only at hv ⊢
    obtain ⟨i, l2, hai, him, h2, b2, l2le, hfew⟩ := hv
    subst hai
    refine cut_i mixed s42_2 (fun v w' => w' = w2 ∧ v.1 = decide (i < n ∧ 0 ≤ l2)) (by kernel_rfl) (fun g => ?_) ?_
    · rw [t42_2]
      refine br_both (fun e => ?_) fun e => ⟨rfl, (false, ()), rfl, rfl, ?_⟩
      · have e := lt_t e
        refine cl_i (cok_any _ l2 w2 b2) ?_
        rintro e' w3 ⟨rfl, rfl⟩
        exact ⟨_, rfl, rfl, (_, ()), rfl, rfl, decide_eq_decide.2 ⟨fun h => ⟨by omega, h⟩, fun h => h.2⟩⟩
      · have e := lt_f e
        exact (decide_eq_false (by omega)).symm
    intro v g w3 hv
    obtain ⟨u, ⟨⟩⟩ := v
    obtain ⟨hw3, hu⟩ := hv
    dsimp only at hu
    subst hu hw3
    refine br_both (fun e => ?_) fun e => ?_
    · obtain ⟨hi, h0⟩ := of_decide_eq_true e
      obtain ⟨r, hr⟩ : ∃ u, l[i]? = some u := ⟨_, List.getElem?_eq_getElem (by omega)⟩
      obtain ⟨ad, rfl, hcells⟩ := ha.2 (by omega)
      obtain ⟨vq, vn, vc, kp, kn, kc, c0, cv, c5, hv, hkI⟩ := hcells i r hr
      have hkn : kn = r.loops.length := hkI.1.symm
      refine ix_i (by omega) (by omega) ?_
      rw [Int.toNat_natCast]
      have cv1 := upCell h2 cv.c1
      have cv2 := upCell h2 cv.c2
      have cv3 := upCell h2 cv.c3
      rw [add_add] at cv1 cv2 cv3
      refine ld_str (upCell h2 c0) (ld_int (upCell h2 cv.c0) (ld_int cv1 (ld_str cv2 (ld_sl cv3 (ld_sl (upCell h2 c5) ?_)))))
      refine cl_i (crec_few w w.heap.size (Nat.le_refl _) r vq vn vc kp kn kc l2 w3 hv (by rw [hkn]; exact hk r (List.mem_of_getElem? hr)) h2 b2 l2le) ?_
      rintro e' w4 ⟨rfl, h4, l4, b4, l4le, hf4⟩
      have hwi : IntKind.i64.wrap ((i : Int) + 1) = ((i + 1 : Nat) : Int) := wrap_succ (by omega) (by have := (hfew h0).1; omega)
      refine ⟨(), rfl, ?_⟩
      rw [hwi]
      refine ⟨(_, ()), rfl, ⟨i + 1, l4, rfl, hi, h2.trans h4, b4, l4le, fun h => ?_⟩, ?_⟩
      · obtain ⟨f1, f2, f3, f4⟩ := hf4 h
        obtain ⟨f5, f6⟩ := hfew f1
        refine ⟨by omega, fun y hy => ?_⟩
        have htk : l.take (i + 1) = l.take i ++ [r] := by
          obtain ⟨hlt, he⟩ := List.getElem?_eq_some_iff.1 hr
          rw [List.take_succ_eq_append_getElem hlt, he]
        rw [htk] at hy
        rcases List.mem_append.1 hy with hy | hy
        · exact f6 y hy
        · rw [List.mem_singleton.1 hy]; exact ⟨by omega, f4⟩
      · show n - (i + 1) < n - i
        exact Nat.sub_lt_sub_left hi (Nat.lt_succ_self i)
    · have e := of_decide_eq_false e
      refine ⟨rfl, (), rfl, fun g => ⟨rfl, h2, l2, b2, fun h => ?_⟩⟩
      have him' : i = n := by
        rcases Nat.lt_or_ge i n with h' | h'
        · exact absurd ⟨h', h⟩ e
        · omega
      obtain ⟨f1, f2⟩ := hfew h
      rw [List.take_of_length_le (by omega)] at f2
      exact ⟨by omega, f2⟩
  refine cl_i hrecs ?_
  rintro e w2 ⟨rfl, h2, l2, b2, hf⟩
  refine ⟨(), rfl, ?_⟩
  refine cl_i (cok_any _ l2 w2 b2) ?_
  rintro e w3 ⟨rfl, rfl⟩
  exact ⟨_, rfl, _, rfl, (Ch.refl No w).then_ h2 (fun k hk hh => by omega), fun h => hf (of_decide_eq_true h)⟩
end Go.Proofs.YtjlmkahagcojcaaGreatDoor.V
