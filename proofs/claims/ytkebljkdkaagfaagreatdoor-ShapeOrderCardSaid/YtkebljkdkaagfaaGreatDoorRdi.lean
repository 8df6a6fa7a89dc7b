/- The reader: whole numbers. -/
import Derived.Test.YtkebljkdkaagfaaGreatDoorRdt
import Derived.Test.YtkebljkdkaagfaaGreatDoorShelf
namespace Go.Proofs.YtkebljkdkaagfaaGreatDoor.V
open Go Tr
open Go.RowKit (Below)
set_option maxRecDepth 100000
/-! the tree of function 92 -/
abbrev fx92_2 (qa0 : Addr) (x1 : Int) : List (Tmp × Value) := [(0, .pointer (some qa0)), (3, .int .i64 x1)]
abbrev mx92_2 : List (Tmp × Comp) := []
def s92_2 : Script := .cl (.one (.leaf (.int .u8))) (.sym (.ld (.int .i64) (.cl (.one (.leaf (.int .u8))) (.sym (.ld (.int .i64) (.clx .nil)) .nil))) .nil)
theorem t92_2 (qa0 : Addr) (x1 : Int) (gg2 : Nat → Value) : pieceT Tryz.prog (at_ Tryz.f92 [1, 1, 0]) 91 (fx92_2 qa0 x1) gg2 (mx92_2.map (·.1)) [] [] s92_2 = .call 88 #[.pointer (some qa0)] (.one (.leaf (.int .u8))) (fun x3 => .br (x3 == 45) (.load (qa0.add 1) (.int .i64) (fun x4 => .store (qa0.add 1) (.int .i64 (IntKind.i64.wrap (x4 + 1))) (.call 88 #[.pointer (some qa0)] (.one (.leaf (.int .u8))) (fun x5 => .br (x5 == 48) (.load (qa0.add 1) (.int .i64) (fun x6 => .callx 72 #[.pointer (some qa0), .int .i64 28, .int .i64 x6] (fun ch7 => .done (.panicked ch7)))) (.fin .normal []))))) (.fin .normal [])) := by kernel_rfl
abbrev fx92_12 (qa0 : Addr) (x1 : Int) (g8 : Nat → Value) (x11 : Int) : List (Tmp × Value) := [(0, .pointer (some qa0)), (2, g8 2), (3, .int .i64 x1), (4, .int .i64 x11)]
abbrev m92_12 : List (Tmp × Comp) := []
abbrev mx92_12 : List (Tmp × Comp) := []
abbrev mr92_12 : List (Tmp × Comp) := []
abbrev fx92_13 (qa0 : Addr) (x1 : Int) (x11 : Int) : List (Tmp × Value) := [(0, .pointer (some qa0)), (3, .int .i64 x1), (4, .int .i64 x11)]
abbrev mx92_13 : List (Tmp × Comp) := [(51, .leaf .bool)]
def s92_13 : Script := .cl (.one (.leaf (.int .u8))) (.sym (.lit (.cl (.one (.leaf (.int .u8))) (.lit (.lit .nil)))) (.lit (.lit (.lit .nil))))
theorem t92_13 (qa0 : Addr) (x1 : Int) (x11 : Int) (gg13 : Nat → Value) : pieceT Tryz.prog (at_ Tryz.f92 [1, 1, 1, 1, 1, 0, 0, 0, 0, 0]) 91 (fx92_13 qa0 x1 x11) gg13 (mx92_13.map (·.1)) [] [] s92_13 = .call 88 #[.pointer (some qa0)] (.one (.leaf (.int .u8))) (fun x14 => .br (Decidable.decide (x14 ≥ 48)) (.call 88 #[.pointer (some qa0)] (.one (.leaf (.int .u8))) (fun x15 => .fin .normal [(51, .bool (Decidable.decide (x15 ≤ 57)))])) (.fin .normal [(51, .bool false)])) := by kernel_rfl
def s92_12 : Script := .ct 1 [0, 3, 4] mx92_13 (.sym (.ld (.int .i64) .nil) .nil)
theorem t92_12 (qa0 : Addr) (x1 : Int) (g8 : Nat → Value) (x11 : Int) (gg12 : Nat → Value) : pieceT Tryz.prog (at_ Tryz.f92 [1, 1, 1, 1, 1, 0, 0, 0]) 91 (fx92_12 qa0 x1 g8 x11 ++ mvals m92_12 (())) gg12 (m92_12.map (·.1)) (mx92_12.map (·.1)) (mr92_12.map (·.1)) s92_12 = .cut (at_ Tryz.f92 [1, 1, 1, 1, 1, 0, 0, 0, 0, 0]) 91 (fx92_13 qa0 x1 x11) mx92_13 (fun u16 g16 => .br u16.1 (.load (qa0.add 1) (.int .i64) (fun x17 => .store (qa0.add 1) (.int .i64 (IntKind.i64.wrap (x17 + 1))) (.fin .normal []))) (.fin (.exit 0) [])) := by kernel_rfl
abbrev fx92_19 (qa0 : Addr) (x1 : Int) (x11 : Int) : List (Tmp × Value) := [(0, .pointer (some qa0)), (3, .int .i64 x1), (4, .int .i64 x11)]
abbrev mx92_19 : List (Tmp × Comp) := []
def s92_19 : Script := .ld (.int .i64) (.sym (.ld (.int .i64) (.clx .nil)) .nil)
theorem t92_19 (qa0 : Addr) (x1 : Int) (x11 : Int) (gg19 : Nat → Value) : pieceT Tryz.prog (at_ Tryz.f92 [1, 1, 1, 1, 1, 1, 0]) 91 (fx92_19 qa0 x1 x11) gg19 (mx92_19.map (·.1)) [] [] s92_19 = .load (qa0.add 1) (.int .i64) (fun x20 => .br (x20 == x11) (.load (qa0.add 1) (.int .i64) (fun x21 => .callx 72 #[.pointer (some qa0), .int .i64 28, .int .i64 x21] (fun ch22 => .done (.panicked ch22)))) (.fin .normal [])) := by kernel_rfl
def s92 : Script := .ld (.int .i64) (.ct 0 [0, 3] mx92_2 (.cl (.one (.leaf (.int .u8))) (.sym (.ld (.int .i64) .nil) (.ld (.int .i64) (.lp 0 [0, 2, 3, 4] [] mx92_12 mr92_12 (.ct 0 [0, 3, 4] mx92_19 (.hd0 (.hq 0 (.hq 1 (.hq 2 (.hq 3 (.ld .str (.hq 4 (.hq 5 (.hq 6 (.hq 7 (.hq 8 (.ld (.int .i64) (.hq 9 (.nd (.he 10 (.cl (.tup [.leaf (.int .i64), .leaf .any]) (.hq 11 (.hq 12 (.hq 13 (.hq 14 (.hq 15 (.nop (.nop (.rn (.one (.leaf .bool)) (.sym (.clx .nil) .nil)))))))))))))))))))))))))) .nil)))))
theorem t92 (qa0 : Addr) : fnT Tryz.prog Tryz.f92 #[.pointer (some qa0)] s92 = .load (qa0.add 1) (.int .i64) (fun x1 => .cut (at_ Tryz.f92 [1, 1, 0]) 91 (fx92_2 qa0 x1) mx92_2 (fun u8 g8 => .call 88 #[.pointer (some qa0)] (.one (.leaf (.int .u8))) (fun x9 => .br (x9 == 48) (.load (qa0.add 1) (.int .i64) (fun x10 => .store (qa0.add 1) (.int .i64 (IntKind.i64.wrap (x10 + 1))) (.done (.returned (.int .i64 0))))) (.load (qa0.add 1) (.int .i64) (fun x11 => .loop (at_ Tryz.f92 [1, 1, 1, 1, 1, 0, 0, 0]) 91 (fx92_12 qa0 x1 g8 x11) [] mx92_12 mr92_12 0 (fun u18 g18 => .cut (at_ Tryz.f92 [1, 1, 1, 1, 1, 1, 0]) 91 (fx92_19 qa0 x1 x11) mx92_19 (fun u23 g23 => .hdrawn (.load qa0 .str (fun s24 => .load (qa0.add 1) (.int .i64) (fun x25 => .need (Decidable.decide (0 ≤ x1 ∧ x1 ≤ x25 ∧ x25 ≤ (↑s24.size : Int))) (.eff (.call 113 #[.string (s24.extract x1.toNat x25.toNat), .int .i64 10, .int .i64 64] (.tup [.leaf (.int .i64), .leaf .any]) (fun r26 => .back (.undrawn (.run (vNext (guarded .neq 84 (.tmp 85) (.const .nilIface) r26.snd.1 .nilIface)) (.one (.leaf .bool)) (fun b27 => .br b27 (.callx 72 #[.pointer (some qa0), .int .i64 29, .int .i64 x1] (fun ch28 => .done (.panicked ch28))) (.done (.returned (.int .i64 r26.1)))))))))))))) (fun u29 g29 => .stuck)))))) := by kernel_rfl
def dvalA (acc : Nat) (l : List UInt8) : Nat := l.foldl (fun a c => a * 10 + (c.toNat - 48)) acc
theorem dvalA_le : ∀ (l : List UInt8) (acc : Nat), acc ≤ dvalA acc l
  | [], _ => Nat.le_refl _
  | c :: l, acc => Nat.le_trans (by omega) (dvalA_le l (acc * 10 + (c.toNat - 48)))
theorem pum : ∀ (l : List UInt8) (acc : Nat), (∀ c ∈ l, isDig c = true) → acc ≤ 18446744073709551615 → Lib.parseUintM (2 ^ 64 - 1) acc l = if dvalA acc l ≤ 18446744073709551615 then .ok (dvalA acc l) else .range
  | [], acc, _, h => by simp [Lib.parseUintM, dvalA, h]
  | c :: l, acc, hd, h => by
    have hc := hd c (.head _)
    simp only [isDig, Bool.and_eq_true, decide_eq_true_eq] at hc
    have e : dvalA acc (c :: l) = dvalA (acc * 10 + (c.toNat - 48)) l := rfl
    have hle := dvalA_le l (acc * 10 + (c.toNat - 48))
    unfold Lib.parseUintM
    rw [if_pos hc, e]
    by_cases h1 : 1844674407370955162 ≤ acc
    · rw [if_pos h1, if_neg (by omega)]
    rw [if_neg h1]
    by_cases h2 : 2 ^ 64 - 1 < acc * 10 + (c.toNat - 48)
    · rw [if_pos h2, if_neg (by omega)]
    rw [if_neg h2]
    exact pum l _ (fun c hc => hd c (.tail _ hc)) (by omega)
theorem pint (neg : Bool) (ds : List UInt8) (hd : ∀ c ∈ ds, isDig c = true) (hne : ds ≠ []) : Lib.parseIntB 64 (if neg = true then 45 :: ds else ds) = (match numM neg ds with
    | some v => .ok v
    | none => .range) := by
  have hu : Lib.parseUintB 64 ds = if dval ds ≤ 18446744073709551615 then .ok (dval ds) else .range := by
    unfold Lib.parseUintB
    rw [if_neg hne]
    exact pum ds 0 hd (by omega)
  cases neg with
  | true =>
    rw [if_pos rfl]
    unfold Lib.parseIntB numM
    have h45 : (45 : UInt8).toNat = 45 := rfl
    simp only [h45, if_true, or_true, hu]
    by_cases h1 : dval ds ≤ 18446744073709551615
    · rw [if_pos h1]
      by_cases h2 : dval ds ≤ 9223372036854775808
      · rw [if_pos h2]
        have : ¬ 2 ^ (64 - 1) < dval ds := by omega
        simp [this]
      · rw [if_neg h2]
        have : 2 ^ (64 - 1) < dval ds := by omega
        simp [this]
    · rw [if_neg h1, if_neg (by omega)]
  | false =>
    rw [if_neg (by decide)]
    cases ds with
    | nil => exact absurd rfl hne
    | cons c r =>
      have hc := hd c (.head _)
      simp only [isDig, Bool.and_eq_true, decide_eq_true_eq] at hc
      unfold Lib.parseIntB numM
      have n43 : ¬ c.toNat = 43 := by omega
      have n45 : ¬ c.toNat = 45 := by omega
      simp only [n43, n45, or_self, if_false, hu]
      by_cases h1 : dval (c :: r) ≤ 18446744073709551615
      · rw [if_pos h1]
        by_cases h2 : dval (c :: r) < 9223372036854775808
        · have : ¬ 2 ^ (64 - 1) ≤ dval (c :: r) := by omega
          simp [this, h2]
        · have : 2 ^ (64 - 1) ≤ dval (c :: r) := by omega
          simp [this, h2]
      · rw [if_neg h1]
        have h2 : ¬ dval (c :: r) < 9223372036854775808 := by omega
        simp [h2]
/-- What ErrRange holds. -/
def Ev (w : World) : Prop := ∃ te pe, w.cell? ⟨7, 0, none⟩ = some (.iface te pe)
theorem Ev.ch {w w' : World} {S : Nat → Prop} (h : Ev w) (hc : Ch S w w') (hS : ¬ S 7) : Ev w' := by
  obtain ⟨te, pe, h⟩ := h
  exact ⟨te, pe, hc.cellv h hS⟩
theorem neq_nil (w : World) : (vNext (guarded .neq 84 (.tmp 85) (.const .nilIface) .nilIface .nilIface)).run Tryz.prog w = .ok (.value (.bool false)) w := by kernel_rfl
theorem neq_err (w : World) (N : Nat) : (vNext (guarded .neq 84 (.tmp 85) (.const .nilIface) (.iface 199 (.pointer (some ⟨N, 0, none⟩))) .nilIface)).run Tryz.prog w = .ok (.value (.bool true)) w := by kernel_rfl
theorem dig_pk (l : List UInt8) : (l.takeWhile isDig = [] ∧ l.dropWhile isDig = l ∧ ¬ (48 ≤ pk l ∧ pk l ≤ 57)) ∨ ∃ c t, l = c :: t ∧ (48 ≤ pk l ∧ pk l ≤ 57) ∧ isDig c = true ∧ l.takeWhile isDig = c :: t.takeWhile isDig ∧ l.dropWhile isDig = t.dropWhile isDig := by
  cases l with
  | nil => exact .inl ⟨rfl, rfl, by decide⟩
  | cons c t =>
    by_cases h : isDig c = true
    · have h' := h
      simp only [isDig, Bool.and_eq_true, decide_eq_true_eq] at h'
      exact .inr ⟨c, t, rfl, h', h, by simp [h], by simp [h]⟩
    · have h' := h
      simp only [isDig, Bool.and_eq_true, decide_eq_true_eq] at h'
      exact .inl ⟨by simp [h], by simp [h], h'⟩
theorem tw_all : ∀ (l : List UInt8), ∀ c ∈ l.takeWhile isDig, isDig c = true
  | [], c, h => by simp at h
  | d :: l, c, h => by
    rw [List.takeWhile_cons] at h
    split at h
    · rename_i hd
      rcases List.mem_cons.1 h with rfl | h
      · exact hd
      · exact tw_all l c h
    · simp at h
theorem rint_any (w : World) (nd : Nat) (s : ByteArray) (i : Nat) (parts : Int) (D : RdS w nd s i parts) (hE : Ev w) (h7 : 11 ≤ nd) :
    Calls Tryz.prog 92 #[.pointer (some ⟨nd, 0, none⟩)] w fun e w' => Ch (· = nd) w w' ∧ match rintX (rest s i) with
      | .ok (v, l') => e = .returned (.int .i64 v) ∧ ∃ i', RdS w' nd s i' parts ∧ l' = rest s i'
      | .error f => RBad s f e := by
  refine calls_of_fnT mixed Tryz.func92 (s := s92) ?_
  rw [t92]
  simp only [addr_add, Nat.zero_add]
  have hbig := D.big
  have hile := D.le
  refine ld_int D.c1 ?_
  have lenR : ∀ j, (rest s j).length = s.size - j := fun j => by show (List.drop j _).length = _; rw [List.length_drop, sizeB]
  refine cut_i mixed s92_2 (fun (v : Unit) w' => Ch (· = nd) w w' ∧ ∃ (neg : Bool) (i1 : Nat), RdS w' nd s i1 parts ∧ i ≤ i1 ∧ rintX (rest s i) = rdigX (rest s i).length neg (rest s i1) ∧ (neg = true → pk (rest s i1) ≠ 48) ∧ (∀ j, i1 ≤ j → (rest s i).take (j - i) = if neg = true then 45 :: (rest s i1).take (j - i1) else (rest s i1).take (j - i1))) (by kernel_rfl) (fun g => ?_) ?_
  · rw [t92_2]
    simp only [addr_add, Nat.zero_add]
    refine cl_i (peek_any w nd s i parts D) ?_
    rintro e w1 ⟨rfl, h1⟩
    have D1 := D.no h1
    refine ⟨_, rfl, br_both (fun e => ?_) fun e => ?_⟩
    · have e : (pk (rest s i) : Int) = 45 := by simpa using e
      have hil := pk_lt s i (by omega)
      refine ld_int D1.c1 (at_next D1 hil fun w2 h2 D2 => ?_)
      refine cl_i (peek_any w2 nd s (i + 1) parts D2) ?_
      rintro r w3 ⟨rfl, h3⟩
      have D3 := D2.no h3
      have hr : rintX (rest s i) = rdigX (rest s i).length true (rest s (i + 1)) := by unfold rintX; rw [if_pos (by omega), rest_tail]
      refine ⟨_, rfl, br_both (fun e' => ?_) fun e' => ?_⟩
      · have e' : (pk (rest s (i + 1)) : Int) = 48 := by simpa using e'
        refine ld_int D3.c1 (cx_i (rfail_any _ _ _ w3) ?_)
        rintro r w4 ⟨rfl, rfl⟩
        refine ⟨_, rfl, h1.no.trans (h2.trans h3.no), ?_⟩
        rw [hr]
        unfold rdigX
        rw [if_pos (by omega), if_pos rfl]
        exact RBad.mk 28 D3.le
      · have e' : ¬ (pk (rest s (i + 1)) : Int) = 48 := by simpa using e'
        refine ⟨rfl, (), rfl, h1.no.trans (h2.trans h3.no), true, i + 1, D3, by omega, hr, fun _ => by omega, fun j hj => ?_⟩
        rw [if_pos rfl, pk_rest hil]
        have hc : s[i]'hil = 45 := by
          rw [pk_rest hil] at e
          exact (u8_is (n := 45) (by decide)).2 (by have : pk (s[i]'hil :: rest s (i + 1)) = (s[i]'hil).toNat := rfl; omega)
        rw [hc]
        obtain ⟨m, rfl⟩ : ∃ m, j = i + 1 + m := ⟨j - (i + 1), by omega⟩
        rw [show i + 1 + m - i = m + 1 by omega, List.take_succ_cons, show i + 1 + m - (i + 1) = m by omega]
    · have e : ¬ (pk (rest s i) : Int) = 45 := by simpa using e
      refine ⟨rfl, (), rfl, h1.no, false, i, D1, Nat.le_refl _, ?_, ?_, ?_⟩
      · unfold rintX
        rw [if_neg (by omega)]
      · intro h; cases h
      · intro j hj; rfl
  rintro ⟨⟩ g w1 ⟨H1, neg, i1, D1, hi1, hr, hneg, htk⟩
  rw [hr]
  refine cl_i (peek_any w1 nd s i1 parts D1) ?_
  rintro e w2 ⟨rfl, h2⟩
  have D2 := D1.no h2
  have H2 := H1.trans h2.no
  refine ⟨_, rfl, br_both (fun e => ?_) fun e1 => ?_⟩
  · have e : (pk (rest s i1) : Int) = 48 := by simpa using e
    refine ld_int D2.c1 (at_next D2 (pk_lt s i1 (by omega)) fun w3 h3 D3 => ?_)
    refine ⟨H2.trans h3, ?_⟩
    unfold rdigX
    rw [if_pos (by omega), if_neg (fun h => hneg h (by omega))]
    exact ⟨rfl, i1 + 1, D3, rest_tail s i1⟩
  have e1 : ¬ (pk (rest s i1) : Int) = 48 := by simpa using e1
  refine ld_int D2.c1 ?_
  refine loop_i mixed m92_12 s92_12 (by kernel_rfl) (by kernel_rfl)
    (fun (_ : Unit) w' => ∃ j, i1 ≤ j ∧ RdS w' nd s j parts ∧ Ch (· = nd) w w' ∧ (rest s i1).takeWhile isDig = (rest s i1).take (j - i1) ++ (rest s j).takeWhile isDig ∧ (rest s i1).dropWhile isDig = (rest s j).dropWhile isDig)
    (fun (_ : Unit) w' => match w'.cell? ⟨nd, 1, none⟩ with
      | some (.int _ x) => s.size - x.toNat
      | _ => 0) () rfl ⟨i1, Nat.le_refl _, D2, H2, by simp, rfl⟩ ?_
  rintro ⟨⟩ g w3 ⟨j, hj, D3, H3, ht, hdw⟩
  rw [t92_12]
  simp only [addr_add, Nat.zero_add]
  refine cut_i mixed s92_13 (fun (v : Bool × Unit) w' => v.1 = decide (48 ≤ pk (rest s j) ∧ pk (rest s j) ≤ 57) ∧ Ch No w3 w') (by kernel_rfl) (fun g => ?_) ?_
  · rw [t92_13]
    refine cl_i (peek_any w3 nd s j parts D3) ?_
    rintro e w4 ⟨rfl, h4⟩
    refine ⟨_, rfl, br_both (fun e => ?_) fun e => ⟨rfl, (false, ()), rfl, two_f (a := 48) (b := 57) e, h4⟩⟩
    refine cl_i (peek_any w4 nd s j parts (D3.no h4)) ?_
    rintro r w5 ⟨rfl, h5⟩
    exact ⟨_, rfl, rfl, (decide ((pk (rest s j) : Int) ≤ 57), ()), rfl, two_t (a := 48) (b := 57) e, h4.trans h5⟩
  rintro ⟨b, ⟨⟩⟩ g w4 ⟨hb, h4⟩
  dsimp only at hb
  subst hb
  have D4 := D3.no h4
  have H4 := H3.trans h4.no
  refine br_both (fun e => ?_) fun e => ?_
  · have e := of_decide_eq_true e
    have hjl := pk_lt s j (by omega)
    refine ld_int D4.c1 (at_next D4 hjl fun w5 h5 D5 => ?_)
    refine ⟨(), rfl, ⟨j + 1, by omega, D5, H4.trans h5, ?_, ?_⟩, ?_⟩
    · rcases dig_pk (rest s j) with ⟨_, _, hh⟩ | ⟨c, t, hl, _, hc, ht', _⟩
      · exact absurd e hh
      · rw [ht, ht']
        have h1 := pk_rest hjl
        rw [hl] at h1
        have ht2 : t = rest s (j + 1) := (List.cons.inj h1).2
        have hget : (rest s i1)[j - i1]? = some c := by
          show (List.drop i1 _)[j - i1]? = _
          rw [List.getElem?_drop, show i1 + (j - i1) = j by omega]
          have : (rest s j)[0]? = some c := by rw [hl]; rfl
          show s.data.toList[j]? = _
          rw [← this]
          show _ = (List.drop j _)[0]?
          rw [List.getElem?_drop, Nat.add_zero]
        rw [show j + 1 - i1 = (j - i1) + 1 by omega, List.take_add_one, hget, ← ht2]
        simp
    · rcases dig_pk (rest s j) with ⟨_, _, hh⟩ | ⟨c, t, hl, _, hc, _, hd'⟩
      · exact absurd e hh
      · have h1 := pk_rest hjl
        rw [hl] at h1
        rw [hdw, hd', (List.cons.inj h1).2]
    · rw [D3.c1, D5.c1]
      show s.size - ((j + 1 : Nat) : Int).toNat < s.size - (j : Int).toNat
      rw [Int.toNat_natCast, Int.toNat_natCast]
      omega
  have e := of_decide_eq_false e
  have htw : (rest s j).takeWhile isDig = [] ∧ (rest s j).dropWhile isDig = rest s j := by
    rcases dig_pk (rest s j) with ⟨h1, h2, _⟩ | ⟨c, t, hl, hh, _⟩
    · exact ⟨h1, h2⟩
    · exact absurd hh e
  rw [htw.1, List.append_nil] at ht
  rw [htw.2] at hdw
  refine ⟨rfl, (), rfl, fun g => ?_⟩
  have hjle := D4.le
  have hrd : rdigX (rest s i).length neg (rest s i1) = (if (rest s i1).take (j - i1) = [] then .error (28, (rest s i1).length) else match numM neg ((rest s i1).take (j - i1)) with
    | none => .error (29, (rest s i).length)
    | some v => .ok (v, rest s j)) := by
    unfold rdigX
    rw [if_neg (by omega), hdw]
    by_cases h : (rest s i1).take (j - i1) = []
    · rw [if_pos h, if_pos (ht.trans h)]
    · rw [if_neg h, if_neg (fun h' => h (ht.symm.trans h')), ht]
      cases numM neg ((rest s i1).take (j - i1)) <;> rfl
  have hemp : (rest s i1).take (j - i1) = [] ↔ j = i1 := by
    constructor
    · intro h
      have := congrArg List.length h
      rw [List.length_take, lenR] at this
      simp at this; omega
    · rintro rfl; simp
  have hdig : ∀ c ∈ (rest s i1).take (j - i1), isDig c = true := fun c hc => by
    rw [← ht] at hc
    exact tw_all _ _ hc
  refine cut_i mixed s92_19 (fun (v : Unit) w' => w' = w4 ∧ j ≠ i1) (by kernel_rfl) (fun g => ?_) ?_
  · rw [t92_19]
    simp only [addr_add, Nat.zero_add]
    refine ld_int D4.c1 (br_both (fun e => ?_) fun e => ?_)
    · have e : (j : Int) = (i1 : Int) := by simpa using e
      refine ld_int D4.c1 (cx_i (rfail_any _ _ _ w4) ?_)
      rintro r w5 ⟨rfl, rfl⟩
      refine ⟨_, rfl, H4, ?_⟩
      rw [hrd, if_pos (hemp.2 (by omega)), show i1 = j by omega]
      exact RBad.mk 28 D4.le
    · have e : ¬ (j : Int) = (i1 : Int) := by simpa using e
      exact ⟨rfl, (), rfl, rfl, fun h => e (by omega)⟩
  rintro ⟨⟩ g w5 ⟨rfl, hji⟩
  rw [hrd, if_neg (fun h => hji (hemp.1 h))]
  have hdr : Ch No w5 w5.drew := (Ch.refl _ _).drew
  refine ⟨fun w'' => RdS w'' nd s j parts, D4.no hdr, ?_⟩
  have D6 := D4.no hdr
  have H6 := H4.trans hdr.no
  have E6 : Ev w5.drew := hE.ch H6 (fun e : 7 = nd => by omega)
  generalize w5.drew = w6 at *
  refine lh_str (x := s) (fun w'' h => h.c0) (lh_int (x := (j : Int)) (fun w'' h => h.c1) ?_)
  show wpT _ _ _ (.need (decide (0 ≤ (i : Int) ∧ (i : Int) ≤ (j : Int) ∧ (j : Int) ≤ (s.size : Int))) _) _ _
  refine ⟨decide_eq_true ⟨by omega, by omega, by omega⟩, ?_⟩
  rw [Int.toNat_natCast, Int.toNat_natCast]
  have hlist : (s.extract i j).data.toList = if neg = true then 45 :: (rest s i1).take (j - i1) else (rest s i1).take (j - i1) := by rw [extract_list, htk j hj]
  have hp := pint neg ((rest s i1).take (j - i1)) hdig (fun h => hji (hemp.1 h))
  rw [← hlist] at hp
  have hsz : (s.extract i j).size ≤ s.size := by simp [ByteArray.size_extract]; omega
  cases hnum : numM neg ((rest s i1).take (j - i1)) with
  | some v =>
    rw [hnum] at hp
    refine eff_i (cl_i (Tryz.strconv_ParseInt_10_at64_ok (s.extract i j) (by omega) v hp w6) ?_)
    rintro e w7 ⟨rfl, hw⟩
    have h67 : Ch No w6 w7 := by
      rcases hw with rfl | ⟨t, rfl⟩
      · exact Ch.refl _ _
      · exact ch_bytes _ _
    have D7 := D6.no h67
    refine ⟨(v, .nilIface, ()), rfl, bk D7 ?_⟩
    show wpT _ _ _ (.run _ _ _) .pl w7
    refine t_run (x := false) (neq_nil w7) (br_false rfl ⟨H6.trans h67.no, ?_⟩)
    exact ⟨rfl, j, D7, rfl⟩
  | none =>
    rw [hnum] at hp
    obtain ⟨te, pe, hE⟩ := E6
    refine eff_i (cl_i (Tryz.strconv_ParseInt_10_at64_range (s.extract i j) (by omega) hp (.iface te pe) w6 hE (.inr ⟨te, pe, rfl⟩)) ?_)
    rintro e w7 ⟨N, rfl, hN, hcell, hbel⟩
    have h67 : Ch No w6 w7 := Ch.of_below hbel
    have D7 := D6.no h67
    refine ⟨(Lib.intSat 64 (s.extract i j).data.toList, .iface 199 (.pointer (some ⟨N, 0, none⟩)), ()), rfl, bk D7 ?_⟩
    show wpT _ _ _ (.run _ _ _) .pl w7
    refine t_run (x := true) (neq_err w7 N) (br_true rfl ?_)
    refine cx_i (rfail_any _ _ _ w7) ?_
    rintro r w8 ⟨rfl, rfl⟩
    exact ⟨_, rfl, H6.trans h67.no, RBad.mk 29 hile⟩
end Go.Proofs.YtkebljkdkaagfaaGreatDoor.V
