/- The other levels of operators. -/
import Derived.Test.YtkebljkdkaagfaaGreatDoorPwh
namespace Go.Proofs.YtkebljkdkaagfaaGreatDoor.E
open Go Tr
open V (rest rest_cases restL sizeB pk_rest cx_i cp_i extract_list)
set_option maxRecDepth 100000
set_option maxHeartbeats 2000000
/-! the tree of function 49 -/
def s49 : Script := .clp (.one (.leaf .bool)) (.sym (.clp (.one (.leaf .ifc)) .nil .nil) (.clp (.one (.agg [.int .i64, .int .i64, .str, .int .i64])) (.clp (.one (.leaf .ifc)) (.clp (.tup []) (.clp (.one (.leaf .ifc)) (.clp (.tup []) (.clp (.one (.leaf .ifc)) .nil .nil) .nil) .nil) .nil) .nil) .nil)) .nil
theorem t49 (qa0 : Addr) : fnT Tryz.prog Tryz.f49 #[.pointer (some qa0)] s49 = .callp 51 #[.pointer (some qa0), .int .i64 2, .string (bytesL [105, 102])] (.one (.leaf .bool)) (fun b1 => .br (!b1) (.callp 52 #[.pointer (some qa0)] (.one (.leaf .ifc)) (fun i2 => .done (.returned (.iface i2.1 i2.2))) (fun ch3 => .done (.panicked ch3))) (.callp 53 #[.pointer (some qa0)] (.one (.agg [.int .i64, .int .i64, .str, .int .i64])) (fun r4 => .callp 49 #[.pointer (some qa0)] (.one (.leaf .ifc)) (fun i5 => .callp 54 #[.pointer (some qa0), .int .i64 2, .string (bytesL [116, 104, 101, 110])] (.tup []) (fun r6 => .callp 49 #[.pointer (some qa0)] (.one (.leaf .ifc)) (fun i7 => .callp 54 #[.pointer (some qa0), .int .i64 2, .string (bytesL [101, 108, 115, 101])] (.tup []) (fun r8 => .callp 49 #[.pointer (some qa0)] (.one (.leaf .ifc)) (fun i9 => .new (.cells #[.iface i5.1 i5.2, .iface i7.1 i7.2, .iface i9.1 i9.2] 108 (0, 0)) (fun n10 => .done (.returned (.iface 106 (.pointer (some ⟨n10, 0, none⟩)))))) (fun ch11 => .done (.panicked ch11))) (fun ch12 => .done (.panicked ch12))) (fun ch13 => .done (.panicked ch13))) (fun ch14 => .done (.panicked ch14))) (fun ch15 => .done (.panicked ch15))) (fun ch16 => .done (.panicked ch16)))) (fun ch17 => .done (.panicked ch17)) := by kernel_rfl
/-! the tree of function 62 -/
def s62 : Script := .clp (.one (.leaf .bool)) (.sym (.clp (.one (.leaf .ifc)) .nil .nil) (.clp (.one (.agg [.int .i64, .int .i64, .str, .int .i64])) (.clp (.one (.leaf .ifc)) .nil .nil) .nil)) .nil
theorem t62 (qa0 : Addr) : fnT Tryz.prog Tryz.f62 #[.pointer (some qa0)] s62 = .callp 51 #[.pointer (some qa0), .int .i64 2, .string (bytesL [110, 111, 116])] (.one (.leaf .bool)) (fun b1 => .br (!b1) (.callp 66 #[.pointer (some qa0)] (.one (.leaf .ifc)) (fun i2 => .done (.returned (.iface i2.1 i2.2))) (fun ch3 => .done (.panicked ch3))) (.callp 53 #[.pointer (some qa0)] (.one (.agg [.int .i64, .int .i64, .str, .int .i64])) (fun r4 => .callp 62 #[.pointer (some qa0)] (.one (.leaf .ifc)) (fun i5 => .new (.cells #[.string (bytesL [110, 111, 116]), .iface i5.1 i5.2] 130 (0, 0)) (fun n6 => .done (.returned (.iface 128 (.pointer (some ⟨n6, 0, none⟩)))))) (fun ch7 => .done (.panicked ch7))) (fun ch8 => .done (.panicked ch8)))) (fun ch9 => .done (.panicked ch9)) := by kernel_rfl
/-! the tree of function 66 -/
abbrev fx66_3 (qa0 : Addr) (i1 : TypeId × Value) (n2 : Nat) : List (Tmp × Value) := [(0, .pointer (some qa0)), (3, .iface i1.1 i1.2), (8, .slice (some ⟨n2, 0, none⟩) 6 6), (9, .int .i64 6)]
abbrev m66_3 : List (Tmp × Comp) := [(10, .leaf (.int .i64))]
abbrev mx66_3 : List (Tmp × Comp) := []
abbrev mr66_3 : List (Tmp × Comp) := [(2, .leaf .ifc)]
def s66_3 : Script := .sym (.ix (.ld .str (.clp (.one (.leaf .bool)) (.sym (.clp (.one (.agg [.int .i64, .int .i64, .str, .int .i64])) (.clp (.one (.leaf .ifc)) .nil .nil) .nil) .nil) .nil))) .nil
theorem t66_3 (qa0 : Addr) (i1 : TypeId × Value) (n2 : Nat) (x_10 : Int) (gg3 : Nat → Value) : pieceT Tryz.prog (at_ Tryz.f66 [1, 1, 0, 1, 0, 0]) 28 (fx66_3 qa0 i1 n2 ++ mvals m66_3 (x_10, ())) gg3 (m66_3.map (·.1)) (mx66_3.map (·.1)) (mr66_3.map (·.1)) s66_3 = .br (Decidable.decide (x_10 < 6)) (.idx (some ⟨n2, 0, none⟩) x_10 6 1 (fun a4 => .load a4 .str (fun s5 => .callp 51 #[.pointer (some qa0), .int .i64 4, .string s5] (.one (.leaf .bool)) (fun b6 => .br b6 (.callp 53 #[.pointer (some qa0)] (.one (.agg [.int .i64, .int .i64, .str, .int .i64])) (fun r7 => .callp 73 #[.pointer (some qa0)] (.one (.leaf .ifc)) (fun i8 => .new (.cells #[.string s5, .iface i1.1 i1.2, .iface i8.1 i8.2] 116 (0, 0)) (fun n9 => .fin .ret [(2, .iface 114 (.pointer (some ⟨n9, 0, none⟩)))])) (fun ch10 => .done (.panicked ch10))) (fun ch11 => .done (.panicked ch11))) (.fin .normal [(10, .int .i64 (IntKind.i64.wrap (x_10 + 1)))])) (fun ch12 => .done (.panicked ch12))))) (.fin (.exit 0) []) := by kernel_rfl
def s66 : Script := .clp (.one (.leaf .ifc)) (.lp 0 [0, 3, 8, 9] [10] mx66_3 mr66_3 .nil .nil) .nil
theorem t66 (qa0 : Addr) : fnT Tryz.prog Tryz.f66 #[.pointer (some qa0)] s66 = .callp 73 #[.pointer (some qa0)] (.one (.leaf .ifc)) (fun i1 => .new (.cells #[.string (bytesL [61, 61]), .string (bytesL [33, 61]), .string (bytesL [60]), .string (bytesL [60, 61]), .string (bytesL [62]), .string (bytesL [62, 61])] 9 (0, 0)) (fun n2 => .loop (at_ Tryz.f66 [1, 1, 0, 1, 0, 0]) 28 (fx66_3 qa0 i1 n2) [(10, .int .i64 0)] mx66_3 mr66_3 0 (fun u13 g13 => .done (.returned (.iface i1.1 i1.2))) (fun u14 g14 => .done (.returned (.iface u14.1.1 u14.fst.2))))) (fun ch15 => .done (.panicked ch15)) := by kernel_rfl
/-! the tree of function 114 -/
def s114 : Script := .clp (.one (.leaf .bool)) (.sym (.clp (.one (.leaf .ifc)) .nil .nil) (.clp (.one (.agg [.int .i64, .int .i64, .str, .int .i64])) (.clp (.one (.leaf .ifc)) .nil .nil) .nil)) .nil
theorem t114 (qa0 : Addr) : fnT Tryz.prog Tryz.f114 #[.pointer (some qa0)] s114 = .callp 51 #[.pointer (some qa0), .int .i64 4, .string (bytesL [45])] (.one (.leaf .bool)) (fun b1 => .br (!b1) (.callp 127 #[.pointer (some qa0)] (.one (.leaf .ifc)) (fun i2 => .done (.returned (.iface i2.1 i2.2))) (fun ch3 => .done (.panicked ch3))) (.callp 53 #[.pointer (some qa0)] (.one (.agg [.int .i64, .int .i64, .str, .int .i64])) (fun r4 => .callp 114 #[.pointer (some qa0)] (.one (.leaf .ifc)) (fun i5 => .new (.cells #[.string (bytesL [45]), .iface i5.1 i5.2] 130 (0, 0)) (fun n6 => .done (.returned (.iface 128 (.pointer (some ⟨n6, 0, none⟩)))))) (fun ch7 => .done (.panicked ch7))) (fun ch8 => .done (.panicked ch8)))) (fun ch9 => .done (.panicked ch9)) := by kernel_rfl
theorem expr_ok (s : ByteArray) (f : Nat) (hIH : ∀ lv, LvOk s f lv) : LvOk s (f + 1) .expr := by
  intro w b st hB hne
  have hd : prs s.size (f + 1) .expr st = bindR (peekB s.size st) fun t st => if isB t 2 tIf = true then
        bindR (prs s.size f .expr (dropB st)) fun c st => bindR (wantB s.size 2 tThen st) fun _ st => bindR (prs s.size f .expr st) fun a st => bindR (wantB s.size 2 tElse st) fun _ st => bindR (prs s.size f .expr st) fun b st => .ok (.cnd c a b, st)
      else prs s.size f .or st := rfl
  rw [hd] at hne ⊢
  show Calls Tryz.prog 49 #[.pointer (some ⟨b, 0, none⟩)] w _
  refine calls_of_fnT mixed Tryz.func49 (s := s49) ?_
  rw [t49]
  have hblt := hB.ps.lt
  refine isR (kind := 2) (text := tIf) (Ch.refl _ _) hB fun t st1 w1 hp h1 P1 hg => ?_
  rw [← hg] at hne
  cases hb : isB t 2 tIf with
  | false =>
    rw [hb] at hne
    rw [if_neg Bool.false_ne_true] at hne ⊢
    refine br_true rfl (lastR h1 (hIH .or w1 b st1 (hB.go h1 P1 (fun i h => by cases h)) hne) ?_)
    intro n st2 v w2 hX h2 hr P2
    obtain ⟨y, rfl⟩ := IsN.ifc hr
    exact ⟨y, rfl, h1.trans h2, _, rfl, hr.no h1.size (Ch.refl No _), P2⟩
  | true =>
    rw [hb] at hne
    rw [if_pos rfl] at hne ⊢
    refine br_false rfl (nextR (lv := .expr) (hB.go h1 P1 (fun i h => by cases h)) (peekB_again hp).1 fun w2 h2 P2 => ?_)
    have H2 := h1.trans h2
    refine stepR H2 hne (fun h => hIH .expr w2 b _ (hB.go H2 P2 (fun i h => by cases h)) h) ?_
    intro c st3 v3 w3 hX3 h3 r3 P3 hne3
    obtain ⟨y3, rfl⟩ := IsN.ifc r3
    refine ⟨y3, rfl, ?_⟩
    have H3 := H2.trans h3
    refine wantR (kind := 2) (text := tThen) (lv := .expr) H3 (hB.go H3 P3 (fun i h => by cases h)) (by rintro ⟨h, _⟩; omega) hne3 fun st4 w4 hX4 h4 P4 hne4 => ?_
    have H4 := H3.trans h4
    refine stepR H4 hne4 (fun h => hIH .expr w4 b _ (hB.go H4 P4 (fun i h => by cases h)) h) ?_
    intro a st5 v5 w5 hX5 h5 r5 P5 hne5
    obtain ⟨y5, rfl⟩ := IsN.ifc r5
    refine ⟨y5, rfl, ?_⟩
    have H5 := H4.trans h5
    refine wantR (kind := 2) (text := tElse) (lv := .expr) H5 (hB.go H5 P5 (fun i h => by cases h)) (by rintro ⟨h, _⟩; omega) hne5 fun st6 w6 hX6 h6 P6 hne6 => ?_
    have H6 := H5.trans h6
    refine stepR H6 hne6 (fun h => hIH .expr w6 b _ (hB.go H6 P6 (fun i h => by cases h)) h) ?_
    intro d st7 v7 w7 hX7 h7 r7 P7 hne7
    obtain ⟨y7, rfl⟩ := IsN.ifc r7
    refine ⟨y7, rfl, nw fun w8 h8 z8 b8 => ?_⟩
    have H7 := H6.trans h7
    refine ⟨H7.trans h8.no, _, rfl, ?_, P7.ch h8 (fun h => h)⟩
    show IsN _ _ _ _
    simp only [IsN]
    have hs2 := H2.size
    have hs4 := H4.size
    have hs6 := H6.size
    refine ⟨w7.heap.size, _, _, _, rfl, ⟨H7.size, by omega⟩, b8, ?_, ?_, ?_⟩
    · exact (r3.keep (w0 := w) hs2 (by omega) (h4.trans (h5.trans (h6.trans h7)))).no (Nat.le_refl _) h8
    · exact (r5.keep (w0 := w) hs4 (by omega) (h6.trans h7)).no (Nat.le_refl _) h8
    · exact r7.no (w0 := w) hs6 h8
theorem not_ok (s : ByteArray) (f : Nat) (hIH : ∀ lv, LvOk s f lv) : LvOk s (f + 1) .not := by
  intro w b st hB hne
  have hd : prs s.size (f + 1) .not st = bindR (peekB s.size st) fun t st => if isB t 2 tNot = true then bindR (prs s.size f .not (dropB st)) fun a st => .ok (.un tNot a, st) else prs s.size f .cmp st := rfl
  rw [hd] at hne ⊢
  show Calls Tryz.prog 62 #[.pointer (some ⟨b, 0, none⟩)] w _
  refine calls_of_fnT mixed Tryz.func62 (s := s62) ?_
  rw [t62]
  have hblt := hB.ps.lt
  refine isR (kind := 2) (text := tNot) (Ch.refl _ _) hB fun t st1 w1 hp h1 P1 hg => ?_
  rw [← hg] at hne
  cases hb : isB t 2 tNot with
  | false =>
    rw [hb] at hne
    rw [if_neg Bool.false_ne_true] at hne ⊢
    refine br_true rfl (lastR h1 (hIH .cmp w1 b st1 (hB.go h1 P1 (fun i h => by cases h)) hne) ?_)
    intro n st2 v w2 hX h2 hr P2
    obtain ⟨y, rfl⟩ := IsN.ifc hr
    exact ⟨y, rfl, h1.trans h2, _, rfl, hr.no h1.size (Ch.refl No _), P2⟩
  | true =>
    rw [hb] at hne
    rw [if_pos rfl] at hne ⊢
    refine br_false rfl (nextR (lv := .expr) (hB.go h1 P1 (fun i h => by cases h)) (peekB_again hp).1 fun w2 h2 P2 => ?_)
    have H2 := h1.trans h2
    refine stepR H2 hne (fun h => hIH .not w2 b _ (hB.go H2 P2 (fun i h => by cases h)) h) ?_
    intro c st3 v3 w3 hX3 h3 r3 P3 hne3
    obtain ⟨y3, rfl⟩ := IsN.ifc r3
    refine ⟨y3, rfl, nw fun w4 h4 z4 b4 => ?_⟩
    refine ⟨(H2.trans h3).trans h4.no, _, rfl, ?_, P3.ch h4 (fun h => h)⟩
    show IsN _ _ _ _
    simp only [IsN]
    exact ⟨w3.heap.size, _, rfl, ⟨(H2.trans h3).size, by omega⟩, b4, r3.no (w0 := w) H2.size h4⟩
theorem neg_ok (s : ByteArray) (f : Nat) (hIH : ∀ lv, LvOk s f lv) : LvOk s (f + 1) .neg := by
  intro w b st hB hne
  have hd : prs s.size (f + 1) .neg st = bindR (peekB s.size st) fun t st => if isB t 4 sMinus = true then bindR (prs s.size f .neg (dropB st)) fun a st => .ok (.un sMinus a, st) else prs s.size f .atom st := rfl
  rw [hd] at hne ⊢
  show Calls Tryz.prog 114 #[.pointer (some ⟨b, 0, none⟩)] w _
  refine calls_of_fnT mixed Tryz.func114 (s := s114) ?_
  rw [t114]
  have hblt := hB.ps.lt
  refine isR (kind := 4) (text := sMinus) (Ch.refl _ _) hB fun t st1 w1 hp h1 P1 hg => ?_
  rw [← hg] at hne
  cases hb : isB t 4 sMinus with
  | false =>
    rw [hb] at hne
    rw [if_neg Bool.false_ne_true] at hne ⊢
    refine br_true rfl (lastR h1 (hIH .atom w1 b st1 (hB.go h1 P1 (fun i h => by cases h)) hne) ?_)
    intro n st2 v w2 hX h2 hr P2
    obtain ⟨y, rfl⟩ := IsN.ifc hr
    exact ⟨y, rfl, h1.trans h2, _, rfl, hr.no h1.size (Ch.refl No _), P2⟩
  | true =>
    rw [hb] at hne
    rw [if_pos rfl] at hne ⊢
    refine br_false rfl (nextR (lv := .expr) (hB.go h1 P1 (fun i h => by cases h)) (peekB_again hp).1 fun w2 h2 P2 => ?_)
    have H2 := h1.trans h2
    refine stepR H2 hne (fun h => hIH .neg w2 b _ (hB.go H2 P2 (fun i h => by cases h)) h) ?_
    intro c st3 v3 w3 hX3 h3 r3 P3 hne3
    obtain ⟨y3, rfl⟩ := IsN.ifc r3
    refine ⟨y3, rfl, nw fun w4 h4 z4 b4 => ?_⟩
    refine ⟨(H2.trans h3).trans h4.no, _, rfl, ?_, P3.ch h4 (fun h => h)⟩
    show IsN _ _ _ _
    simp only [IsN]
    exact ⟨w3.heap.size, _, rfl, ⟨(H2.trans h3).size, by omega⟩, b4, r3.no (w0 := w) H2.size h4⟩
theorem cmp_ok (s : ByteArray) (f : Nat) (hIH : ∀ lv, LvOk s f lv) : LvOk s (f + 1) .cmp := by
  intro w b st hB hne
  have hd : prs s.size (f + 1) .cmp st = bindR (prs s.size f .sum st) fun a st => bindR (peekB s.size st) fun t st => match opOf t 4 cmpOps with
      | none => .ok (a, st)
      | some op => bindR (prs s.size f .sum (dropB st)) fun b st => .ok (.bin op a b, st) := rfl
  rw [hd] at hne ⊢
  show Calls Tryz.prog 66 #[.pointer (some ⟨b, 0, none⟩)] w _
  refine calls_of_fnT mixed Tryz.func66 (s := s66) ?_
  rw [t66]
  have hblt := hB.ps.lt
  refine stepR (Ch.refl _ _) hne (fun h => hIH .sum w b st (hB.go (Ch.refl _ _) hB.ps (fun i h => by cases h)) h) ?_
  intro a st1 v1 w1 hX1 h1 r1 P1 hne1
  obtain ⟨⟨vt, vv⟩, rfl⟩ := IsN.ifc r1
  refine ⟨(vt, vv), rfl, nw fun w2 h2 z2 b2 => ?_⟩
  clear hd hne
  have H2 := h1.trans h2.no
  have P2 := P1.ch h2 (fun h => h)
  have R2 : relN w a (.iface vt vv) w2 := r1.no (Nat.le_refl _) h2
  have hg1 : w1.heap.size ≠ b := by have := P1.lt; omega
  generalize w1.heap.size = g at *
  generalize hXd : (bindR (peekB s.size st1) fun t st => match opOf t 4 cmpOps with
      | none => (.ok (a, st) : R N)
      | some op => bindR (prs s.size f .sum (dropB st)) fun b st => .ok (.bin op a b, st)) = X at *
  refine loop_i mixed m66_3 s66_3 (by kernel_rfl) (by kernel_rfl)
    (fun (v : Int × Unit) w' => ∃ (i : Nat) (stx : PS), v.1 = (i : Nat) ∧ i ≤ 6 ∧ PsS w' b s stx ∧ Ch (· = b) w w' ∧ Ch (· = b) w2 w' ∧ relN w a (.iface vt vv) w' ∧ ((i = 0 ∧ stx = st1) ∨ ∃ t, peekB s.size st1 = .ok (t, stx) ∧ ∀ j u, j < i → cmpOps[j]? = some u → isB t 4 u = false))
    (fun (v : Int × Unit) _ => 6 - v.1.toNat) (0, ()) rfl ⟨0, st1, rfl, Nat.zero_le _, P2, H2, Ch.refl _ _, R2, .inl ⟨rfl, rfl⟩⟩ ?_
  rintro ⟨_, ⟨⟩⟩ g1 w3 ⟨i, stx, rfl, hi, P3, h3, h23, r3, hst⟩
  rw [t66_3]
  dsimp only
  have hBX : ∀ {w' st'}, Ch (· = b) w w' → PsS w' b s st' → Beg w' b s .sum st' := fun h1 hp => hB.go h1 hp (fun i h => by cases h)
  have hpk : ∀ t stx2, peekB s.size stx = .ok (t, stx2) → peekB s.size st1 = .ok (t, stx2) ∧ ∀ j u, j < i → cmpOps[j]? = some u → isB t 4 u = false := by
    intro t stx2 hp
    rcases hst with ⟨rfl, rfl⟩ | ⟨t', hp', hno⟩
    · exact ⟨hp, fun j u hj => by omega⟩
    · rw [(peekB_again hp').1] at hp
      simp only [Except.ok.injEq, Prod.mk.injEq] at hp
      obtain ⟨rfl, rfl⟩ := hp
      exact ⟨hp', hno⟩
  have hlen : cmpOps.length = 6 := rfl
  refine br_both (fun e => ?_) fun e => ?_
  · have e : (i : Int) < 6 := lt_t e
    have hil : i < 6 := by omega
    obtain ⟨op, hop⟩ : ∃ op, cmpOps[i]? = some op := ⟨cmpOps[i]'(by omega), List.getElem?_eq_getElem (by omega)⟩
    have hcell : w3.cell? ⟨g, i, none⟩ = some (.string (bytesL op)) := h23.cellv (by
      rw [b2.cell]
      have : (opCells cmpOps)[i]? = some (.string (bytesL op)) := by simp [opCells, hop]
      exact this) (fun e : g = b => hg1 e)
    refine ix_i (by omega) (by omega) ?_
    rw [addr_add, Int.toNat_natCast, Nat.zero_add, Nat.mul_one]
    refine ld_str hcell (cpR (is_any w3 b s stx 4 op P3 (hBX h3 P3).gl hB.big hB.sz) ?_ ?_)
    · intro x st3 v w4 hr h4 hv P4
      obtain rfl : v = .bool x := hv
      refine ⟨x, rfl, ?_⟩
      cases hp : peekB s.size stx with
      | error c => rw [hp] at hr; cases hr
      | ok y =>
      obtain ⟨t, stx2⟩ := y
      rw [hp] at hr
      simp only [bindR, Except.ok.injEq, Prod.mk.injEq] at hr
      obtain ⟨rfl, rfl⟩ := hr
      obtain ⟨hp1, hno⟩ := hpk t _ hp
      refine br_both (fun e1 => ?_) fun e1 => ?_
      · have hos := opOf_some hop e1 hno
        have heq2 : X = bindR (prs s.size f .sum (dropB stx2)) fun b st => .ok (.bin op a b, st) := by rw [← hXd, hp1]; simp only [bindR, hos]
        refine nextR (hBX (h3.trans h4) P4) (peekB_again hp1).1 fun w5 h5 P5 => ?_
        have h05 := (h3.trans h4).trans h5
        have hne2 : prs s.size f .sum (dropB stx2) ≠ .error (0, 0) := fun h => hne1 (by rw [heq2, h]; rfl)
        refine cpR (hIH .sum w5 b _ (hBX h05 P5) hne2) ?_ ?_
        · intro c st6 v6 w6 hr6 h6 r6 P6
          obtain ⟨y6, rfl⟩ := IsN.ifc r6
          refine ⟨y6, rfl, nw fun w7 h7 z7 b7 => ?_⟩
          refine ⟨((_, _), ()), rfl, fun g => ⟨(h05.trans h6).trans h7.no, ?_⟩⟩
          rw [heq2, hr6]
          refine ⟨_, rfl, ?_, P6.ch h7 (fun h => h)⟩
          show IsN _ _ _ _
          simp only [IsN]
          refine ⟨w6.heap.size, _, _, rfl, ⟨(h05.trans h6).size, by omega⟩, b7, ?_, ?_⟩
          · exact (r3.keep (w0 := w) (Nat.le_refl _) hblt ((h4.trans h5).trans h6)).no (Nat.le_refl _) h7
          · exact r6.no (w0 := w) h05.size h7
        · intro c e w6 hr6 h6 ht
          rw [heq2, hr6]
          exact PostR.err h05 h6 ht
      · refine ⟨((IntKind.i64.wrap ((i : Int) + 1)), ()), rfl, ⟨i + 1, stx2, wrap_succ (by omega) (by omega), by omega, P4, h3.trans h4, h23.trans h4, r3.keep (Nat.le_refl _) hblt h4, .inr ⟨t, hp1, fun j u hj hu => ?_⟩⟩, ?_⟩
        · rcases (by omega : j < i ∨ j = i) with h | rfl
          · exact hno j u h hu
          · rw [hop] at hu
            obtain rfl := Option.some.inj hu
            exact e1
        · show 6 - (IntKind.i64.wrap ((i : Int) + 1)).toNat < 6 - ((i : Nat) : Int).toNat
          rw [wrap_succ (by omega) (by omega)]
          omega
    · intro c e w4 hr h4 ht
      cases hp : peekB s.size stx with
      | ok y => rw [hp] at hr; simp [bindR] at hr
      | error c' =>
        rw [hp] at hr
        obtain rfl : c' = c := by simpa [bindR] using hr
        rcases hst with ⟨rfl, rfl⟩ | ⟨t', hp', hno⟩
        · rw [← hXd, hp]
          exact PostR.err h3 h4 ht
        · rw [(peekB_again hp').1] at hp
          cases hp
  · have e : (6 : Int) ≤ (i : Int) := lt_f e
    rcases hst with ⟨rfl, rfl⟩ | ⟨t, hp, hno⟩
    · omega
    have hon : opOf t 4 cmpOps = none := opOf_none fun u hu => by
      obtain ⟨j, hj, e⟩ := List.getElem_of_mem hu
      exact hno j u (by omega) (by rw [List.getElem?_eq_getElem hj, e])
    refine ⟨rfl, (), rfl, fun g => ⟨h3, ?_⟩⟩
    rw [← hXd, hp]
    simp only [bindR, hon]
    exact ⟨_, rfl, r3, P3⟩
end Go.Proofs.YtkebljkdkaagfaaGreatDoor.E
