/- PlanTapes: the law's walk. -/
import Derived.Test.YtjlmkahagcojcaaGreatDoorXp
import Derived.Test.YtjlmkahagcojcaaGreatDoorSup
namespace Go.Proofs.YtjlmkahagcojcaaGreatDoor.V
open Go Tr
set_option maxRecDepth 100000
/-! the tree of function 4 -/
abbrev fx4_1 (qs0 : ByteArray) (qa1 : Option Addr) (qn1 : Nat) (qc1 : Nat) : List (Tmp × Value) := [(0, .string qs0), (1, .slice qa1 qn1 qc1)]
abbrev L4_1 : List (Tmp × Value) := []
abbrev mx4_1 : List (Tmp × Comp) := []
abbrev mr4_1 : List (Tmp × Comp) := [(4, .leaf .bool)]
def s4_1 : Script := .cl (.one (.leaf .bool)) (.sym .nil .nil)
theorem t4_1 (qs0 : ByteArray) (qa1 : Option Addr) (qn1 : Nat) (qc1 : Nat) (gg1 : Nat → Value) : pieceT Tryz.prog (at_ Tryz.f4 [1, 0]) 91 (fx4_1 qs0 qa1 qn1 qc1 ++ L4_1) gg1 (mx4_1.map (·.1)) [] (mr4_1.map (·.1)) s4_1 = .call 13 #[.slice qa1 qn1 qc1] (.one (.leaf .bool)) (fun b2 => .br (!b2) (.fin .ret [(4, .bool true)]) (.fin .normal [])) := by kernel_rfl
abbrev fx4_6 (qa1 : Option Addr) (qn1 : Nat) (qc1 : Nat) (r4 : (Option Addr × Nat × Nat) × Value × Unit) (r5 : (Option Addr × Nat × Nat) × Int × Int × Int × Unit) : List (Tmp × Value) := [(1, .slice qa1 qn1 qc1), (5, .slice r4.1.1 r4.1.2.1 r4.1.2.2), (6, r4.snd.1), (7, .slice r5.1.1 r5.1.2.1 r5.1.2.2), (8, .int .i64 r5.2.1), (9, .int .i64 r5.2.2.1), (10, .int .i64 r5.2.2.2.1)]
abbrev L4_6 : List (Tmp × Value) := []
abbrev mx4_6 : List (Tmp × Comp) := []
abbrev mr4_6 : List (Tmp × Comp) := [(4, .leaf .bool)]
def s4_6 : Script := .cl (.one (.leaf .bool)) (.sym (.lit (.lit (.lit (.lit (.lit .nil))))) (.lit (.lit (.cl (.one (.leaf .bool)) (.lit (.lit (.sym .nil .nil)))))))
theorem t4_6 (qa1 : Option Addr) (qn1 : Nat) (qc1 : Nat) (r4 : (Option Addr × Nat × Nat) × Value × Unit) (r5 : (Option Addr × Nat × Nat) × Int × Int × Int × Unit) (gg6 : Nat → Value) : pieceT Tryz.prog (at_ Tryz.f4 [1, 1, 1, 1, 0]) 91 (fx4_6 qa1 qn1 qc1 r4 r5 ++ L4_6) gg6 (mx4_6.map (·.1)) [] (mr4_6.map (·.1)) s4_6 = .call 8 #[r4.snd.1, .int .i64 r5.2.1, .int .i64 r5.2.2.1, .int .i64 r5.2.2.2.1] (.one (.leaf .bool)) (fun b7 => .br (!b7) (.fin .ret [(4, .bool false)]) (.call 16 #[.slice r4.1.1 r4.1.2.1 r4.1.2.2, .slice r5.1.1 r5.1.2.1 r5.1.2.2] (.one (.leaf .bool)) (fun b8 => .br (!b8) (.fin .ret [(4, .bool false)]) (.fin .normal [])))) := by kernel_rfl
abbrev fx4_13 (qa1 : Option Addr) (qn1 : Nat) (qc1 : Nat) (l10 : Option Addr × Nat × Nat) (r11 : ByteArray × Value × Unit) (r12 : ByteArray × Int × Int × Int × Unit) : List (Tmp × Value) := [(1, .slice qa1 qn1 qc1), (6, r11.snd.1), (8, .int .i64 r12.2.1), (9, .int .i64 r12.2.2.1), (10, .int .i64 r12.2.2.2.1), (11, .slice l10.1 l10.2.1 l10.2.2), (12, .string r11.1), (13, .string r12.1)]
abbrev L4_13 : List (Tmp × Value) := []
abbrev mx4_13 : List (Tmp × Comp) := []
abbrev mr4_13 : List (Tmp × Comp) := [(4, .leaf .bool)]
def s4_13 : Script := .cl (.one (.leaf .bool)) (.sym (.lit (.lit (.lit (.lit (.lit (.lit (.lit (.lit (.lit .nil))))))))) (.lit (.lit (.lit (.sym (.lit (.lit (.lit (.lit (.lit .nil))))) (.lit (.lit (.cl (.one (.leaf .bool)) (.lit (.lit (.sym .nil .nil)))))))))))
theorem t4_13 (qa1 : Option Addr) (qn1 : Nat) (qc1 : Nat) (l10 : Option Addr × Nat × Nat) (r11 : ByteArray × Value × Unit) (r12 : ByteArray × Int × Int × Int × Unit) (gg13 : Nat → Value) : pieceT Tryz.prog (at_ Tryz.f4 [1, 1, 1, 1, 1, 1, 1, 1, 0]) 91 (fx4_13 qa1 qn1 qc1 l10 r11 r12 ++ L4_13) gg13 (mx4_13.map (·.1)) [] (mr4_13.map (·.1)) s4_13 = .call 8 #[r11.snd.1, .int .i64 r12.2.1, .int .i64 r12.2.2.1, .int .i64 r12.2.2.2.1] (.one (.leaf .bool)) (fun b14 => .br (!b14) (.fin .ret [(4, .bool false)]) (.br (!r11.fst.toList == r12.fst.toList) (.fin .ret [(4, .bool false)]) (.call 16 #[.slice qa1 qn1 qc1, .slice l10.1 l10.2.1 l10.2.2] (.one (.leaf .bool)) (fun b15 => .br (!b15) (.fin .ret [(4, .bool false)]) (.fin .normal []))))) := by kernel_rfl
def s4 : Script := .cr 1 [0, 1] [] mx4_1 mr4_1 (.cl (.tup [.leaf .sl, .leaf .any]) (.cl (.tup [.leaf .sl, .leaf (.int .i64), .leaf (.int .i64), .leaf (.int .i64)]) (.cr 0 [1, 5, 6, 7, 8, 9, 10] [] mx4_6 mr4_6 (.cl (.one (.leaf .sl)) (.cl (.tup [.leaf .str, .leaf .any]) (.cl (.tup [.leaf .str, .leaf (.int .i64), .leaf (.int .i64), .leaf (.int .i64)]) (.cr 0 [1, 6, 8, 9, 10, 11, 12, 13] [] mx4_13 mr4_13 (.cl (.tup [.leaf .sl, .leaf .any]) (.nop (.nop (.nop (.nop (.nop (.nop (.rn (.one (.leaf .bool)) (.sym (.lit (.lit (.lit (.sym (.lit (.ix (.lit (.lit (.ld .str (.lit (.lit .nil))))))) (.lit (.lit (.lit (.lit (.lit .nil))))))))) (.lit (.lit (.lit (.lit (.lit (.lit (.lit (.lit (.lit .nil)))))))))))))))))) .nil)))) .nil))) .nil
theorem t4 (qs0 : ByteArray) (qa1 : Option Addr) (qn1 : Nat) (qc1 : Nat) : fnT Tryz.prog Tryz.f4 #[.string qs0, .slice qa1 qn1 qc1] s4 = .cutr (at_ Tryz.f4 [1, 0]) 91 (fx4_1 qs0 qa1 qn1 qc1) L4_1 mx4_1 mr4_1 (fun u3 g3 => .call 14 #[.string qs0] (.tup [.leaf .sl, .leaf .any]) (fun r4 => .call 15 #[.string qs0] (.tup [.leaf .sl, .leaf (.int .i64), .leaf (.int .i64), .leaf (.int .i64)]) (fun r5 => .cutr (at_ Tryz.f4 [1, 1, 1, 1, 0]) 91 (fx4_6 qa1 qn1 qc1 r4 r5) L4_6 mx4_6 mr4_6 (fun u9 g9 => .call 17 #[.slice qa1 qn1 qc1] (.one (.leaf .sl)) (fun l10 => .call 18 #[.slice qa1 qn1 qc1] (.tup [.leaf .str, .leaf .any]) (fun r11 => .call 19 #[.slice l10.1 l10.2.1 l10.2.2] (.tup [.leaf .str, .leaf (.int .i64), .leaf (.int .i64), .leaf (.int .i64)]) (fun r12 => .cutr (at_ Tryz.f4 [1, 1, 1, 1, 1, 1, 1, 1, 0]) 91 (fx4_13 qa1 qn1 qc1 l10 r11 r12) L4_13 mx4_13 mr4_13 (fun u16 g16 => .call 14 #[.string (bytesL [34, 97, 34, 32, 49])] (.tup [.leaf .sl, .leaf .any]) (fun r17 => .run (vNext (guarded .eql 24 (.tmp 77) (.const .nilIface) r17.snd.1 .nilIface)) (.one (.leaf .bool)) (fun b18 => .br b18 (.br ((↑r17.fst.snd.fst : Int) == 1) (.idx r17.1.1 0 r17.1.2.1 6 (fun a19 => .load a19 .str (fun s20 => .done (.returned (.bool (s20.toList == (bytesL [97]).toList)))))) (.done (.returned (.bool false)))) (.done (.returned (.bool false)))))) (fun u21 g21 => .done (.returned (.bool u21.1))))))) (fun u22 g22 => .done (.returned (.bool u22.1)))))) (fun u23 g23 => .done (.returned (.bool u23.1))) := by kernel_rfl
theorem linesT_loops : ∀ (ls : List (List UInt8)) (no : Nat) (st l : List RecM), linesT no ls st = .ok l → (∀ r ∈ st, r.loops = []) → ∀ r ∈ l, r.loops = []
  | [], no, st, l, h, hs => by
    simp only [linesT, Except.ok.injEq] at h
    rw [← h]; exact hs
  | x :: ls, no, st, l, h, hs => by
    rw [linesT] at h
    split at h
    · exact linesT_loops ls _ _ _ h hs
    · rw [tapeLine_rec] at h
      split at h
      · rename_i he
        cases h
      · rename_i st' he
        refine linesT_loops ls _ _ _ h fun r hr => ?_
        split at he
        · cases he
        · split at he
          · cases he
          · rename_i r0 hr0
            simp only [Except.ok.injEq] at he
            rw [← he] at hr
            rcases List.mem_append.1 hr with hr | hr
            · exact hs r hr
            · rw [List.mem_singleton.1 hr]
              unfold recM at hr0
              split at hr0
              · cases hr0
              split at hr0
              · cases hr0
              split at hr0
              · cases hr0
              split at hr0
              · cases hr0
              · cases hr0; rfl
theorem parseTp_loops {t : List UInt8} {l : List RecM} (h : parseTp t = .ok l) : ∀ r ∈ l, r.loops = [] := by
  unfold parseTp at h
  split at h
  · cases h
  · exact linesT_loops _ _ _ _ h fun r hr => by cases hr
def oneTape : List UInt8 := [34, 97, 34, 32, 49]
theorem tape_one : parseTp oneTape = .ok [⟨bytesL [97], .mk 1 1 (bytesL []) [], []⟩] := by kernel_rfl
theorem at_nilT (w : World) : AtT w none 0 [] := ⟨rfl, fun h => by omega⟩
theorem eq_nil {R : Ending → World → Prop} {Q : Exit → List (Tmp × Value) → World → Prop} {w : World} {md : Md} [hmd : md.Runs] {k : Bool → T} {x : Operand} (h : wpT Tryz.prog R Q (k true) md w) : wpT Tryz.prog R Q (.run (vNext (guarded .eql tErrT x (.const .nilIface) .nilIface .nilIface)) (.one (.leaf .bool)) k) md w :=
  t_run (x := true) (w' := w) (by cases x <;> simp [vNext, guarded, eqGuard, go_sem, Tr.Shape.val, Tr.Comp.val, Tr.Leaf.val]) h
set_option maxHeartbeats 2000000 in
theorem ltp_any (s : ByteArray) (p : Option Addr) (n c : Nat) (l : List RecM) (w : World) (ha : AtT w p n l) (hn : n ≤ 9223372036854775807) (hk : ∀ r ∈ l, r.loops.length ≤ 9223372036854775807) (hfit : ∀ r ∈ l, Fit r.val) (G : GlobT w) (tb : Tabs w) (ev : Ev w) :
    Calls Tryz.prog 4 #[.string s, .slice p n c] w fun e w' => e = .returned (.bool true) ∧ Ch No w w' := by
  refine calls_of_fnT mixed Tryz.func4 (s := s4) ?_
  rw [t4]
  have Gc : ∀ {w'}, Ch No w w' → GlobT w' := fun h => G.ch h (fun _ _ h => h)
  have Tc : ∀ {w'}, Ch No w w' → Tabs w' := fun h => tb.no h
  have Ec : ∀ {w'}, Ch No w w' → Ev w' := fun h => ev.ch h (fun h => h)
  refine cutr_i mixed s4_1 (fun _ w' => Ch No w w' ∧ FewR l) (fun v w' => Ch No w w' ∧ v = (true, ())) (by kernel_rfl) (by kernel_rfl) (fun g => ?_) ?_ (fun v g w' h => ⟨by rw [h.2], h.1⟩)
  · rw [t4_1]
    refine cl_i (crecs_any p n c l w ha hn hk) ?_
    rintro e w1 ⟨b, rfl, h1, hF⟩
    refine ⟨b, rfl, br_both (fun e => ⟨(true, ()), rfl, h1, rfl⟩) fun e => ⟨(), rfl, h1, hF (by cases b with | true => rfl | false => exact absurd e (by decide))⟩⟩
  intro v g w0 hv
  obtain ⟨⟩ := v
  obtain ⟨h0, hF⟩ := hv
  refine cl_i (ptape_any s w0 (Gc h0) (Tc h0) (Ec h0)) ?_
  rintro e w1 ⟨h1, hr1⟩
  have two : ∃ p1 n1 c1 v1, e = Ending.returned (.tuple #[.slice p1 n1 c1, v1]) ∧ ∀ (w2 : World) (e2 : Ending), Ch No w1 w2 → RTpR e2 w2 (parseTp s.data.toList) →
      ∃ p2 n2 c2 l pl cd, e2 = Ending.returned (.tuple #[.slice p2 n2 c2, .int .i64 l, .int .i64 pl, .int .i64 cd]) ∧
        (∀ w3, Ch No w2 w3 → Calls Tryz.prog 8 #[v1, .int .i64 l, .int .i64 pl, .int .i64 cd] w3 (fun e w' => e = .returned (.bool true) ∧ Ch No w3 w')) ∧
        (∀ w3, Ch No w2 w3 → Calls Tryz.prog 16 #[.slice p1 n1 c1, .slice p2 n2 c2] w3 (fun e w' => e = .returned (.bool true) ∧ Ch No w3 w')) := by
    cases hp : parseTp s.data.toList with
    | error er =>
      obtain ⟨l, pl, cd⟩ := er
      rw [hp] at hr1
      obtain ⟨v, rfl, hv⟩ := hr1
      refine ⟨none, 0, 0, v, rfl, fun w2 e2 h2 hr2 => ?_⟩
      obtain ⟨rfl, _⟩ := hr2
      exact ⟨none, 0, 0, _, _, _, rfl, fun w3 h3 => agrees_true v l pl cd w3 (hv.no (h2.trans h3)), fun w3 h3 => stape_any w3 none none 0 0 0 0 [] (at_nilT _) (at_nilT _) (by omega) (fun o ho => by cases ho)⟩
    | ok ops =>
      rw [hp] at hr1
      obtain ⟨p1, n1, c1, rfl, row1, few⟩ := hr1
      refine ⟨p1, n1, c1, .nilIface, rfl, fun w2 e2 h2 hr2 => ?_⟩
      obtain ⟨p2, n2, c2, rfl, row2, _⟩ := hr2
      exact ⟨p2, n2, c2, 0, 0, 0, rfl, fun w3 h3 => agrees_nil w3, fun w3 h3 => stape_any w3 p1 p2 n1 n2 c1 c2 ops (row1.no (h2.trans h3)) (row2.no h3) (by omega) (fun o ho => by rw [parseTp_loops hp o ho]; simp)⟩
  obtain ⟨p1, n1, c1, v1, rfl, two⟩ := two
  refine ⟨((p1, n1, c1), v1, ()), rfl, cl_i (rptape_any s w1) ?_⟩
  rintro e2 w2 ⟨h2, hr2⟩
  obtain ⟨p2, n2, c2, l2, a2, cd2, rfl, hA, hS⟩ := two w2 e2 h2 hr2
  refine ⟨((p2, n2, c2), l2, a2, cd2, ()), rfl, ?_⟩
  refine cutr_i mixed s4_6 (fun _ w' => Ch No w2 w') (fun _ _ => False) (by kernel_rfl) (by kernel_rfl) (fun g => ?_) ?_ (fun _ _ _ h => h.elim)
  · rw [t4_6]
    dsimp only
    refine cl_i (hA w2 (Ch.refl _ _)) ?_
    rintro e w3 ⟨rfl, h3⟩
    refine ⟨true, rfl, br_false rfl (cl_i (hS w3 h3) ?_)⟩
    rintro e w4 ⟨rfl, h4⟩
    exact ⟨true, rfl, br_false rfl ⟨(), rfl, h3.trans h4⟩⟩
  intro v g w3 h3
  obtain ⟨⟩ := v
  have H3 : Ch No w w3 := h0.trans ((h1.trans h2).trans h3)
  refine cl_i (tcopy_any p n c l w3 (ha.no H3) hF) ?_
  rintro e w4 ⟨h4, q, m, d, rfl, rowm⟩
  have H4 := H3.trans h4
  refine ⟨(q, m, d), rfl, cl_i (ptape_print p n c l w4 (ha.no H4) hfit (Gc H4) (Tc H4)) ?_⟩
  rintro e w5 ⟨h5, hr5⟩
  have H5 := H4.trans h5
  have two : ∃ (t : List UInt8) (v5 : Value), e = Ending.returned (.tuple #[.string (bytesL t), v5]) ∧ ∀ (w6 : World) (e6 : Ending), Ch No w5 w6 → (match printTp l with
      | some t => e6 = .returned (.tuple #[.string (bytesL t), .int .i64 0, .int .i64 0, .int .i64 0])
      | none => e6 = .returned (.tuple #[.string (bytesL []), .int .i64 0, .int .i64 0, .int .i64 68])) →
      ∃ cd, e6 = Ending.returned (.tuple #[.string (bytesL t), .int .i64 0, .int .i64 0, .int .i64 cd]) ∧ (∀ w7, Ch No w6 w7 → Calls Tryz.prog 8 #[v5, .int .i64 0, .int .i64 0, .int .i64 cd] w7 (fun e w' => e = .returned (.bool true) ∧ Ch No w7 w')) := by
    cases hp : printTp l with
    | none =>
      rw [hp] at hr5
      obtain ⟨v, rfl, hv⟩ := hr5
      exact ⟨[], v, rfl, fun w6 e6 h6 hr6 => ⟨68, hr6, fun w7 h7 => agrees_true v 0 0 68 w7 (hv.no (h6.trans h7))⟩⟩
    | some t =>
      rw [hp] at hr5
      exact ⟨t, .nilIface, hr5, fun w6 e6 h6 hr6 => ⟨0, hr6, fun w7 h7 => agrees_nil w7⟩⟩
  obtain ⟨t5, v5, rfl, two⟩ := two
  refine ⟨(bytesL t5, v5, ()), rfl, cl_i (ptape2_print q m d l w5 (rowm.no h5) hfit) ?_⟩
  rintro e6 w6 ⟨h6, hr6⟩
  obtain ⟨cd6, rfl, hA6⟩ := two w6 e6 h6 hr6
  have H6 := H5.trans h6
  refine ⟨(bytesL t5, 0, 0, cd6, ()), rfl, ?_⟩
  refine cutr_i mixed s4_13 (fun _ w' => Ch No w6 w') (fun _ _ => False) (by kernel_rfl) (by kernel_rfl) (fun g => ?_) ?_ (fun _ _ _ h => h.elim)
  · rw [t4_13]
    dsimp only
    refine cl_i (hA6 w6 (Ch.refl _ _)) ?_
    rintro e w7 ⟨rfl, h7⟩
    refine ⟨true, rfl, br_false rfl (br_false (by simp) (cl_i (stape_any w7 p q n m c d l (ha.no (H6.trans h7)) (rowm.no ((h5.trans h6).trans h7)) (by have := hF.1; have := ha.1; omega) (fun r hr => by have := (hF.2 r hr).1; omega)) ?_))⟩
    rintro e w8 ⟨rfl, h8⟩
    exact ⟨true, rfl, br_false rfl ⟨(), rfl, h7.trans h8⟩⟩
  intro v g w7 h7
  obtain ⟨⟩ := v
  have H7 := H6.trans h7
  refine cl_i (ptape_any (bytesL oneTape) w7 (Gc H7) (Tc H7) (Ec H7)) ?_
  rintro e w8 ⟨h8, hr8⟩
  rw [tb_data, tape_one] at hr8
  obtain ⟨p8, n8, c8, rfl, row8, _⟩ := hr8
  obtain ⟨hl8, hc8⟩ := row8
  have hn8 : n8 = 1 := hl8.symm
  subst hn8
  obtain ⟨ad8, rfl, hd8⟩ := hc8 (by omega)
  obtain ⟨_, _, _, _, _, _, hk8, _⟩ := hd8 0 _ rfl
  refine ⟨((some ad8, 1, c8), .nilIface, ()), rfl, eq_nil (br_true rfl (br_true rfl (ix_i (by omega) (by show (0 : Int) < 1; omega) ?_)))⟩
  exact ld_str hk8 ⟨by simp, H7.trans h8⟩
end Go.Proofs.YtjlmkahagcojcaaGreatDoor.V
