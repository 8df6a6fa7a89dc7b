/- PlanScripts: the law's walk. -/
import Derived.Test.YtjlmkahagcojcaaGreatDoorRhb
import Derived.Deep.Upon
namespace Go.Proofs.YtjlmkahagcojcaaGreatDoor
open Go Tr
set_option maxRecDepth 100000
/-! the tree of function 10 -/
abbrev fx10_1 (qa0 : Option Addr) (qn0 : Nat) (qc0 : Nat) : List (Tmp × Value) := [(0, .slice qa0 qn0 qc0), (2, .slice none 0 0)]
abbrev m10_1 : List (Tmp × Comp) := [(3, .leaf .sl), (4, .leaf (.int .i64))]
abbrev mx10_1 : List (Tmp × Comp) := [(3, .leaf .sl)]
abbrev mr10_1 : List (Tmp × Comp) := []
abbrev fx10_8 (qa0 : Option Addr) (qn0 : Nat) (qc0 : Nat) (l_3 : Option Addr × Nat × Nat) (x_4 : Int) (n7 : Nat) : List (Tmp × Value) := [(0, .slice qa0 qn0 qc0), (3, .slice l_3.1 l_3.2.1 l_3.2.2), (4, .int .i64 x_4), (5, .pointer (some ⟨n7, 0, none⟩))]
abbrev mx10_8 : List (Tmp × Comp) := []
def s10_8 : Script := .hd0 (.hq 0 (.hq 2 (.hq 3 (.hq 4 (.ix (.hq 5 (.hq 6 (.ld .sl (.he 1 (.ld .sl (.he 7 (.rn (.one (.leaf .sl)) (.hq 8 (.he 9 .nil))))))))))))))
theorem t10_8 (qa0 : Option Addr) (qn0 : Nat) (qc0 : Nat) (l_3 : Option Addr × Nat × Nat) (x_4 : Int) (n7 : Nat) (gg8 : Nat → Value) : pieceT Tryz.prog (at_ Tryz.f10 [1, 1, 0, 1, 0, 0, 1, 0, 0, 1, 1, 0]) 31 (fx10_8 qa0 qn0 qc0 l_3 x_4 n7) gg8 (mx10_8.map (·.1)) [] [] s10_8 =
  .hdrawn
    (.idx qa0 x_4 qn0 4 (fun a9 =>
      .load (a9.add 3) .sl (fun l10 =>
        .eff
          (.load ⟨n7, 3, none⟩ .sl (fun l11 =>
            .back
              (.eff
                (.run (builtin .append #[36, 36] 36 #[false, false] #[.slice l11.1 l11.2.1 l11.2.2, .slice l10.1 l10.2.1 l10.2.2]) (.one (.leaf .sl)) (fun l12 =>
                  .back
                    (.eff
                      (.store ⟨n7, 3, none⟩ (.slice l12.1 l12.2.1 l12.2.2)
                        (.back
                          (.undrawn
                            (.fin .normal []))))))))))))) := by kernel_rfl
def s10_1 : Script := .sym (.ix (.ld (.int .i64) (.ld (.int .i64) (.ld (.int .i64) (.ld .sl (.ct 1 [0, 3, 4, 5] mx10_8 (.ld (.int .i64) (.ld (.int .i64) (.ld (.int .i64) (.ld .sl (.nop (.rn (.one (.leaf .sl)) .nil)))))))))))) .nil
theorem t10_1 (qa0 : Option Addr) (qn0 : Nat) (qc0 : Nat) (l_3 : Option Addr × Nat × Nat) (x_4 : Int) (gg1 : Nat → Value) : pieceT Tryz.prog (at_ Tryz.f10 [1, 1, 0, 1, 0, 0]) 31 (fx10_1 qa0 qn0 qc0 ++ mvals m10_1 (l_3, x_4, ())) gg1 (m10_1.map (·.1)) (mx10_1.map (·.1)) (mr10_1.map (·.1)) s10_1 =
  .br (Decidable.decide (x_4 < (↑qn0 : Int)))
    (.idx qa0 x_4 qn0 4 (fun a2 =>
      .load a2 (.int .i64) (fun x3 =>
        .load (a2.add 1) (.int .i64) (fun x4 =>
          .load (a2.add 2) (.int .i64) (fun x5 =>
            .load (a2.add 3) .sl (fun l6 =>
              .new (.cells #[.int .i64 0, .int .i64 0, .int .i64 0, .slice none 0 0] 38 (0, 0)) (fun n7 =>
                .store ⟨n7, 0, none⟩ (.int .i64 x3)
                  (.store ⟨n7, 1, none⟩ (.int .i64 x4)
                    (.store ⟨n7, 2, none⟩ (.int .i64 x5)
                      (.store ⟨n7, 3, none⟩ (.slice l6.1 l6.2.1 l6.2.2)
                        (.store ⟨n7, 3, none⟩ (.slice none 0 0)
                          (.cut (at_ Tryz.f10 [1, 1, 0, 1, 0, 0, 1, 0, 0, 1, 1, 0]) 31 (fx10_8 qa0 qn0 qc0 l_3 x_4 n7) mx10_8 (fun u13 g13 =>
                            .load ⟨n7, 0, none⟩ (.int .i64) (fun x14 =>
                              .load ⟨n7, 1, none⟩ (.int .i64) (fun x15 =>
                                .load ⟨n7, 2, none⟩ (.int .i64) (fun x16 =>
                                  .load ⟨n7, 3, none⟩ .sl (fun l17 =>
                                    .new (.cells #[.int .i64 x14, .int .i64 x15, .int .i64 x16, .slice l17.1 l17.2.1 l17.2.2] 38 (0, 0)) (fun n18 =>
                                      .run (builtin .append #[22, 22] 22 #[false, false] #[.slice l_3.1 l_3.2.1 l_3.2.2, .slice (some ⟨n18, 0, none⟩) 1 1]) (.one (.leaf .sl)) (fun l19 =>
                                        .fin .normal [(3, .slice l19.1 l19.2.1 l19.2.2), (4, .int .i64 (IntKind.i64.wrap (x_4 + 1)))])))))))))))))))))))
    (.fin (.exit 0) [(3, .slice l_3.1 l_3.2.1 l_3.2.2)]) := by kernel_rfl
def s10 : Script := .lp 0 [0, 2] [3, 4] mx10_1 mr10_1 .nil .nil
theorem t10 (qa0 : Option Addr) (qn0 : Nat) (qc0 : Nat) : fnT Tryz.prog Tryz.f10 #[.slice qa0 qn0 qc0] s10 =
  .loop (at_ Tryz.f10 [1, 1, 0, 1, 0, 0]) 31 (fx10_1 qa0 qn0 qc0) [(3, .slice none 0 0), (4, .int .i64 0)] mx10_1 mr10_1 0 (fun u20 g20 =>
    .done (.returned (.slice u20.1.1 u20.1.2.1 u20.1.2.2))) (fun u21 g21 =>
    .stuck) := by kernel_rfl
/-! the tree of function 3 -/
abbrev fx3_3 (qa1 : Option Addr) (qn1 : Nat) (qc1 : Nat) (r1 : (Option Addr × Nat × Nat) × Value × Unit) (r2 : (Option Addr × Nat × Nat) × Int × Int × Int × Unit) : List (Tmp × Value) := [(1, .slice qa1 qn1 qc1), (5, .slice r1.1.1 r1.1.2.1 r1.1.2.2), (6, r1.snd.1), (7, .slice r2.1.1 r2.1.2.1 r2.1.2.2), (8, .int .i64 r2.2.1), (9, .int .i64 r2.2.2.1), (10, .int .i64 r2.2.2.2.1)]
abbrev mx3_3 : List (Tmp × Comp) := [(38, .leaf .bool)]
def s3_3 : Script := .cl (.one (.leaf .bool)) (.sym (.lit (.lit (.lit (.lit .nil)))) (.lit (.lit (.cl (.one (.leaf .bool)) (.lit (.lit .nil))))))
theorem t3_3 (qa1 : Option Addr) (qn1 : Nat) (qc1 : Nat) (r1 : (Option Addr × Nat × Nat) × Value × Unit) (r2 : (Option Addr × Nat × Nat) × Int × Int × Int × Unit) (gg3 : Nat → Value) : pieceT Tryz.prog (at_ Tryz.f3 [1, 1, 1, 0, 0]) 88 (fx3_3 qa1 qn1 qc1 r1 r2) gg3 (mx3_3.map (·.1)) [] [] s3_3 =
  .call 8 #[r1.snd.1, .int .i64 r2.2.1, .int .i64 r2.2.2.1, .int .i64 r2.2.2.2.1] (.one (.leaf .bool)) (fun b4 =>
    .br (!b4)
      (.fin .normal [(38, .bool true)])
      (.call 9 #[.slice r1.1.1 r1.1.2.1 r1.1.2.2, .slice r2.1.1 r2.1.2.1 r2.1.2.2] (.one (.leaf .bool)) (fun b5 =>
        .fin .normal [(38, .bool (!b5))]))) := by kernel_rfl
abbrev fx3_10 (qa1 : Option Addr) (qn1 : Nat) (qc1 : Nat) (l7 : Option Addr × Nat × Nat) (r8 : ByteArray × Value × Unit) (r9 : ByteArray × Int × Int × Int × Unit) : List (Tmp × Value) := [(1, .slice qa1 qn1 qc1), (6, r8.snd.1), (8, .int .i64 r9.2.1), (9, .int .i64 r9.2.2.1), (10, .int .i64 r9.2.2.2.1), (11, .slice l7.1 l7.2.1 l7.2.2), (12, .string r8.1), (13, .string r9.1)]
abbrev mx3_10 : List (Tmp × Comp) := [(69, .leaf .bool)]
def s3_10 : Script := .cl (.one (.leaf .bool)) (.sym (.lit (.lit (.lit (.lit (.lit (.lit (.lit (.lit .nil)))))))) (.lit (.lit (.lit (.sym (.lit (.lit (.lit (.lit .nil)))) (.lit (.lit (.cl (.one (.leaf .bool)) (.lit (.lit .nil))))))))))
theorem t3_10 (qa1 : Option Addr) (qn1 : Nat) (qc1 : Nat) (l7 : Option Addr × Nat × Nat) (r8 : ByteArray × Value × Unit) (r9 : ByteArray × Int × Int × Int × Unit) (gg10 : Nat → Value) : pieceT Tryz.prog (at_ Tryz.f3 [1, 1, 1, 1, 1, 1, 1, 0, 0]) 88 (fx3_10 qa1 qn1 qc1 l7 r8 r9) gg10 (mx3_10.map (·.1)) [] [] s3_10 =
  .call 8 #[r8.snd.1, .int .i64 r9.2.1, .int .i64 r9.2.2.1, .int .i64 r9.2.2.2.1] (.one (.leaf .bool)) (fun b11 =>
    .br (!b11)
      (.fin .normal [(69, .bool true)])
      (.br (!r8.fst.toList == r9.fst.toList)
        (.fin .normal [(69, .bool true)])
        (.call 9 #[.slice qa1 qn1 qc1, .slice l7.1 l7.2.1 l7.2.2] (.one (.leaf .bool)) (fun b12 =>
          .fin .normal [(69, .bool (!b12))])))) := by kernel_rfl
def s3 : Script := .cl (.tup [.leaf .sl, .leaf .any]) (.cl (.tup [.leaf .sl, .leaf (.int .i64), .leaf (.int .i64), .leaf (.int .i64)]) (.ct 1 [1, 5, 6, 7, 8, 9, 10] mx3_3 (.sym .nil (.cl (.one (.leaf .sl)) (.cl (.tup [.leaf .str, .leaf .any]) (.cl (.tup [.leaf .str, .leaf (.int .i64), .leaf (.int .i64), .leaf (.int .i64)]) (.ct 1 [1, 6, 8, 9, 10, 11, 12, 13] mx3_10 (.sym .nil (.cl (.tup [.leaf .sl, .leaf .any]) (.nop (.nop (.nop (.nop (.nop (.nop (.rn (.one (.leaf .bool)) (.sym (.lit (.lit (.lit (.sym (.lit (.ix (.lit (.lit (.ld (.int .i64) (.lit (.lit .nil))))))) (.lit (.lit (.lit (.lit (.lit .nil))))))))) (.lit (.lit (.lit (.lit (.lit (.lit (.lit (.lit (.lit .nil))))))))))))))))))))))))))
theorem t3 (qs0 : ByteArray) (qa1 : Option Addr) (qn1 : Nat) (qc1 : Nat) : fnT Tryz.prog Tryz.f3 #[.string qs0, .slice qa1 qn1 qc1] s3 =
  .call 6 #[.string qs0] (.tup [.leaf .sl, .leaf .any]) (fun r1 =>
    .call 7 #[.string qs0] (.tup [.leaf .sl, .leaf (.int .i64), .leaf (.int .i64), .leaf (.int .i64)]) (fun r2 =>
      .cut (at_ Tryz.f3 [1, 1, 1, 0, 0]) 88 (fx3_3 qa1 qn1 qc1 r1 r2) mx3_3 (fun u6 g6 =>
        .br u6.1
          (.done (.returned (.bool false)))
          (.call 10 #[.slice qa1 qn1 qc1] (.one (.leaf .sl)) (fun l7 =>
            .call 11 #[.slice qa1 qn1 qc1] (.tup [.leaf .str, .leaf .any]) (fun r8 =>
              .call 12 #[.slice l7.1 l7.2.1 l7.2.2] (.tup [.leaf .str, .leaf (.int .i64), .leaf (.int .i64), .leaf (.int .i64)]) (fun r9 =>
                .cut (at_ Tryz.f3 [1, 1, 1, 1, 1, 1, 1, 0, 0]) 88 (fx3_10 qa1 qn1 qc1 l7 r8 r9) mx3_10 (fun u13 g13 =>
                  .br u13.1
                    (.done (.returned (.bool false)))
                    (.call 6 #[.string (bytesL [114, 101, 112, 101, 97, 116, 32, 50, 10, 112, 111, 115, 116, 10, 101, 110, 100])] (.tup [.leaf .sl, .leaf .any]) (fun r14 =>
                      .run (vNext (guarded .eql 24 (.tmp 74) (.const .nilIface) r14.snd.1 .nilIface)) (.one (.leaf .bool)) (fun b15 =>
                        .br b15
                          (.br ((↑r14.fst.snd.fst : Int) == 2)
                            (.idx r14.1.1 1 r14.1.2.1 4 (fun a16 =>
                              .load a16 (.int .i64) (fun x17 =>
                                .done (.returned (.bool (x17 == 3))))))
                            (.done (.returned (.bool false))))
                          (.done (.returned (.bool false)))))))))))))) := by kernel_rfl

theorem sameInts_up (w : World) (p q : Option Addr) (n m c d : Nat) (l : List Int) (ha : AtI w p n l) (hb : AtI w q m l) (hn : n ≤ 2000000) :
    Calls Tryz.prog 31 #[.slice p n c, .slice q m d] w fun e w' => e = .returned (.bool true) ∧ Ch No w w' := by
  have hm : n = m := by have := ha.1; have := hb.1; omega
  subst hm
  refine calls_of_fnT mixed Tryz.func31 (s := s31) ?_
  rw [t31]
  refine br_false (by simp) ?_
  refine loop_i mixed m31_1 s31_1 (by kernel_rfl) (by kernel_rfl)
    (fun (v : Int × Unit) w' => 0 ≤ v.1 ∧ v.1 ≤ n ∧ Ch No w w') (fun (v : Int × Unit) _ => n - v.1.toNat) (0, ()) rfl ⟨by simp, by simp, Ch.refl _ _⟩ ?_
  rintro ⟨(i : Int), ⟨⟩⟩ g w1 ⟨(i0 : 0 ≤ i), (i1 : i ≤ n), h1⟩
  rw [t31_1]
  refine br_both (fun e => ?_) fun e => ?_
  · have hi : i < n := lt_t e
    have hl := ha.1
    obtain ⟨x, hx⟩ : ∃ u, l[i.toNat]? = some u := ⟨_, List.getElem?_eq_getElem (by omega)⟩
    obtain ⟨g1, o1, rfl, hc1⟩ := (ha.no h1.drew).2 (by omega)
    obtain ⟨g2, o2, rfl, hc2⟩ := (hb.no h1.drew).2 (by omega)
    refine dr_eq (ix_i i0 hi ?_)
    rw [addr_add, Nat.mul_one]
    refine lq_int (hc1 _ _ hx) (ix_i i0 hi ?_)
    rw [addr_add, Nat.mul_one]
    refine lq_int (hc2 _ _ hx) (un_eq (br_false (by simp) ?_))
    refine ⟨(i + 1, ()), ?_, ⟨by dsimp only; omega, by dsimp only; omega, h1.drew⟩, by dsimp only; omega⟩
    rw [wrap_succ i0 (by omega)]; rfl
  · exact ⟨rfl, (), rfl, fun g => ⟨rfl, h1⟩⟩
theorem sameOps_up (w : World) (p q : Option Addr) (n m c d : Nat) (l : List OpM) (ha : AtOps w p n l) (hb : AtOps w q m l) (hn : n ≤ 2000000) (hk : ∀ o ∈ l, o.keep.length ≤ 2000000) :
    Calls Tryz.prog 9 #[.slice p n c, .slice q m d] w fun e w' => e = .returned (.bool true) ∧ Ch No w w' := by
  have hm : n = m := by have := ha.1; have := hb.1; omega
  subst hm
  refine calls_of_fnT mixed Tryz.func9 (s := s9) ?_
  rw [t9]
  refine br_false (by simp) ?_
  refine loop_i mixed m9_1 s9_1 (by kernel_rfl) (by kernel_rfl)
    (fun (v : Int × Unit) w' => 0 ≤ v.1 ∧ v.1 ≤ n ∧ Ch No w w') (fun (v : Int × Unit) _ => n - v.1.toNat) (0, ()) rfl ⟨by simp, by simp, Ch.refl _ _⟩ ?_
  rintro ⟨(i : Int), ⟨⟩⟩ g w1 ⟨(i0 : 0 ≤ i), (i1 : i ≤ n), h1⟩
  rw [t9_1]
  refine br_both (fun e => ?_) fun e => ?_
  · have hi : i < n := lt_t e
    have hl := ha.1
    obtain ⟨x, hx⟩ : ∃ u, l[i.toNat]? = some u := ⟨_, List.getElem?_eq_getElem (by omega)⟩
    obtain ⟨g1, o1, rfl, hc1⟩ := ha.2 (by omega)
    obtain ⟨g2, o2, rfl, hc2⟩ := hb.2 (by omega)
    obtain ⟨kp, kn, kc, a0, a1, a2, a3, a4⟩ := hc1 _ _ hx
    obtain ⟨kp', kn', kc', b0, b1, b2, b3, b4⟩ := hc2 _ _ hx
    refine ⟨fun w' => Ch No w w', h1.drew, ?_⟩
    have rd : ∀ {a : Addr} {v : Value}, w.cell? a = some v → ∀ w', Ch No w w' → w'.cell? a = some v := fun h w' hc => hc.cellv h (fun h => h)
    refine ix_i i0 hi ?_
    rw [addr_add]
    refine ⟨_, rd a1, ix_i i0 hi ?_⟩
    rw [addr_add]
    refine ⟨_, rd b1, br_false (by simp) (ix_i i0 hi ?_)⟩
    rw [addr_add, addr_add]
    refine ⟨_, rd a2, ix_i i0 hi ?_⟩
    rw [addr_add, addr_add]
    refine ⟨_, rd b2, br_false (by simp) (ix_i i0 hi ?_)⟩
    rw [addr_add, addr_add]
    refine ⟨_, rd a3, ix_i i0 hi ?_⟩
    rw [addr_add, addr_add]
    refine ⟨_, rd b3, br_false (by simp) (ix_i i0 hi ?_)⟩
    rw [addr_add, addr_add]
    refine ⟨(kp, kn, kc), rd a4, ix_i i0 hi ?_⟩
    rw [addr_add, addr_add]
    refine ⟨(kp', kn', kc'), rd b4, ?_⟩
    have hkl : kn ≤ 2000000 := by
      have h1 := a0.1
      have := hk x (List.mem_of_getElem? hx)
      omega
    refine ⟨true, fun w2 h2 => (sameInts_up w2 kp kp' kn kn' kc kc' x.keep (a0.no h2) (b0.no h2) hkl).mono fun e w3 ⟨he, h3⟩ => ⟨he, h2.trans h3⟩, ?_⟩
    intro w3 h3
    refine br_false rfl ?_
    refine ⟨(i + 1, ()), ?_, ⟨by dsimp only; omega, by dsimp only; omega, h3⟩, by dsimp only; omega⟩
    rw [wrap_succ i0 (by omega)]; rfl
  · exact ⟨rfl, (), rfl, fun g => ⟨rfl, h1⟩⟩
theorem agrees_nil (w : World) : Calls Tryz.prog 8 #[.nilIface, .int .i64 0, .int .i64 0, .int .i64 0] w fun e w' => e = .returned (.bool true) ∧ Ch No w w' := by
  refine calls_of_fnT mixed Tryz.func8 (s := s8) ?_
  rw [t8]
  refine cl_i (told_nil w) ?_
  rintro e w1 ⟨rfl, rfl⟩
  exact ⟨(0, 0, 0, ()), rfl, br_true rfl (br_true rfl ⟨rfl, Ch.refl _ _⟩)⟩
section
variable {R : Ending → World → Prop} {Q : Exit → List (Tmp × Value) → World → Prop} {w : World} {md : Md} [hmd : md.Runs]
/-- Ints that stand somewhere, put behind nothing. -/
theorem ap_ints {k : Option Addr × Nat × Nat → T} {p : Option Addr} {n c : Nat} {l : List Int} (ha : AtI w p n l) (hn : n ≤ 2000000)
    (h : ∀ q' c' w', Ch No w w' → Row w' w.heap.size tInt 1 q' n c' (intCells l) → wpT Tryz.prog R Q (k (q', n, c')) md w') :
    wpT Tryz.prog R Q (.run (builtin .append #[tInts, tInts] tInts #[false, false] #[.slice none 0 0, .slice p n c]) (.one (.leaf .sl)) k) md w := by
  have hlen := ha.1
  have hne : n = 0 → intCells l = [] := fun h0 => List.eq_nil_of_length_eq_zero (by unfold intCells; rw [List.length_map]; omega)
  cases p with
  | none =>
    have h0 : n = 0 := Decidable.byContradiction fun h => by
      obtain ⟨g, o, e, _⟩ := ha.2 (by omega)
      cases e
    subst h0
    cases hi : Tryz.prog.info? tInt with
    | none => have := infoInt; rw [hi] at this; cases this
    | some i =>
      have hr' := run_append_nothing (P := Tryz.prog) w tInts tInts tInts tInt i (by kernel_rfl) hi none 0 0 (Nat.le_refl _) (.slice none 0 c) (Src.ofNil (P := Tryz.prog) (e' := tInt) w (by kernel_rfl) c)
      refine t_run (x := (none, 0, 0)) (w' := w) ?_ (h none 0 w (Ch.refl _ _) (by rw [hne rfl]; exact Row.nil _ _ _ _))
      simp only [builtin, Sem.run_bind, hr', Result.andThen]
      rfl
  | some a =>
    refine ap_row (by kernel_rfl) infoInt rfl (by omega) (Row.nil w w.heap.size tInt 1) (Nat.le_refl _) (intCells l) (by simp [intCells]; omega) (fun j u hu => ?_) (intCells_one l) (by unfold maxLen; omega) (by omega) fun q' c' w' g1 => ?_
    · have h0 : 0 < n := Decidable.byContradiction fun h => by rw [hne (by omega)] at hu; simp at hu
      obtain ⟨g, o, e, hc⟩ := ha.2 h0
      cases e
      simp only [intCells, List.getElem?_map, Option.map_eq_some_iff] at hu
      obtain ⟨x, hx, rfl⟩ := hu
      rw [addr_add]
      exact hc j x hx
    · have ho := g1.own
      rw [List.nil_append, Nat.zero_add] at ho
      rw [Nat.zero_add]
      exact h q' c' w' (g1.ch.mono fun k hk => by unfold rowS at hk; simp [Value.ownBlock] at hk) ho
end
theorem opsCopy_any (p : Option Addr) (n c : Nat) (l : List OpM) (w : World) (ha : AtOps w p n l) (hn : n ≤ 2000000) (hk : ∀ o ∈ l, o.keep.length ≤ 2000000) :
    Calls Tryz.prog 10 #[.slice p n c] w fun e w' => Ch No w w' ∧ ∃ q m d, e = .returned (.slice q m d) ∧ OpsRow w' q m d l := by
  refine calls_of_fnT mixed Tryz.func10 (s := s10) ?_
  rw [t10]
  have hl := ha.1
  generalize hB : w.heap.size = B at *
  refine loop_i mixed m10_1 s10_1 (by kernel_rfl) (by kernel_rfl)
    (fun (v : (Option Addr × Nat × Nat) × Int × Unit) w' => ∃ (i : Nat) (cs : List Value), v.2.1 = i ∧ i ≤ n ∧ Ch No w w' ∧ Row w' B tOp 4 v.1.1 v.1.2.1 v.1.2.2 cs ∧ OpsC w' cs (l.take i)) (fun (v : (Option Addr × Nat × Nat) × Int × Unit) _ => n - v.2.1.toNat) ((none, 0, 0), 0, ()) rfl ⟨0, [], rfl, Nat.zero_le _, Ch.refl _ _, Row.nil _ _ _ _, .nil⟩ ?_
  rintro ⟨⟨q, m, d⟩, (iv : Int), ⟨⟩⟩ g w1 ⟨i, cs, (hi : iv = _), hin, h1, (row : Row w1 B tOp 4 q m d cs), hoc⟩
  subst hi
  rw [t10_1]
  have hcl := hoc.len
  have hrl := row.len
  rw [List.length_take] at hcl
  refine br_both (fun e => ?_) fun e => ?_
  · have hi1 : i < n := by have e : (i : Int) < (n : Int) := lt_t e; omega
    clear e
    obtain ⟨o, ho⟩ : ∃ u, l[i]? = some u := ⟨_, List.getElem?_eq_getElem (by omega)⟩
    obtain ⟨g1, o1, rfl, hc⟩ := ha.2 (by omega)
    obtain ⟨kp, kn, kc, a0, a1, a2, a3, a4⟩ := hc _ _ ho
    have rd : ∀ {a : Addr} {v : Value} {w'}, Ch No w w' → w.cell? a = some v → w'.cell? a = some v := fun hc h => hc.cellv h (fun h => h)
    have hix : ∀ {R : Ending → World → Prop} {Q : Exit → List (Tmp × Value) → World → Prop} {f : Addr → T} {md : Md} {w' : World}, wpT Tryz.prog R Q (f ⟨g1, o1 + i * 4, none⟩) md w' → wpT Tryz.prog R Q (.idx (some ⟨g1, o1, none⟩) (i : Int) n 4 f) md w' := fun {R Q f md w'} h => by
      refine ix_i (by omega) (by omega) ?_
      rw [addr_add, Int.toNat_natCast]
      exact h
    refine hix ?_
    simp only [addr_add]
    refine ld_int (rd h1 a1) (ld_int (rd h1 a2) (ld_int (rd h1 a3) (ld_sl (rd h1 a4) (nw fun w2 h2 z2 b2 => ?_))))
    refine st4 (x0 := .int .i64 o.kind) (x1 := .int .i64 o.a) (x2 := .int .i64 o.b) (x3 := .slice kp kn kc) b2 rfl rfl rfl rfl fun w3 h3 b3 => ?_
    refine st_blk b3 (by simp) rfl fun w4 h4 z4 b4 => ?_
    have H4 : Ch No w1 w4 := h2.then_ (h3.trans h4) (fun i hi (e : i = _) => by omega)
    have hkl : kn ≤ 2000000 := by
      have h1 := a0.1
      have h2 := hk o (List.mem_of_getElem? ho)
      omega
    refine cut_i mixed s10_8 (fun (v : Unit) w' => Ch No w1 w' ∧ ∃ q' c', Blk w' w1.heap.size (opTuple o q' kn c') tOp ∧ Row w' 0 tInt 1 q' kn c' (intCells o.keep)) (by kernel_rfl) (fun g => ?_) ?_
    · rw [t10_8]
      have hd := (Ch.refl No w4).drew
      have H5 := H4.trans hd
      have hCk : ∀ {w'}, Ch No w w' → w'.cell? ⟨g1, o1 + i * 4 + 3, none⟩ = some (.slice kp kn kc) := fun h => rd h a4
      refine hd_i (fun w' => Ch No w w') (h1.trans H5) (hix ?_)
      rw [addr_add]
      refine lh_sl (p := kp) (n := kn) (c := kc) (fun w' h => hCk h) ?_
      refine eff_i (ld_sl ((b4.ch hd (fun h => h)).cell 3) (bk (h1.trans H5) (eff_i (ap_ints (a0.no (h1.trans H5)) hkl fun q' c' w6 h6 hr6 => bk ((h1.trans H5).trans h6) (eff_i ?_)))))
      have b6 := (b4.ch hd (fun h => h)).ch h6 (fun h => h)
      refine st_blk b6 (by simp) rfl fun w7 h7 z7 b7 => ?_
      have H7 : Ch No w1 w7 := (H5.trans h6).then_ h7 (fun i hi (e : i = _) => by omega)
      exact bk (h1.trans H7) (un_h ⟨rfl, (), rfl, H7, q', c', b7, (hr6.base (Nat.zero_le _)).ch h7 (hr6.noTy (noTy_blk b6 (by decide)))⟩)
    rintro ⟨⟩ g w5 ⟨h5, q', c', b5, kr⟩
    refine ld_int (b5.cell 0) (ld_int (b5.cell 1) (ld_int (b5.cell 2) (ld_sl (b5.cell 3) (nw fun w6 h6 z6 b6 => ?_))))
    have row6 := (row.no h5).no h6
    refine ap_blk (by kernel_rfl) infoOp rfl (by omega) row6 (by have := h1.size; have := h5.size; omega) b6 (by simp) (fun u hu => by simp at hu; rcases hu with rfl | rfl | rfl | rfl <;> rfl) (by unfold maxLen; omega) (by omega) fun q7 d7 w7 g7 => ?_
    have hi' : NoInt w6 (rowS q m d) := noTy_row row6 (by decide)
    refine ⟨((q7, m + 1, d7), ((i + 1 : Nat) : Int), ()), ?_, ⟨i + 1, _, rfl, hi1, ?_, g7.own, ?_⟩, by dsimp only; omega⟩
    · rw [wrap_succ (by omega) (by omega)]; rfl
    · exact ((h1.trans h5).trans h6).then_ g7.ch (fun k hk hS => by have := (row6.lt hS).1; omega)
    · rw [List.take_add_one, ho]
      have h1 : OpsC w7 cs (l.take i) := (((hoc.ch h5 (noTy_no _ _))).ch h6 (noTy_no _ _)).ch g7.ch hi'
      have h2 : OpsC w7 (opCells o.kind o.a o.b q' kn c' ++ []) [o] := .cons o q' kn c' [] [] ((kr.no h6).ch g7.ch ((kr.no h6).noTy hi')) .nil
      rw [List.append_nil] at h2
      exact h1.app h2
  · have hi1 : n ≤ i := by have e : (n : Int) ≤ (i : Int) := lt_f e; omega
    rw [List.take_of_length_le (by omega)] at hoc
    exact ⟨rfl, ((q, m, d), ()), rfl, fun g => ⟨h1, q, m, d, rfl, cs, row.base (Nat.zero_le _), hoc⟩⟩
def oneText : List UInt8 := [114, 101, 112, 101, 97, 116, 32, 50, 10, 112, 111, 115, 116, 10, 101, 110, 100]
theorem one_is : parseSc oneText = .ok [⟨3, 0, 0, []⟩, ⟨3, 0, 0, []⟩] := by rfl
theorem at_nil (w : World) : AtOps w none 0 [] := ⟨rfl, fun h => by omega⟩
theorem eq_nil {R : Ending → World → Prop} {Q : Exit → List (Tmp × Value) → World → Prop} {w : World} {md : Md} [hmd : md.Runs] {k : Bool → T} {x : Operand} (h : wpT Tryz.prog R Q (k true) md w) : wpT Tryz.prog R Q (.run (vNext (guarded .eql tErrT x (.const .nilIface) .nilIface .nilIface)) (.one (.leaf .bool)) k) md w :=
  t_run (x := true) (w' := w) (by cases x <;> simp [vNext, guarded, eqGuard, go_sem, Tr.Shape.val, Tr.Comp.val, Tr.Leaf.val]) h
theorem lsc_any (s : ByteArray) (p : Option Addr) (n c : Nat) (l : List OpM) (w : World) (ha : AtOps w p n l) (hn : n ≤ 2000000) (hk : ∀ o ∈ l, o.keep.length ≤ 2000000) (G : Glob w) :
    Calls Tryz.prog 3 #[.string s, .slice p n c] w fun e w' => e = .returned (.bool true) ∧ Ch No w w' := by
  refine calls_of_fnT mixed Tryz.func3 (s := s3) ?_
  rw [t3]
  refine cl_i (parse_any s w G) ?_
  rintro e w1 ⟨h1, hr1⟩
  have two : ∃ p1 n1 c1 v1, e = Ending.returned (.tuple #[.slice p1 n1 c1, v1]) ∧ ∀ (w2 : World) (e2 : Ending), Ch No w1 w2 → (match parseSc s.data.toList with
      | .ok ops => ∃ p n c, e2 = .returned (.tuple #[.slice p n c, .int .i64 0, .int .i64 0, .int .i64 0]) ∧ OpsRow w2 p n c ops
      | .error (l, pl, cd) => e2 = .returned (.tuple #[.slice none 0 0, .int .i64 l, .int .i64 pl, .int .i64 cd]) ∧ cd ≠ 0) →
      ∃ p2 n2 c2 l pl cd, e2 = Ending.returned (.tuple #[.slice p2 n2 c2, .int .i64 l, .int .i64 pl, .int .i64 cd]) ∧
        (∀ w3, Ch No w2 w3 → Calls Tryz.prog 8 #[v1, .int .i64 l, .int .i64 pl, .int .i64 cd] w3 (fun e w' => e = .returned (.bool true) ∧ Ch No w3 w')) ∧
        (∀ w3, Ch No w2 w3 → Calls Tryz.prog 9 #[.slice p1 n1 c1, .slice p2 n2 c2] w3 (fun e w' => e = .returned (.bool true) ∧ Ch No w3 w')) := by
    cases hp : parseSc s.data.toList with
    | error er =>
      obtain ⟨l, pl, cd⟩ := er
      rw [hp] at hr1
      obtain ⟨v, rfl, hv⟩ := hr1
      refine ⟨none, 0, 0, v, rfl, fun w2 e2 h2 hr2 => ?_⟩
      obtain ⟨rfl, _⟩ := hr2
      exact ⟨none, 0, 0, _, _, _, rfl, fun w3 h3 => agrees_true v l pl cd w3 (hv.no (h2.trans h3)), fun w3 h3 => sameOps_up w3 none none 0 0 0 0 [] (at_nil _) (at_nil _) (by omega) (fun o ho => by cases ho)⟩
    | ok ops =>
      rw [hp] at hr1
      obtain ⟨p1, n1, c1, rfl, row1, few⟩ := hr1
      refine ⟨p1, n1, c1, .nilIface, rfl, fun w2 e2 h2 hr2 => ?_⟩
      obtain ⟨p2, n2, c2, rfl, row2⟩ := hr2
      have hl := row1.len
      have hf1 := few.1
      dsimp only at hf1
      exact ⟨p2, n2, c2, 0, 0, 0, rfl, fun w3 h3 => agrees_nil w3, fun w3 h3 => sameOps_up w3 p1 p2 n1 n2 c1 c2 ops (row1.at.no (h2.trans h3)) (row2.at.no h3) (by omega) (fun o ho => by have := few.2.2 o ho; omega)⟩
  obtain ⟨p1, n1, c1, v1, rfl, two⟩ := two
  refine ⟨((p1, n1, c1), v1, ()), rfl, cl_i (rparse_any s w1) ?_⟩
  rintro e2 w2 ⟨h2, hr2⟩
  obtain ⟨p2, n2, c2, l2, a2, cd2, rfl, hA, hS⟩ := two w2 e2 h2 hr2
  refine ⟨((p2, n2, c2), l2, a2, cd2, ()), rfl, ?_⟩
  refine cut_i mixed s3_3 (fun (v : Bool × Unit) w' => Ch No w2 w' ∧ v.1 = false) (by kernel_rfl) (fun g => ?_) ?_
  · rw [t3_3]
    refine cl_i (hA w2 (Ch.refl _ _)) ?_
    rintro e w3 ⟨rfl, h3⟩
    refine ⟨true, rfl, br_false rfl (cl_i (hS w3 h3) ?_)⟩
    rintro e w4 ⟨rfl, h4⟩
    exact ⟨true, rfl, rfl, (_, ()), rfl, h3.trans h4, rfl⟩
  rintro ⟨u, ⟨⟩⟩ g w3 ⟨h3, rfl⟩
  have H3 := (h1.trans h2).trans h3
  refine br_false rfl (cl_i (opsCopy_any p n c l w3 (ha.no H3) hn hk) ?_)
  rintro e w4 ⟨h4, q, m, d, rfl, rowm⟩
  have H4 := H3.trans h4
  refine ⟨(q, m, d), rfl, cl_i (print_any p n c l w4 (ha.no H4) hk (G.ch H4 (fun _ _ h => h))) ?_⟩
  rintro e w5 ⟨h5, hr5⟩
  have H5 := H4.trans h5
  have two : ∃ (t : List UInt8) (v5 : Value), e = Ending.returned (.tuple #[.string (bytesL t), v5]) ∧ ∀ (w6 : World) (e6 : Ending), Ch No w5 w6 → (match printSc l with
      | some t => e6 = .returned (.tuple #[.string (bytesL t), .int .i64 0, .int .i64 0, .int .i64 0])
      | none => e6 = .returned (.tuple #[.string (bytesL []), .int .i64 0, .int .i64 0, .int .i64 68])) →
      ∃ cd, e6 = Ending.returned (.tuple #[.string (bytesL t), .int .i64 0, .int .i64 0, .int .i64 cd]) ∧ (∀ w7, Ch No w6 w7 → Calls Tryz.prog 8 #[v5, .int .i64 0, .int .i64 0, .int .i64 cd] w7 (fun e w' => e = .returned (.bool true) ∧ Ch No w7 w')) := by
    cases hp : printSc l with
    | none =>
      rw [hp] at hr5
      obtain ⟨v, rfl, hv⟩ := hr5
      exact ⟨[], v, rfl, fun w6 e6 h6 hr6 => ⟨68, hr6, fun w7 h7 => agrees_true v 0 0 68 w7 (hv.no (h6.trans h7))⟩⟩
    | some t =>
      rw [hp] at hr5
      exact ⟨t, .nilIface, hr5, fun w6 e6 h6 hr6 => ⟨0, hr6, fun w7 h7 => agrees_nil w7⟩⟩
  obtain ⟨t5, v5, rfl, two⟩ := two
  refine ⟨(bytesL t5, v5, ()), rfl, cl_i (rprint_any q m d l w5 (rowm.at.no h5) hk (G.ch H5 (fun _ _ h => h))) ?_⟩
  rintro e6 w6 ⟨h6, hr6⟩
  obtain ⟨cd6, rfl, hA6⟩ := two w6 e6 h6 hr6
  have H6 := H5.trans h6
  refine ⟨(bytesL t5, 0, 0, cd6, ()), rfl, ?_⟩
  refine cut_i mixed s3_10 (fun (v : Bool × Unit) w' => Ch No w6 w' ∧ v.1 = false) (by kernel_rfl) (fun g => ?_) ?_
  · rw [t3_10]
    refine cl_i (hA6 w6 (Ch.refl _ _)) ?_
    rintro e w7 ⟨rfl, h7⟩
    refine ⟨true, rfl, br_false rfl (br_false (by simp) (cl_i (sameOps_up w7 p q n m c d l (ha.no (H6.trans h7)) (rowm.at.no ((h5.trans h6).trans h7)) hn hk) ?_))⟩
    rintro e w8 ⟨rfl, h8⟩
    exact ⟨true, rfl, rfl, (_, ()), rfl, h7.trans h8, rfl⟩
  rintro ⟨u, ⟨⟩⟩ g w7 ⟨h7, rfl⟩
  have H7 := H6.trans h7
  refine br_false rfl (cl_i (parse_any (bytesL oneText) w7 (G.ch H7 (fun _ _ h => h))) ?_)
  rintro e w8 ⟨h8, hr8⟩
  rw [tb_data, one_is] at hr8
  obtain ⟨p8, n8, c8, rfl, row8, _⟩ := hr8
  obtain ⟨hl8, hc8⟩ := row8.at
  have hn8 : n8 = 2 := hl8.symm
  subst hn8
  obtain ⟨g8, o8, rfl, hd8⟩ := hc8 (by omega)
  obtain ⟨_, _, _, _, hk8, _⟩ := hd8 1 _ rfl
  refine ⟨((some ⟨g8, o8, none⟩, 2, c8), .nilIface, ()), rfl, eq_nil (br_true rfl (br_true rfl (ix_i (by omega) (by show (1 : Int) < 2; omega) ?_)))⟩
  rw [addr_add]
  exact ld_int hk8 ⟨rfl, H7.trans h8⟩
end Go.Proofs.YtjlmkahagcojcaaGreatDoor
