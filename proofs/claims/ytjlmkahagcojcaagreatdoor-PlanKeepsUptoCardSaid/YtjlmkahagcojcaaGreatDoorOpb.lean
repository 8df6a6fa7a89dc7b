/- Steps that stand somewhere, compared; what a fault tells. -/
import Derived.Test.YtjlmkahagcojcaaGreatDoorLns
import Derived.Laws.BytesString
import Derived.Lib.UnsafeStr
namespace Go.Proofs.YtjlmkahagcojcaaGreatDoor
open Go Tr
set_option maxRecDepth 100000
/-! the tree of function 1007 -/
def s30f : Script := .lit (.lit (.lit (.ld .any (.rn (.one (.leaf .any)) (.rn (.one (.leaf .bool)) (.rn (.one (.leaf (.int .i64))) (.sym (.qt (.ld (.int .i64) (.ld (.int .i64) .nil))) .nil)))))))
theorem t30f (qcl : Addr) : fnT Tryz.prog Tryz.f30 #[.iface 120 (.pointer (some qcl))] s30f =
  .load (qcl.add 2) .any (fun v1 =>
    .run (vNext (Instr.typeAssert v1 24 69 true)) (.one (.leaf .any)) (fun v2 =>
      .run (execOp (Act.eval ⟨#[.iface 120 (.pointer (some qcl)), undef, .int .i64 0, .int .i64 0, .int .i64 0, undef, .pointer (some qcl), undef, .iface 120 (.pointer (some qcl)), .bool false, .tuple #[.pointer (some qcl), .bool true], .bool true, .pointer (some qcl), .pointer (some qcl), .bool false, .pointer (some qcl), .pointer (some qcl), .pointer (some (qcl.add 2)), v1, v2, undef, undef, undef, undef, undef, undef, undef, undef, undef, undef, undef], []⟩) ({ dst := Option.some 20, op := Go.Op.extract (Go.Operand.tmp 19) 1, type := 4, pos := "exact.go:20", after := #[{ on := 0, ground := Go.Ground.data }], guard := Option.none })) (.one (.leaf .bool)) (fun b3 =>
        .run (execOp (Act.eval ⟨#[.iface 120 (.pointer (some qcl)), undef, .int .i64 0, .int .i64 0, .int .i64 0, undef, .pointer (some qcl), undef, .iface 120 (.pointer (some qcl)), .bool false, .tuple #[.pointer (some qcl), .bool true], .bool true, .pointer (some qcl), .pointer (some qcl), .bool false, .pointer (some qcl), .pointer (some qcl), .pointer (some (qcl.add 2)), v1, v2, .bool b3, undef, undef, undef, undef, undef, undef, undef, undef, undef, undef], []⟩) ({ dst := Option.some 21, op := Go.Op.extract (Go.Operand.tmp 19) 0, type := 69, pos := "exact.go:20", after := #[{ on := 0, ground := Go.Ground.data }], guard := Option.none })) (.one (.leaf (.int .i64))) (fun x4 =>
          .br b3
            (.drawn
              (.load qcl (.int .i64) (fun x5 =>
                .load (qcl.add 1) (.int .i64) (fun x6 =>
                  .undrawn
                    (.done (.returned (.tuple #[.int .i64 x5, .int .i64 x6, .int .i64 x4])))))))
            (.done (.returned (.tuple #[.int .i64 (-1), .int .i64 (-1), .int .i64 (-1)]))))))) := by kernel_rfl
/-! the tree of function 1001 -/
def s30n : Script := .lit .nil
theorem t30n : fnT Tryz.prog Tryz.f30 #[.nilIface] s30n =
  .done (.returned (.tuple #[.int .i64 0, .int .i64 0, .int .i64 0])) := by kernel_rfl
/-! the tree of function 8 -/
def s8 : Script := .cl (.tup [.leaf (.int .i64), .leaf (.int .i64), .leaf (.int .i64)]) (.sym (.lit (.lit (.lit (.sym (.lit (.lit (.lit .nil))) (.lit (.lit (.lit .nil))))))) (.lit (.lit (.lit (.lit (.lit (.lit (.lit .nil))))))))
theorem t8 (qv0 : Value) (qx1 : Int) (qx2 : Int) (qx3 : Int) : fnT Tryz.prog Tryz.f8 #[qv0, .int .i64 qx1, .int .i64 qx2, .int .i64 qx3] s8 =
  .call 30 #[qv0] (.tup [.leaf (.int .i64), .leaf (.int .i64), .leaf (.int .i64)]) (fun r1 =>
    .br (r1.fst == qx1)
      (.br (r1.snd.fst == qx2)
        (.done (.returned (.bool (r1.snd.snd.fst == qx3))))
        (.done (.returned (.bool false))))
      (.done (.returned (.bool false)))) := by kernel_rfl
/-! the tree of function 31 -/
abbrev fx31_1 (qa0 : Option Addr) (qn0 : Nat) (qc0 : Nat) (qa1 : Option Addr) (qn1 : Nat) (qc1 : Nat) : List (Tmp × Value) := [(0, .slice qa0 qn0 qc0), (1, .slice qa1 qn1 qc1)]
abbrev m31_1 : List (Tmp × Comp) := [(5, .leaf (.int .i64))]
abbrev mx31_1 : List (Tmp × Comp) := []
abbrev mr31_1 : List (Tmp × Comp) := [(4, .leaf .bool)]
def s31_1 : Script := .sym (.qt (.ix (.ld (.int .i64) (.ix (.ld (.int .i64) (.sym .nil .nil)))))) .nil
theorem t31_1 (qa0 : Option Addr) (qn0 : Nat) (qc0 : Nat) (qa1 : Option Addr) (qn1 : Nat) (qc1 : Nat) (x_5 : Int) (g : Nat → Value) : pieceT Tryz.prog (at_ Tryz.f31 [1, 1, 0, 1, 0, 0]) 26 (fx31_1 qa0 qn0 qc0 qa1 qn1 qc1 ++ mvals m31_1 (x_5, ())) g (m31_1.map (·.1)) (mx31_1.map (·.1)) (mr31_1.map (·.1)) s31_1 =
  .br (Decidable.decide (x_5 < (↑qn0 : Int)))
    (.drawn
      (.idx qa0 x_5 qn0 1 (fun a2 =>
        .load a2 (.int .i64) (fun x3 =>
          .idx qa1 x_5 qn1 1 (fun a4 =>
            .load a4 (.int .i64) (fun x5 =>
              .undrawn
                (.br (x3 != x5)
                  (.fin .ret [(4, .bool false)])
                  (.fin .normal [(5, .int .i64 (IntKind.i64.wrap (x_5 + 1)))]))))))))
    (.fin (.exit 0) []) := by kernel_rfl
def s31 : Script := .sym .nil (.lp 0 [0, 1] [5] mx31_1 mr31_1 .nil .nil)
theorem t31 (qa0 : Option Addr) (qn0 : Nat) (qc0 : Nat) (qa1 : Option Addr) (qn1 : Nat) (qc1 : Nat) : fnT Tryz.prog Tryz.f31 #[.slice qa0 qn0 qc0, .slice qa1 qn1 qc1] s31 =
  .br ((↑qn0 : Int) != (↑qn1 : Int))
    (.done (.returned (.bool false)))
    (.loop (at_ Tryz.f31 [1, 1, 0, 1, 0, 0]) 26 (fx31_1 qa0 qn0 qc0 qa1 qn1 qc1) [(5, .int .i64 0)] mx31_1 mr31_1 0 (fun u6 g6 =>
      .done (.returned (.bool true))) (fun u7 g7 =>
      .done (.returned (.bool u7.1)))) := by kernel_rfl
/-! the tree of function 9 -/
abbrev fx9_1 (qa0 : Option Addr) (qn0 : Nat) (qc0 : Nat) (qa1 : Option Addr) (qn1 : Nat) (qc1 : Nat) : List (Tmp × Value) := [(0, .slice qa0 qn0 qc0), (1, .slice qa1 qn1 qc1)]
abbrev m9_1 : List (Tmp × Comp) := [(5, .leaf (.int .i64))]
abbrev mx9_1 : List (Tmp × Comp) := []
abbrev mr9_1 : List (Tmp × Comp) := [(4, .leaf .bool)]
def s9_1 : Script := .sym (.qt (.ix (.ld (.int .i64) (.ix (.ld (.int .i64) (.sym (.lit (.lit (.lit (.lit (.lit (.lit (.lit (.lit (.lit (.lit (.lit (.lit (.lit (.lit (.lit (.lit (.lit (.lit (.lit (.lit (.lit (.lit (.lit (.lit (.lit (.lit (.lit (.lit (.lit (.lit (.lit (.lit (.lit (.lit (.lit (.lit (.lit .nil))))))))))))))))))))))))))))))))))))) (.lit (.lit (.ix (.lit (.lit (.ld (.int .i64) (.lit (.lit (.lit (.ix (.lit (.lit (.ld (.int .i64) (.lit (.lit (.sym (.lit (.lit (.lit (.lit (.lit (.lit (.lit (.lit (.lit (.lit (.lit (.lit (.lit (.lit (.lit (.lit (.lit (.lit (.lit (.lit (.lit (.lit (.lit (.lit (.lit .nil))))))))))))))))))))))))) (.lit (.lit (.ix (.lit (.lit (.ld (.int .i64) (.lit (.lit (.lit (.ix (.lit (.lit (.ld (.int .i64) (.lit (.lit (.sym (.lit (.lit (.lit (.lit (.lit (.lit (.lit (.lit (.lit (.lit (.lit (.lit (.lit .nil))))))))))))) (.lit (.lit (.ix (.lit (.lit (.ld .sl (.lit (.lit (.lit (.ix (.lit (.lit (.ld .sl (.lit (.cl (.one (.leaf .bool)) (.lit (.lit (.sym .nil .nil)))))))))))))))))))))))))))))))))))))))))))))))))))))))) .nil
theorem t9_1 (qa0 : Option Addr) (qn0 : Nat) (qc0 : Nat) (qa1 : Option Addr) (qn1 : Nat) (qc1 : Nat) (x_5 : Int) (g : Nat → Value) : pieceT Tryz.prog (at_ Tryz.f9 [1, 1, 0, 1, 0, 0]) 68 (fx9_1 qa0 qn0 qc0 qa1 qn1 qc1 ++ mvals m9_1 (x_5, ())) g (m9_1.map (·.1)) (mx9_1.map (·.1)) (mr9_1.map (·.1)) s9_1 =
  .br (Decidable.decide (x_5 < (↑qn0 : Int)))
    (.drawn
      (.idx qa0 x_5 qn0 4 (fun a2 =>
        .load a2 (.int .i64) (fun x3 =>
          .idx qa1 x_5 qn1 4 (fun a4 =>
            .load a4 (.int .i64) (fun x5 =>
              .br (x3 != x5)
                (.undrawn
                  (.fin .ret [(4, .bool false)]))
                (.idx qa0 x_5 qn0 4 (fun a6 =>
                  .load (a6.add 1) (.int .i64) (fun x7 =>
                    .idx qa1 x_5 qn1 4 (fun a8 =>
                      .load (a8.add 1) (.int .i64) (fun x9 =>
                        .br (x7 != x9)
                          (.undrawn
                            (.fin .ret [(4, .bool false)]))
                          (.idx qa0 x_5 qn0 4 (fun a10 =>
                            .load (a10.add 2) (.int .i64) (fun x11 =>
                              .idx qa1 x_5 qn1 4 (fun a12 =>
                                .load (a12.add 2) (.int .i64) (fun x13 =>
                                  .br (x11 != x13)
                                    (.undrawn
                                      (.fin .ret [(4, .bool false)]))
                                    (.idx qa0 x_5 qn0 4 (fun a14 =>
                                      .load (a14.add 3) .sl (fun l15 =>
                                        .idx qa1 x_5 qn1 4 (fun a16 =>
                                          .load (a16.add 3) .sl (fun l17 =>
                                            .call 31 #[.slice l15.1 l15.2.1 l15.2.2, .slice l17.1 l17.2.1 l17.2.2] (.one (.leaf .bool)) (fun b18 =>
                                              .undrawn
                                                (.br (!b18)
                                                  (.fin .ret [(4, .bool false)])
                                                  (.fin .normal [(5, .int .i64 (IntKind.i64.wrap (x_5 + 1)))]))))))))))))))))))))))))
    (.fin (.exit 0) []) := by kernel_rfl
def s9 : Script := .sym .nil (.lp 0 [0, 1] [5] mx9_1 mr9_1 .nil .nil)
theorem t9 (qa0 : Option Addr) (qn0 : Nat) (qc0 : Nat) (qa1 : Option Addr) (qn1 : Nat) (qc1 : Nat) : fnT Tryz.prog Tryz.f9 #[.slice qa0 qn0 qc0, .slice qa1 qn1 qc1] s9 =
  .br ((↑qn0 : Int) != (↑qn1 : Int))
    (.done (.returned (.bool false)))
    (.loop (at_ Tryz.f9 [1, 1, 0, 1, 0, 0]) 68 (fx9_1 qa0 qn0 qc0 qa1 qn1 qc1) [(5, .int .i64 0)] mx9_1 mr9_1 0 (fun u19 g19 =>
      .done (.returned (.bool true))) (fun u20 g20 =>
      .done (.returned (.bool u20.1)))) := by kernel_rfl

/-! ### Bytes that stand somewhere -/
def AtB (w : World) (p : Option Addr) (n : Nat) (bs : List UInt8) : Prop := bs.length = n ∧ (0 < n → ∃ ad, p = some ad ∧ ∀ (j : Nat) (u : UInt8), bs[j]? = some u → w.cell? (ad.add j) = some (.int .u8 u.toNat))
theorem foldl_push (l : List UInt8) : ∀ (s : ByteArray), (l.map fun b => ((b.toNat : Nat) : Int)).foldl (fun r n => r.push (UInt8.ofNat n.toNat)) s = ⟨s.data ++ l.toArray⟩ := by
  induction l with
  | nil => intro s; simp
  | cons b r ih =>
    intro s
    simp only [List.map_cons, List.foldl_cons]
    rw [ih]
    congr 1
    simp [ByteArray.push]
theorem run_conv {w : World} {p : Option Addr} {n c : Nat} {bs : List UInt8} (h : AtB w p n bs) : (vNext (convert tBytes 9 (.slice p n c))).run Tryz.prog w = .ok (.value (.string ⟨bs.toArray⟩)) w := by
  have key : (convert tBytes 9 (.slice p n c)).run Tryz.prog w = .ok (.string ⟨bs.toArray⟩) w := by
    rw [run_convert_bytes_string w tBytes 9 tByte p n c (by kernel_rfl) (by kernel_rfl) (by kernel_rfl)]
    cases p with
    | none =>
      have h0 : n = 0 := by
        rcases Nat.eq_zero_or_pos n with h0 | h0
        · exact h0
        · obtain ⟨_, e, _⟩ := h.2 h0
          cases e
      have : bs = [] := List.eq_nil_of_length_eq_zero (by rw [h.1, h0])
      subst this
      rfl
    | some ad =>
      have hl : (loadCells ad n).run Tryz.prog w = .ok (((bs.map fun b => ((b.toNat : Nat) : Int)).map (Value.int .u8))).toArray w := by
        have h2 := run_loadCells_list (P := Tryz.prog) w ad (Lib.byteCells bs) (fun j v hv => by
          simp only [Lib.byteCells, List.getElem?_map, Option.map_eq_some_iff] at hv
          obtain ⟨b, hb, rfl⟩ := hv
          have hlt := (List.getElem?_eq_some_iff.1 hb).1
          obtain ⟨ad', e, hj⟩ := h.2 (by have := h.1; omega)
          cases e
          exact hj j b hb)
        rw [Lib.byteCells_length, h.1] at h2
        rw [h2]
        simp [Lib.byteCells, Function.comp_def]
      rw [run_bytesToString w ad n c _ hl, foldl_push]
      congr 2
      simp
  unfold vNext
  simp only [Sem.run_bind, key, Result.andThen]
  rfl
theorem cv_b {R : Ending → World → Prop} {Q : Exit → List (Tmp × Value) → World → Prop} {md : Md} [hmd : md.Runs] {w : World} {k : ByteArray → T} {p : Option Addr} {n c : Nat} {bs : List UInt8} (h : AtB w p n bs) (hk : wpT Tryz.prog R Q (k (bytesL bs)) md w) : wpT Tryz.prog R Q (.run (vNext (convert tBytes 9 (.slice p n c))) (.one (.leaf .str)) k) md w := t_run (x := bytesL bs) (run_conv h) hk

/-! ### Ints and steps that stand somewhere -/
def AtI (w : World) (p : Option Addr) (n : Nat) (l : List Int) : Prop := l.length = n ∧ (0 < n → ∃ g o, p = some ⟨g, o, none⟩ ∧ ∀ (j : Nat) (x : Int), l[j]? = some x → w.cell? ⟨g, o + j, none⟩ = some (.int .i64 x))
theorem AtI.no {w w' : World} {p : Option Addr} {n : Nat} {l : List Int} (h : AtI w p n l) (hc : Ch No w w') : AtI w' p n l := ⟨h.1, fun hn => by
  obtain ⟨g, o, e, hj⟩ := h.2 hn
  exact ⟨g, o, e, fun j u hu => hc.cellv (hj j u hu) (fun h => h)⟩⟩
theorem AtI.row {w : World} {base : Nat} {p : Option Addr} {n c : Nat} {l : List Int} (h : Row w base tInt 1 p n c (intCells l)) : AtI w p n l := by
  have h1 := h.len
  simp only [intCells, List.length_map, Nat.mul_one] at h1
  refine ⟨h1, fun hn => ?_⟩
  obtain ⟨g, e, _, hc⟩ := h.get hn
  refine ⟨g, 0, e, fun j x hx => ?_⟩
  rw [Nat.zero_add]
  exact hc j _ (by simp [intCells, hx])
/-- Steps at a place. -/
def AtOps (w : World) (p : Option Addr) (n : Nat) (os : List OpM) : Prop := os.length = n ∧ (0 < n → ∃ g o, p = some ⟨g, o, none⟩ ∧ ∀ (j : Nat) (x : OpM), os[j]? = some x → ∃ kp kn kc, AtI w kp kn x.keep ∧ w.cell? ⟨g, o + j * 4, none⟩ = some (.int .i64 x.kind) ∧ w.cell? ⟨g, o + j * 4 + 1, none⟩ = some (.int .i64 x.a) ∧ w.cell? ⟨g, o + j * 4 + 2, none⟩ = some (.int .i64 x.b) ∧ w.cell? ⟨g, o + j * 4 + 3, none⟩ = some (.slice kp kn kc))
theorem AtOps.no {w w' : World} {p : Option Addr} {n : Nat} {os : List OpM} (h : AtOps w p n os) (hc : Ch No w w') : AtOps w' p n os := ⟨h.1, fun hn => by
  obtain ⟨g, o, e, hj⟩ := h.2 hn
  refine ⟨g, o, e, fun j x hx => ?_⟩
  obtain ⟨kp, kn, kc, h0, h1, h2, h3, h4⟩ := hj j x hx
  exact ⟨kp, kn, kc, h0.no hc, hc.cellv h1 (fun h => h), hc.cellv h2 (fun h => h), hc.cellv h3 (fun h => h), hc.cellv h4 (fun h => h)⟩⟩
theorem OpsRow.at {w : World} {p : Option Addr} {n c : Nat} {os : List OpM} (h : OpsRow w p n c os) : AtOps w p n os := by
  have hl := h.len
  obtain ⟨cs, hr, ho⟩ := h
  refine ⟨hl, fun hn => ?_⟩
  obtain ⟨g, e, _, hc⟩ := hr.get hn
  refine ⟨g, 0, e, fun j x hx => ?_⟩
  obtain ⟨kp, kn, kc, h0, h1, h2, h3, h4⟩ := ho.get j x hx
  simp only [Nat.zero_add]
  exact ⟨kp, kn, kc, AtI.row h0, hc _ _ h1, hc _ _ h2, hc _ _ h3, hc _ _ h4⟩
/-- A part of them. -/
theorem AtOps.sub {w : World} {p : Option Addr} {n : Nat} {os : List OpM} (h : AtOps w p n os) (a m : Nat) (hm : a + m ≤ n) {q : Option Addr} (hq : 0 < m → ∀ g o, p = some ⟨g, o, none⟩ → q = some ⟨g, o + a * 4, none⟩) : AtOps w q m ((os.drop a).take m) := by
  refine ⟨by rw [List.length_take, List.length_drop, h.1]; omega, fun h0 => ?_⟩
  obtain ⟨g, o, e, hj⟩ := h.2 (by omega)
  refine ⟨g, o + a * 4, hq h0 g o e, fun j x hx => ?_⟩
  rw [List.getElem?_take] at hx
  split at hx
  · rw [List.getElem?_drop] at hx
    obtain ⟨kp, kn, kc, h0, h1, h2, h3, h4⟩ := hj _ x hx
    rw [show o + (a + j) * 4 = o + a * 4 + j * 4 by omega] at h1 h2 h3 h4
    exact ⟨kp, kn, kc, h0, h1, h2, h3, h4⟩
  · cases hx
theorem sameInts_eq (w : World) (p q : Option Addr) (n m c d : Nat) (l : List Int) (ha : AtI w p n l) (hb : AtI w q m l) (hn : n ≤ 1000000) :
    Calls Tryz.prog 31 #[.slice p n c, .slice q m d] w fun e w' => e = .returned (.bool true) ∧ Ch No w w' := by
  have hm : n = m := by have := ha.1; have := hb.1; omega
  subst hm
  refine calls_of_fnT mixed Tryz.func31 (s := s31) ?_
  rw [t31]
  refine br_false (by simp) ?_
  refine loop_i mixed m31_1 s31_1 (by kernel_rfl) (by kernel_rfl)
    (fun (v : Int × Unit) w' => 0 ≤ v.1 ∧ v.1 ≤ n ∧ Ch No w w') (fun (v : Int × Unit) _ => n - v.1.toNat) (0, ()) rfl ⟨by simp, by simp, Ch.refl _ _⟩ ?_
  rintro ⟨(i : Int), ⟨⟩⟩ g w1 ⟨(i0 : 0 ≤ i), (i1 : i ≤ n), h1⟩
  rw [t31_1]
  refine br_both (fun e => ?_) fun e => ?_
  · have hi : i < n := lt_t e
    have hl := ha.1
    obtain ⟨x, hx⟩ : ∃ u, l[i.toNat]? = some u := ⟨_, List.getElem?_eq_getElem (by omega)⟩
    obtain ⟨g1, o1, rfl, hc1⟩ := (ha.no h1.drew).2 (by omega)
    obtain ⟨g2, o2, rfl, hc2⟩ := (hb.no h1.drew).2 (by omega)
    refine dr_eq (ix_i i0 hi ?_)
    rw [addr_add, Nat.mul_one]
    refine lq_int (hc1 _ _ hx) (ix_i i0 hi ?_)
    rw [addr_add, Nat.mul_one]
    refine lq_int (hc2 _ _ hx) (un_eq (br_false (by simp) ?_))
    refine ⟨(i + 1, ()), ?_, ⟨by dsimp only; omega, by dsimp only; omega, h1.drew⟩, by dsimp only; omega⟩
    rw [wrap_succ i0 (by omega)]; rfl
  · exact ⟨rfl, (), rfl, fun g => ⟨rfl, h1⟩⟩
theorem sameOps_eq (w : World) (p q : Option Addr) (n m c d : Nat) (l : List OpM) (ha : AtOps w p n l) (hb : AtOps w q m l) (hn : n ≤ 1000000) (hk : ∀ o ∈ l, o.keep.length ≤ 1000000) :
    Calls Tryz.prog 9 #[.slice p n c, .slice q m d] w fun e w' => e = .returned (.bool true) ∧ Ch No w w' := by
  have hm : n = m := by have := ha.1; have := hb.1; omega
  subst hm
  refine calls_of_fnT mixed Tryz.func9 (s := s9) ?_
  rw [t9]
  refine br_false (by simp) ?_
  refine loop_i mixed m9_1 s9_1 (by kernel_rfl) (by kernel_rfl)
    (fun (v : Int × Unit) w' => 0 ≤ v.1 ∧ v.1 ≤ n ∧ Ch No w w') (fun (v : Int × Unit) _ => n - v.1.toNat) (0, ()) rfl ⟨by simp, by simp, Ch.refl _ _⟩ ?_
  rintro ⟨(i : Int), ⟨⟩⟩ g w1 ⟨(i0 : 0 ≤ i), (i1 : i ≤ n), h1⟩
  rw [t9_1]
  refine br_both (fun e => ?_) fun e => ?_
  · have hi : i < n := lt_t e
    have hl := ha.1
    obtain ⟨x, hx⟩ : ∃ u, l[i.toNat]? = some u := ⟨_, List.getElem?_eq_getElem (by omega)⟩
    obtain ⟨g1, o1, rfl, hc1⟩ := ha.2 (by omega)
    obtain ⟨g2, o2, rfl, hc2⟩ := hb.2 (by omega)
    obtain ⟨kp, kn, kc, a0, a1, a2, a3, a4⟩ := hc1 _ _ hx
    obtain ⟨kp', kn', kc', b0, b1, b2, b3, b4⟩ := hc2 _ _ hx
    refine ⟨fun w' => Ch No w w', h1.drew, ?_⟩
    have rd : ∀ {a : Addr} {v : Value}, w.cell? a = some v → ∀ w', Ch No w w' → w'.cell? a = some v := fun h w' hc => hc.cellv h (fun h => h)
    refine ix_i i0 hi ?_
    rw [addr_add]
    refine ⟨_, rd a1, ix_i i0 hi ?_⟩
    rw [addr_add]
    refine ⟨_, rd b1, br_false (by simp) (ix_i i0 hi ?_)⟩
    rw [addr_add, addr_add]
    refine ⟨_, rd a2, ix_i i0 hi ?_⟩
    rw [addr_add, addr_add]
    refine ⟨_, rd b2, br_false (by simp) (ix_i i0 hi ?_)⟩
    rw [addr_add, addr_add]
    refine ⟨_, rd a3, ix_i i0 hi ?_⟩
    rw [addr_add, addr_add]
    refine ⟨_, rd b3, br_false (by simp) (ix_i i0 hi ?_)⟩
    rw [addr_add, addr_add]
    refine ⟨(kp, kn, kc), rd a4, ix_i i0 hi ?_⟩
    rw [addr_add, addr_add]
    refine ⟨(kp', kn', kc'), rd b4, ?_⟩
    have hkl : kn ≤ 1000000 := by
      have h1 := a0.1
      have := hk x (List.mem_of_getElem? hx)
      omega
    refine ⟨true, fun w2 h2 => (sameInts_eq w2 kp kp' kn kn' kc kc' x.keep (a0.no h2) (b0.no h2) hkl).mono fun e w3 ⟨he, h3⟩ => ⟨he, h2.trans h3⟩, ?_⟩
    intro w3 h3
    refine br_false rfl ?_
    refine ⟨(i + 1, ()), ?_, ⟨by dsimp only; omega, by dsimp only; omega, h3⟩, by dsimp only; omega⟩
    rw [wrap_succ i0 (by omega)]; rfl
  · exact ⟨rfl, (), rfl, fun g => ⟨rfl, h1⟩⟩
/-! ### What a fault tells -/
theorem told_nil (w : World) : Calls Tryz.prog 30 #[.nilIface] w fun e w' => e = .returned (.tuple #[.int .i64 0, .int .i64 0, .int .i64 0]) ∧ w' = w := by
  refine calls_of_fnT mixed Tryz.func30 (s := s30n) ?_
  rw [t30n]
  exact ⟨rfl, rfl⟩
theorem told_any (v : Value) (l a c : Int) (w : World) (h : ErrAt w v l a c) : Calls Tryz.prog 30 #[v] w fun e w' => e = .returned (.tuple #[.int .i64 l, .int .i64 a, .int .i64 c]) ∧ Ch No w w' := by
  obtain ⟨b, rfl, hb⟩ := h
  refine calls_of_fnT mixed Tryz.func30 (s := s30f) ?_
  rw [t30f]
  simp only [addr_add, Nat.zero_add]
  refine ld_any (hb.cell 2) ?_
  refine t_run (x := .tuple #[.int .i64 c, .bool true]) (w' := w) ?_ ?_
  · simp [vNext, Instr.typeAssert, go_sem, Tr.Shape.val, Tr.Comp.val, Tr.Leaf.val]
  refine t_run (x := true) (w' := w) rfl ?_
  refine t_run (x := c) (w' := w) rfl (br_true rfl ?_)
  refine dr_eq (lq_int (hb.cell 0) (lq_int (hb.cell 1) (un_eq ⟨rfl, (Ch.refl No w).drew⟩)))
theorem agrees_true (v : Value) (l a c : Int) (w : World) (h : ErrAt w v l a c) : Calls Tryz.prog 8 #[v, .int .i64 l, .int .i64 a, .int .i64 c] w fun e w' => e = .returned (.bool true) ∧ Ch No w w' := by
  refine calls_of_fnT mixed Tryz.func8 (s := s8) ?_
  rw [t8]
  refine cl_i (told_any v l a c w h) ?_
  rintro e w1 ⟨rfl, h1⟩
  refine ⟨(l, a, c, ()), rfl, br_true (by simp) (br_true (by simp) ⟨?_, h1⟩)⟩
  simp
end Go.Proofs.YtjlmkahagcojcaaGreatDoor
