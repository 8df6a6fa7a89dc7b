/- The document's answer: PrintScript. -/
import Derived.Test.YtjlmkahagcojcaaGreatDoorRha
namespace Go.Proofs.YtjlmkahagcojcaaGreatDoor
open Go Tr
set_option maxRecDepth 100000
/-! the tree of function 12 -/
abbrev fx12_1 (qa0 : Option Addr) (qn0 : Nat) (qc0 : Nat) : List (Tmp × Value) := [(0, .slice qa0 qn0 qc0)]
abbrev m12_1 : List (Tmp × Comp) := [(6, .leaf .sl), (7, .leaf (.int .i64))]
abbrev mx12_1 : List (Tmp × Comp) := [(6, .leaf .sl)]
abbrev mr12_1 : List (Tmp × Comp) := [(2, .leaf .str), (3, .leaf (.int .i64)), (4, .leaf (.int .i64)), (5, .leaf (.int .i64))]
def s12_1 : Script := .sym (.ix (.ld (.int .i64) (.ld (.int .i64) (.ld (.int .i64) (.ld .sl (.cl (.tup [.leaf .str, .leaf .bool]) (.sym .nil (.nop (.nop (.nop (.rn (.one (.leaf .sl)) .nil))))))))))) .nil
theorem t12_1 (qa0 : Option Addr) (qn0 : Nat) (qc0 : Nat) (l_6 : Option Addr × Nat × Nat) (x_7 : Int) (gg1 : Nat → Value) : pieceT Tryz.prog (at_ Tryz.f12 [1, 1, 1, 0, 1, 0, 0]) 97 (fx12_1 qa0 qn0 qc0 ++ mvals m12_1 (l_6, x_7, ())) gg1 (m12_1.map (·.1)) (mx12_1.map (·.1)) (mr12_1.map (·.1)) s12_1 =
  .br (Decidable.decide (x_7 < (↑qn0 : Int)))
    (.idx qa0 x_7 qn0 4 (fun a2 =>
      .load a2 (.int .i64) (fun x3 =>
        .load (a2.add 1) (.int .i64) (fun x4 =>
          .load (a2.add 2) (.int .i64) (fun x5 =>
            .load (a2.add 3) .sl (fun l6 =>
              .call 40 #[.agg #[.int .i64 x3, .int .i64 x4, .int .i64 x5, .slice l6.1 l6.2.1 l6.2.2]] (.tup [.leaf .str, .leaf .bool]) (fun r7 =>
                .br (!r7.snd.fst)
                  (.fin .ret [(2, .string (bytesL [])), (3, .int .i64 0), (4, .int .i64 0), (5, .int .i64 68)])
                  (.new (.cells #[.string r7.1] 9 (0, 0)) (fun n8 =>
                    .run (builtin .append #[103, 103] 103 #[false, false] #[.slice l_6.1 l_6.2.1 l_6.2.2, .slice (some ⟨n8, 0, none⟩) 1 1]) (.one (.leaf .sl)) (fun l9 =>
                      .fin .normal [(6, .slice l9.1 l9.2.1 l9.2.2), (7, .int .i64 (IntKind.i64.wrap (x_7 + 1)))]))))))))))
    (.fin (.exit 0) [(6, .slice l_6.1 l_6.2.1 l_6.2.2)]) := by kernel_rfl
abbrev fx12_11 (u10 : (Option Addr × Nat × Nat) × Unit) : List (Tmp × Value) := [(6, .slice u10.1.1 u10.1.2.1 u10.1.2.2)]
abbrev m12_11 : List (Tmp × Comp) := [(10, .leaf .sl), (11, .leaf (.int .i64))]
abbrev mx12_11 : List (Tmp × Comp) := [(10, .leaf .sl)]
abbrev mr12_11 : List (Tmp × Comp) := [(2, .leaf .str), (3, .leaf (.int .i64)), (4, .leaf (.int .i64)), (5, .leaf (.int .i64))]
abbrev fx12_12 (u10 : (Option Addr × Nat × Nat) × Unit) (l_10 : Option Addr × Nat × Nat) (x_11 : Int) (gg11 : Nat → Value) : List (Tmp × Value) := [(2, gg11 2), (3, gg11 3), (4, gg11 4), (5, gg11 5), (6, .slice u10.1.1 u10.1.2.1 u10.1.2.2), (10, .slice l_10.1 l_10.2.1 l_10.2.2), (11, .int .i64 x_11)]
abbrev m12_12 : List (Tmp × Comp) := [(12, .leaf (.int .i64))]
abbrev mx12_12 : List (Tmp × Comp) := [(12, .leaf (.int .i64))]
abbrev mr12_12 : List (Tmp × Comp) := []
def s12_12 : Script := .qt (.sym (.lit (.lit (.lit (.lit (.ix (.lit (.ld .str (.lit (.lit (.lit (.ix (.lit (.ld .str (.lit (.lit (.sym .nil .nil)))))))))))))))) (.lit (.lit (.lit (.lit (.lit (.lit (.lit (.lit (.lit (.lit (.lit (.lit .nil)))))))))))))
theorem t12_12 (u10 : (Option Addr × Nat × Nat) × Unit) (l_10 : Option Addr × Nat × Nat) (x_11 : Int) (gg11 : Nat → Value) (x_12 : Int) (gg12 : Nat → Value) : pieceT Tryz.prog (at_ Tryz.f12 [1, 1, 1, 1, 1, 0, 1, 0, 0, 1, 0, 1, 0, 0, 0]) 97 (fx12_12 u10 l_10 x_11 gg11 ++ mvals m12_12 (x_12, ())) gg12 (m12_12.map (·.1)) (mx12_12.map (·.1)) (mr12_12.map (·.1)) s12_12 =
  .drawn
    (.br (Decidable.decide (IntKind.i64.wrap (x_11 + x_12) < (↑u10.fst.snd.fst : Int)))
      (.idx u10.1.1 (IntKind.i64.wrap (x_11 + x_12)) u10.1.2.1 1 (fun a13 =>
        .load a13 .str (fun s14 =>
          .idx u10.1.1 x_11 u10.1.2.1 1 (fun a15 =>
            .load a15 .str (fun s16 =>
              .undrawn
                (.br (s14.toList == s16.toList)
                  (.fin .normal [(12, .int .i64 (IntKind.i64.wrap (x_12 + 1)))])
                  (.fin (.exit 4) [(12, .int .i64 x_12)])))))))
      (.undrawn
        (.fin (.exit 4) [(12, .int .i64 x_12)]))) := by kernel_rfl
abbrev fx12_22 (u10 : (Option Addr × Nat × Nat) × Unit) (x_11 : Int) (gg11 : Nat → Value) (u17 : Int × Unit) : List (Tmp × Value) := [(2, gg11 2), (3, gg11 3), (4, gg11 4), (5, gg11 5), (6, .slice u10.1.1 u10.1.2.1 u10.1.2.2), (11, .int .i64 x_11), (12, .int .i64 u17.1)]
abbrev m12_22 : List (Tmp × Comp) := [(10, .leaf .sl), (14, .leaf (.int .i64))]
abbrev mx12_22 : List (Tmp × Comp) := [(10, .leaf .sl)]
abbrev mr12_22 : List (Tmp × Comp) := []
def s12_22 : Script := .sym (.ix (.ld .str (.rn (.one (.leaf .sl)) .nil))) .nil
theorem t12_22 (u10 : (Option Addr × Nat × Nat) × Unit) (x_11 : Int) (gg11 : Nat → Value) (u17 : Int × Unit) (l_10 : Option Addr × Nat × Nat) (x_14 : Int) (gg22 : Nat → Value) : pieceT Tryz.prog (at_ Tryz.f12 [1, 1, 1, 1, 1, 0, 1, 0, 0, 1, 0, 1, 1, 0, 1, 1, 1, 0, 0]) 97 (fx12_22 u10 x_11 gg11 u17 ++ mvals m12_22 (l_10, x_14, ())) gg22 (m12_22.map (·.1)) (mx12_22.map (·.1)) (mr12_22.map (·.1)) s12_22 =
  .br (Decidable.decide (x_14 < u17.fst))
    (.idx u10.1.1 x_11 u10.1.2.1 1 (fun a23 =>
      .load a23 .str (fun s24 =>
        .run (builtin .append #[92, 9] 92 #[false, false] #[.slice l_10.1 l_10.2.1 l_10.2.2, .string s24]) (.one (.leaf .sl)) (fun l25 =>
          .fin .normal [(10, .slice l25.1 l25.2.1 l25.2.2), (14, .int .i64 (IntKind.i64.wrap (x_14 + 1)))]))))
    (.fin (.exit 6) [(10, .slice l_10.1 l_10.2.1 l_10.2.2)]) := by kernel_rfl
def s12_11 : Script := .sym (.lp 4 [2, 3, 4, 5, 6, 10, 11] [12] mx12_12 mr12_12 (.sym (.qt (.cl (.one (.leaf .str)) (.nd (.nd (.ix (.ld .str (.nd (.nd (.nop (.nop (.nop (.rn (.one (.leaf .sl)) (.sym .nil .nil))))))))))))) (.lp 6 [2, 3, 4, 5, 6, 11, 12] [10, 14] mx12_22 mr12_22 (.sym .nil .nil) .nil)) .nil) .nil
theorem t12_11 (u10 : (Option Addr × Nat × Nat) × Unit) (l_10 : Option Addr × Nat × Nat) (x_11 : Int) (gg11 : Nat → Value) : pieceT Tryz.prog (at_ Tryz.f12 [1, 1, 1, 1, 1, 0, 1, 0, 0]) 97 (fx12_11 u10 ++ mvals m12_11 (l_10, x_11, ())) gg11 (m12_11.map (·.1)) (mx12_11.map (·.1)) (mr12_11.map (·.1)) s12_11 =
  .br (Decidable.decide (x_11 < (↑u10.fst.snd.fst : Int)))
    (.loop (at_ Tryz.f12 [1, 1, 1, 1, 1, 0, 1, 0, 0, 1, 0, 1, 0, 0, 0]) 97 (fx12_12 u10 l_10 x_11 gg11) [(12, .int .i64 1)] mx12_12 mr12_12 4 (fun u17 g17 =>
      .br (Decidable.decide (u17.fst ≥ 3))
        (.drawn
          (.call 36 #[.int .i64 u17.1] (.one (.leaf .str)) (fun s18 =>
            .need (Decidable.decide ((bytesL [114, 101, 112, 101, 97, 116, 32]).size + s18.size ≤ 9223372036854775807))
              (.need (Decidable.decide ((bytesL [114, 101, 112, 101, 97, 116, 32] ++ s18).size + (bytesL [10]).size ≤ 9223372036854775807))
                (.idx u10.1.1 x_11 u10.1.2.1 1 (fun a19 =>
                  .load a19 .str (fun s20 =>
                    .need (Decidable.decide ((bytesL [114, 101, 112, 101, 97, 116, 32] ++ s18 ++ bytesL [10]).size + s20.size ≤ 9223372036854775807))
                      (.need (Decidable.decide ((bytesL [114, 101, 112, 101, 97, 116, 32] ++ s18 ++ bytesL [10] ++ s20).size + (bytesL [101, 110, 100, 10]).size ≤ 9223372036854775807))
                        (.undrawn
                          (.run (builtin .append #[92, 9] 92 #[false, false] #[.slice l_10.1 l_10.2.1 l_10.2.2, .string (bytesL [114, 101, 112, 101, 97, 116, 32] ++ s18 ++ bytesL [10] ++ s20 ++ bytesL [101, 110, 100, 10])]) (.one (.leaf .sl)) (fun l21 =>
                            .br (Decidable.decide ((↑l21.snd.fst : Int) > 8000))
                              (.fin .ret [(2, .string (bytesL [])), (3, .int .i64 0), (4, .int .i64 0), (5, .int .i64 68)])
                              (.fin .normal [(10, .slice l21.1 l21.2.1 l21.2.2), (11, .int .i64 (IntKind.i64.wrap (x_11 + u17.fst)))]))))))))))))
        (.loop (at_ Tryz.f12 [1, 1, 1, 1, 1, 0, 1, 0, 0, 1, 0, 1, 1, 0, 1, 1, 1, 0, 0]) 97 (fx12_22 u10 x_11 gg11 u17) [(10, .slice l_10.1 l_10.2.1 l_10.2.2), (14, .int .i64 0)] mx12_22 mr12_22 6 (fun u26 g26 =>
          .br (Decidable.decide ((↑u26.fst.snd.fst : Int) > 8000))
            (.fin .ret [(2, .string (bytesL [])), (3, .int .i64 0), (4, .int .i64 0), (5, .int .i64 68)])
            (.fin .normal [(10, .slice u26.1.1 u26.1.2.1 u26.1.2.2), (11, .int .i64 (IntKind.i64.wrap (x_11 + u17.fst)))])) (fun u27 g27 =>
          .stuck))) (fun u28 g28 =>
      .stuck))
    (.fin (.exit 2) [(10, .slice l_10.1 l_10.2.1 l_10.2.2)]) := by kernel_rfl
def s12 : Script := .sym .nil (.lp 0 [0] [6, 7] mx12_1 mr12_1 (.lp 2 [6] [10, 11] mx12_11 mr12_11 (.nop (.rn (.one (.leaf .str)) .nil)) .nil) .nil)
theorem t12 (qa0 : Option Addr) (qn0 : Nat) (qc0 : Nat) : fnT Tryz.prog Tryz.f12 #[.slice qa0 qn0 qc0] s12 =
  .br (Decidable.decide ((↑qn0 : Int) > 2000))
    (.done (.returned (.tuple #[.string (bytesL []), .int .i64 0, .int .i64 0, .int .i64 68])))
    (.loop (at_ Tryz.f12 [1, 1, 1, 0, 1, 0, 0]) 97 (fx12_1 qa0 qn0 qc0) [(6, .slice none 0 0), (7, .int .i64 0)] mx12_1 mr12_1 0 (fun u10 g10 =>
      .loop (at_ Tryz.f12 [1, 1, 1, 1, 1, 0, 1, 0, 0]) 97 (fx12_11 u10) [(10, .slice none 0 0), (11, .int .i64 0)] mx12_11 mr12_11 2 (fun u29 g29 =>
        .run (vNext (convert 92 9 (.slice u29.1.1 u29.1.2.1 u29.1.2.2))) (.one (.leaf .str)) (fun s30 =>
          .done (.returned (.tuple #[.string s30, .int .i64 0, .int .i64 0, .int .i64 0])))) (fun u31 g31 =>
        .done (.returned (.tuple #[.string u31.1, .int .i64 u31.2.1, .int .i64 u31.2.2.1, .int .i64 u31.2.2.2.1])))) (fun u32 g32 =>
      .done (.returned (.tuple #[.string u32.1, .int .i64 u32.2.1, .int .i64 u32.2.2.1, .int .i64 u32.2.2.2.1])))) := by kernel_rfl

abbrev tStrs : TypeId := 103
theorem infoStr : (Tryz.prog.info? tStr).map (fun i => (i.zero, i.size, i.bytes)) = some (some (.string (bytesL [])), 1, 16) := by kernel_rfl
theorem text_inj {o o' : OpM} {s : List UInt8} (h : stepText o = some s) (h' : stepText o' = some s) : o = o' := by
  unfold stepText at h h'
  cases hl : stepLineM o with
  | none => rw [hl] at h; cases h
  | some t =>
    cases hl' : stepLineM o' with
    | none => rw [hl'] at h'; cases h'
    | some t' =>
      rw [hl] at h
      rw [hl'] at h'
      simp only [Option.map_some, Option.some.injEq] at h h'
      have : t = t' := List.append_cancel_right (h.trans h'.symm)
      subst this
      exact line_inj hl hl'
theorem printR_none : ∀ (f : Nat) (l : List OpM), l.length ≤ f → ∀ o ∈ l, stepText o = none → printR l = none
  | 0, l, h, o, ho, hn => by
    have : l = [] := List.eq_nil_of_length_eq_zero (by omega)
    rw [this] at ho; cases ho
  | f + 1, [], h, o, ho, hn => by cases ho
  | f + 1, x :: l, h, o, ho, hn => by
    rw [printR_cons]
    cases hx : stepText x with
    | none => rfl
    | some s =>
      have hm : o ∈ l.drop (runLen (opEq x) l) := by
        rcases List.mem_cons.1 ho with rfl | ho
        · rw [hn] at hx; cases hx
        · rw [run_take (o := x) l] at ho
          rcases List.mem_append.1 ho with ho | ho
          · rw [(List.mem_replicate.1 ho).2] at hn
            rw [hn] at hx; cases hx
          · exact ho
      have := printR_none f (l.drop (runLen (opEq x) l)) (by rw [List.length_drop]; simp only [List.length_cons] at h; omega) o hm hn
      rw [this]; rfl
theorem printR_some : ∀ (f : Nat) (l : List OpM), l.length ≤ f → (∀ o ∈ l, stepText o ≠ none) → ∃ t, printR l = some t
  | 0, l, h, _ => by
    have : l = [] := List.eq_nil_of_length_eq_zero (by omega)
    subst this
    exact ⟨[], rfl⟩
  | f + 1, [], h, _ => ⟨[], rfl⟩
  | f + 1, x :: l, h, hs => by
    rw [printR_cons]
    cases hx : stepText x with
    | none => exact absurd hx (hs x (.head _))
    | some s =>
      obtain ⟨t, ht⟩ := printR_some f (l.drop (runLen (opEq x) l)) (by rw [List.length_drop]; simp only [List.length_cons] at h; omega) (fun o ho => hs o (.tail _ (List.mem_of_mem_drop ho)))
      rw [ht]
      exact ⟨_, rfl⟩
/-- The rows' texts that stand somewhere. -/
def AtR (w : World) (p : Option Addr) (n : Nat) (rs : List (List UInt8)) : Prop := rs.length = n ∧ (0 < n → ∃ g o, p = some ⟨g, o, none⟩ ∧ ∀ (j : Nat) (x : List UInt8), rs[j]? = some x → w.cell? ⟨g, o + j, none⟩ = some (.string (bytesL x)))
theorem AtR.no {w w' : World} {p : Option Addr} {n : Nat} {rs : List (List UInt8)} (h : AtR w p n rs) (hc : Ch No w w') : AtR w' p n rs := ⟨h.1, fun hn => by
  obtain ⟨g, o, e, hj⟩ := h.2 hn
  exact ⟨g, o, e, fun j u hu => hc.cellv (hj j u hu) (fun h => h)⟩⟩
def strCellsL (rs : List (List UInt8)) : List Value := rs.map fun s => .string (bytesL s)
def Texts (l : List OpM) (rs : List (List UInt8)) : Prop := rs.length = l.length ∧ ∀ (j : Nat) (o : OpM), l[j]? = some o → ∃ s, rs[j]? = some s ∧ stepText o = some s ∧ s.length ≤ 30000000
section
variable {R : Ending → World → Prop} {Q : Exit → List (Tmp × Value) → World → Prop} {w : World}
theorem rrun_loop {kx : MVars mx12_12 → (Nat → Value) → T} {kr : MVars mr12_12 → (Nat → Value) → T} (p : Option Addr) (n c : Nat) (l : List OpM) (rs : List (List UInt8)) (out : Option Addr × Nat × Nat) (i : Nat) (gg : Nat → Value) (o : OpM) (ho : l[i]? = some o) (ht : Texts l rs) (ha : AtR w p n rs) (hn : n ≤ 2000)
    (h : ∀ g w', Ch No w w' → wpT Tryz.prog R Q (kx (((runLen (opEq o) (l.drop (i + 1)) + 1 : Nat) : Int), ()) g) .pl w') :
    wpT Tryz.prog R Q (.loop (at_ Tryz.f12 [1, 1, 1, 1, 1, 0, 1, 0, 0, 1, 0, 1, 0, 0, 0]) 97 (fx12_12 ((p, n, c), ()) out (i : Int) gg) [(12, .int .i64 1)] mx12_12 mr12_12 4 kx kr) .pl w := by
  have hl := ha.1
  have hl2 := ht.1
  obtain ⟨hlt, _⟩ := List.getElem?_eq_some_iff.1 ho
  generalize hrun : runLen (opEq o) (l.drop (i + 1)) = rl at *
  refine loop_i mixed m12_12 s12_12 (by kernel_rfl) (by kernel_rfl)
    (fun (v : Int × Unit) w' => 1 ≤ v.1 ∧ i + v.1 ≤ n ∧ Ch No w w' ∧ rl = (v.1 - 1).toNat + runLen (opEq o) (l.drop (i + v.1.toNat))) (fun (v : Int × Unit) _ => n - v.1.toNat) (1, ()) rfl ⟨by simp, by dsimp only; omega, Ch.refl _ _, by rw [← hrun]; simp⟩ ?_
  rintro ⟨(k : Int), ⟨⟩⟩ g w3 ⟨(k0 : 1 ≤ k), (k1 : i + k ≤ n), h3, (hr : rl = (k - 1).toNat + runLen (opEq o) (l.drop (i + k.toNat)))⟩
  rw [t12_12]
  have e1 : IntKind.i64.wrap ((i : Int) + k) = ((i + k.toNat : Nat) : Int) := by rw [wrap_in (by omega) (by omega)]; omega
  rw [e1]
  have hd := (Ch.refl No w3).drew
  have h4 := h3.trans hd
  have A4 := ha.no h4
  refine dr_eq (br_both (fun e => ?_) fun e => ?_)
  · have hik : i + k.toNat < n := by have e : ((i + k.toNat : Nat) : Int) < (n : Int) := lt_t e; omega
    obtain ⟨x, hx⟩ : ∃ u, l[i + k.toNat]? = some u := ⟨_, List.getElem?_eq_getElem (by omega)⟩
    obtain ⟨hltx, hxe⟩ := List.getElem?_eq_some_iff.1 hx
    have hdr : l.drop (i + k.toNat) = x :: l.drop (i + k.toNat + 1) := by rw [List.drop_eq_getElem_cons hltx, hxe]
    rw [hdr] at hr
    obtain ⟨so, hso, hto, _⟩ := ht.2 _ _ ho
    obtain ⟨sx, hsx, htx, _⟩ := ht.2 _ _ hx
    obtain ⟨g1, o1, rfl, hc⟩ := A4.2 (by omega)
    refine ix_i (by omega) (by show ((i + k.toNat : Nat) : Int) < (n : Int); omega) ?_
    rw [addr_add, Int.toNat_natCast, Nat.mul_one]
    refine lq_str (hc _ _ hsx) (ix_i (by omega) (by show (i : Int) < (n : Int); omega) ?_)
    rw [addr_add, Int.toNat_natCast, Nat.mul_one]
    refine lq_str (hc _ _ hso) (un_eq ?_)
    rw [tb_list, tb_list]
    unfold runLen at hr
    refine br_both (fun e => ?_) fun e => ?_
    · have e : sx = so := eq_of_beq e
      subst e
      have hox : opEq o x = true := (opEq_iff o x).2 (text_inj hto htx)
      rw [if_pos hox] at hr
      refine ⟨(k + 1, ()), ?_, ⟨by dsimp only; omega, by dsimp only; omega, h4, ?_⟩, by dsimp only; omega⟩
      · rw [wrap_succ (by omega) (by omega)]; rfl
      · dsimp only
        rw [show (k + 1).toNat = k.toNat + 1 by omega, ← Nat.add_assoc, hr]
        omega
    · have hox : ¬ opEq o x = true := fun h => by
        have := (opEq_iff o x).1 h
        subst this
        rw [hto] at htx
        cases htx
        simp at e
      rw [if_neg hox] at hr
      refine ⟨rfl, (k, ()), rfl, fun g => ?_⟩
      have : k = ((rl + 1 : Nat) : Int) := by omega
      rw [this]
      exact h g _ h4
  · have hik : n ≤ i + k.toNat := by have e : (n : Int) ≤ ((i + k.toNat : Nat) : Int) := lt_f e; omega
    refine un_eq ?_
    rw [List.drop_of_length_le (by omega)] at hr
    unfold runLen at hr
    refine ⟨rfl, (k, ()), rfl, fun g => ?_⟩
    have : k = ((rl + 1 : Nat) : Int) := by omega
    rw [this]
    exact h g _ h4
set_option maxHeartbeats 1000000 in
theorem rapp_loop {kx : MVars mx12_22 → (Nat → Value) → T} {kr : MVars mr12_22 → (Nat → Value) → T} (p : Option Addr) (n c : Nat) (rs : List (List UInt8)) (i u base : Nat) (gg : Nat → Value) (s : List UInt8) (hs : rs[i]? = some s) (hsl : s.length ≤ 30000000) (hu : u ≤ 2) (ha : AtR w p n rs) (hn : n ≤ 2000)
    (q : Option Addr) (m d : Nat) (bs : List UInt8) (hr : RowB w base q m d bs) (hbs : bs.length ≤ 8000) (hbase : base ≤ w.heap.size) (hrow : ∀ g o, p = some ⟨g, o, none⟩ → ∃ cur, w.heap[g]? = some (.cells cur tStr (0, 0)))
    (h : ∀ q' m' d' g w', GrewB base w q m d w' q' m' d' (bs ++ (List.replicate u s).flatten) → wpT Tryz.prog R Q (kx ((q', m', d'), ()) g) .pl w') :
    wpT Tryz.prog R Q (.loop (at_ Tryz.f12 [1, 1, 1, 1, 1, 0, 1, 0, 0, 1, 0, 1, 1, 0, 1, 1, 1, 0, 0]) 97 (fx12_22 ((p, n, c), ()) (i : Int) gg ((u : Int), ())) [(10, .slice q m d), (14, .int .i64 0)] mx12_22 mr12_22 6 kx kr) .pl w := by
  have hl := ha.1
  obtain ⟨hlt, _⟩ := List.getElem?_eq_some_iff.1 hs
  obtain ⟨g1, o1, rfl, hc⟩ := ha.2 (by omega)
  have hblk : ∀ k, rowS q m d k → k ≠ g1 := fun k hk e => by
    subst e
    obtain ⟨cur, hcur⟩ := hrow _ _ rfl
    obtain ⟨cur', h'⟩ := Row.at hr hk
    rw [hcur] at h'
    simp only [Option.some.injEq, Obj.cells.injEq] at h'
    exact absurd h'.2.1 (by decide)
  have hgl : g1 < w.heap.size := by
    obtain ⟨cur, hcur⟩ := hrow _ _ rfl
    exact (Array.getElem?_eq_some_iff.1 hcur).1
  refine loop_i mixed m12_22 s12_22 (by kernel_rfl) (by kernel_rfl)
    (fun (v : (Option Addr × Nat × Nat) × Int × Unit) w' => 0 ≤ v.2.1 ∧ v.2.1 ≤ u ∧ GrewB base w q m d w' v.1.1 v.1.2.1 v.1.2.2 (bs ++ (List.replicate v.2.1.toNat s).flatten)) (fun (v : (Option Addr × Nat × Nat) × Int × Unit) _ => u - v.2.1.toNat) ((q, m, d), 0, ()) rfl ⟨by simp, by simp, by simpa [GrewB] using Grew.refl hr⟩ ?_
  rintro ⟨⟨q2, m2, d2⟩, (k : Int), ⟨⟩⟩ g w2 ⟨(k0 : 0 ≤ k), (k1 : k ≤ u), (G2 : GrewB base w q m d w2 q2 m2 d2 (bs ++ (List.replicate k.toNat s).flatten))⟩
  rw [t12_22]
  refine br_both (fun e => ?_) fun e => ?_
  · have e : k < (u : Int) := lt_t e
    refine ix_i (by omega) (by show (i : Int) < (n : Int); omega) ?_
    rw [addr_add, Int.toNat_natCast, Nat.mul_one]
    have hcell : w2.cell? ⟨g1, o1 + i, none⟩ = some (.string (bytesL s)) := G2.ch.cellv (hc _ _ hs) (fun hS => hblk _ hS rfl)
    have hlen : ((List.replicate k.toNat s).flatten).length = k.toNat * s.length := by simp
    have hml : m2 = bs.length + k.toNat * s.length := by
      have := RowB.len (show RowB w2 base q2 m2 d2 _ from G2.own)
      rw [List.length_append, hlen] at this
      omega
    have hmul : k.toNat * s.length ≤ 2 * 30000000 := Nat.mul_le_mul (by omega) hsl
    refine ld_str hcell (ap_s (bs := bs ++ (List.replicate k.toNat s).flatten) G2.own (by have := G2.ch.size; omega) (by rw [tb_size]; omega) fun q' d' w3 g3 => ?_)
    refine ⟨((q', m2 + (bytesL s).size, d'), k + 1, ()), ?_, ⟨by dsimp only; omega, by dsimp only; omega, ?_⟩, by dsimp only; omega⟩
    · rw [wrap_succ k0 (by omega)]; rfl
    · dsimp only
      have := G2.trans g3
      rw [tb_data, List.append_assoc] at this
      rw [show (k + 1).toNat = k.toNat + 1 by omega, List.replicate_succ', List.flatten_append]
      simpa [GrewB] using this
  · have e : (u : Int) ≤ k := lt_f e
    have : k = (u : Int) := by omega
    subst this
    exact ⟨rfl, ((q2, m2, d2), ()), rfl, fun g => h q2 m2 d2 g w2 (by simpa using G2)⟩
end
/-- What the document's PrintScript answers. -/
def RPrintRes (l : List OpM) (w : World) (e : Ending) (w' : World) : Prop := Ch No w w' ∧ match printSc l with
  | some t => e = .returned (.tuple #[.string (bytesL t), .int .i64 0, .int .i64 0, .int .i64 0])
  | none => e = .returned (.tuple #[.string (bytesL []), .int .i64 0, .int .i64 0, .int .i64 68])
set_option maxHeartbeats 1000000 in
theorem rprint_any (p : Option Addr) (n c : Nat) (l : List OpM) (w : World) (ha : AtOps w p n l) (hk : ∀ o ∈ l, o.keep.length ≤ 2000000) (G : Glob w) :
    Calls Tryz.prog 12 #[.slice p n c] w (RPrintRes l w) := by
  refine calls_of_fnT mixed Tryz.func12 (s := s12) ?_
  rw [t12]
  have hl := ha.1
  have hps : printSc l = if 2000 < l.length then none else match printR l with
    | none => none
    | some t => if 8000 < t.length then none else some t := rfl
  refine br_both (fun e => ?_) fun e => ?_
  · have e : (2000 : Int) < (n : Int) := gt_t e
    rw [if_pos (by omega)] at hps
    refine ⟨Ch.refl _ _, ?_⟩
    rw [hps]
  have e : (n : Int) ≤ (2000 : Int) := gt_f e
  have hn : n ≤ 2000 := by omega
  rw [if_neg (by omega)] at hps
  clear e
  generalize hB : w.heap.size = B at *
  refine loop_i mixed m12_1 s12_1 (by kernel_rfl) (by kernel_rfl)
    (fun (v : (Option Addr × Nat × Nat) × Int × Unit) w' => 0 ≤ v.2.1 ∧ v.2.1 ≤ n ∧ Ch No w w' ∧ ∃ rs, Row w' B tStr 1 v.1.1 v.1.2.1 v.1.2.2 (strCellsL rs) ∧ Texts (l.take v.2.1.toNat) rs) (fun (v : (Option Addr × Nat × Nat) × Int × Unit) _ => n - v.2.1.toNat) ((none, 0, 0), 0, ()) rfl ⟨by simp, by simp, Ch.refl _ _, [], Row.nil _ _ _ _, by simp, fun j o ho => by simp at ho⟩ ?_
  rintro ⟨⟨q, m, d⟩, (i : Int), ⟨⟩⟩ g w1 ⟨(i0 : 0 ≤ i), (i1 : i ≤ n), h1, rs, (row : Row w1 B tStr 1 q m d (strCellsL rs)), (ht : Texts (l.take i.toNat) rs)⟩
  rw [t12_1]
  have hrl : rs.length = m := by
    have := row.len
    simpa [strCellsL] using this
  have htl := ht.1
  rw [List.length_take] at htl
  refine br_both (fun e => ?_) fun e => ?_
  · have e : i < (n : Int) := lt_t e
    obtain ⟨o, ho⟩ : ∃ u, l[i.toNat]? = some u := ⟨_, List.getElem?_eq_getElem (by omega)⟩
    obtain ⟨g1, o1, rfl, hc⟩ := (ha.no h1).2 (by omega)
    obtain ⟨kp, kn, kc, a0, a1, a2, a3, a4⟩ := hc _ _ ho
    refine ix_i i0 (by show i < (n : Int); omega) ?_
    simp only [addr_add]
    have hmo : o ∈ l := List.mem_of_getElem? ho
    have hk1 : kn ≤ 2000000 := by have h1 := a0.1; have := hk o hmo; omega
    refine ld_int a1 (ld_int a2 (ld_int a3 (ld_sl a4 (cl_i (rwritten_any o kp kn kc w1 a0 hk1 (G.ch h1 (fun _ _ h => h))) ?_))))
    rintro e2 w2 ⟨h2, hr⟩
    cases hst : stepText o with
    | none =>
      rw [hst] at hr
      subst hr
      refine ⟨(bytesL [], false, ()), rfl, br_true rfl ⟨(bytesL [], 0, 0, 68, ()), rfl, fun g => ⟨h1.trans h2, ?_⟩⟩⟩
      rw [hps, printR_none l.length l (Nat.le_refl _) o hmo hst]
    | some s =>
      rw [hst] at hr
      obtain ⟨rfl, hsl⟩ := hr
      refine ⟨(bytesL s, true, ()), rfl, br_false rfl (nw fun w3 h3 z3 b3 => ?_)⟩
      have row3 := (row.no h2).no h3
      refine ap_blk (by kernel_rfl) infoStr rfl (by omega) row3 (by have := h1.size; have := h2.size; omega) b3 (by simp) (fun u hu => by simp at hu; subst hu; rfl) (by unfold maxLen; omega) (by omega) fun q' d' w4 g4 => ?_
      refine ⟨((q', m + 1, d'), i + 1, ()), ?_, ⟨by dsimp only; omega, by dsimp only; omega, ?_, rs ++ [s], ?_, ?_⟩, by dsimp only; omega⟩
      · rw [wrap_succ i0 (by omega)]; rfl
      · exact ((h1.trans h2).trans h3).then_ g4.ch (fun k hk hS => by have := (row3.lt hS).1; omega)
      · have := g4.own
        simpa [strCellsL] using this
      · dsimp only
        rw [show (i + 1).toNat = i.toNat + 1 by omega, List.take_add_one, ho]
        refine ⟨?_, fun j o' ho' => ?_⟩
        · simp [ht.1]
        · by_cases hj : j < (l.take i.toNat).length
          · rw [List.getElem?_append_left hj] at ho'
            obtain ⟨s', h1', h2'⟩ := ht.2 j o' ho'
            exact ⟨s', by rw [List.getElem?_append_left (by rw [ht.1]; exact hj)]; exact h1', h2'⟩
          · rw [List.getElem?_append_right (by omega)] at ho'
            have hj0 : j - (l.take i.toNat).length = 0 := by
              have := (List.getElem?_eq_some_iff.1 ho').1
              simp at this
              simp; omega
            rw [hj0] at ho'
            simp at ho'
            subst ho'
            refine ⟨s, ?_, hst, hsl⟩
            rw [List.getElem?_append_right (by rw [ht.1]; omega), ht.1, hj0]
            rfl
  · have e : (n : Int) ≤ i := lt_f e
    rw [List.take_of_length_le (by omega)] at ht
    clear e
    refine ⟨rfl, ((q, m, d), ()), rfl, fun g => ?_⟩
    have hmn : m = n := by have := ht.1; omega
    subst hmn
    have hsome : ∀ o ∈ l, stepText o ≠ none := fun o ho h => by
      obtain ⟨j, hj⟩ := List.getElem?_of_mem ho
      obtain ⟨s, _, hs, _⟩ := ht.2 j o hj
      rw [h] at hs; cases hs
    have AR : AtR w1 q m rs := by
      refine ⟨hrl, fun h0 => ?_⟩
      obtain ⟨gb, hq, _, hc⟩ := row.get h0
      refine ⟨gb, 0, hq, fun j x hx => ?_⟩
      rw [Nat.zero_add]
      exact hc _ _ (by simp [strCellsL, hx])
    have hrowt : ∀ g o, q = some ⟨g, o, none⟩ → 0 < m → ∃ cur, w1.heap[g]? = some (.cells cur tStr (0, 0)) := fun g o hq h0 => by
      obtain ⟨gb, hq', hS, _⟩ := row.get h0
      rw [hq'] at hq
      cases hq
      exact row.at hS
    generalize hB1 : w1.heap.size = B1 at *
    have hBB : B ≤ B1 := by have := h1.size; omega
    refine loop_i mixed m12_11 s12_11 (by kernel_rfl) (by kernel_rfl)
      (fun (v : (Option Addr × Nat × Nat) × Int × Unit) w' => ∃ j bs, v.2.1 = ((j : Nat) : Int) ∧ j ≤ m ∧ Ch No w1 w' ∧ RowB w' B1 v.1.1 v.1.2.1 v.1.2.2 bs ∧ bs.length ≤ 8000 ∧ printR l = (printR (l.drop j)).map (bs ++ ·)) (fun (v : (Option Addr × Nat × Nat) × Int × Unit) _ => m - v.2.1.toNat) ((none, 0, 0), 0, ()) rfl ⟨0, [], rfl, by omega, Ch.refl _ _, Row.nil _ _ _ _, by simp, by simp⟩ ?_
    rintro ⟨⟨q2, m2, d2⟩, (iv : Int), ⟨⟩⟩ g2 w2 ⟨j, bs, (hi : iv = _), hjm, h2, (rb : RowB w2 B1 q2 m2 d2 bs), hbs, hp⟩
    subst hi
    rw [t12_11]
    have hbl := rb.len
    refine br_both (fun e => ?_) fun e => ?_
    · have hjn : j < m := by have e : (j : Int) < (m : Int) := lt_t e; omega
      clear e
      obtain ⟨o, ho⟩ : ∃ u, l[j]? = some u := ⟨_, List.getElem?_eq_getElem (by omega)⟩
      obtain ⟨hlt, hoe⟩ := List.getElem?_eq_some_iff.1 ho
      have hdr : l.drop j = o :: l.drop (j + 1) := by rw [List.drop_eq_getElem_cons hlt, hoe]
      rw [hdr, printR_cons] at hp
      obtain ⟨s, hs, hst, hsl⟩ := ht.2 _ _ ho
      generalize hrun : runLen (opEq o) (l.drop (j + 1)) = rl at *
      have hrlm : rl + j + 1 ≤ m := by
        have := runLen_le (opEq o) (l.drop (j + 1))
        rw [hrun, List.length_drop] at this; omega
      rw [hst] at hp
      dsimp only at hp
      rw [List.drop_drop] at hp
      refine rrun_loop q m d l rs _ j _ o ho ht (AR.no h2) hn fun g3 w3 h3 => ?_
      rw [hrun]
      have h13 := h2.trans h3
      have rb3 : RowB w3 B1 q2 m2 d2 bs := Row.no rb h3
      have AR3 := AR.no h13
      have hB3 : B1 ≤ w3.heap.size := by have := h13.size; omega
      have G3 := G.ch (h1.trans h13) (fun _ _ h => h)
      have hrt := runText_len (rl + 1) s hsl (by omega)
      -- what is written, and what follows
      have fin : ∀ {q' m' d' w4}, Ch No w1 w4 → RowB w4 B1 q' m' d' (bs ++ runText (rl + 1) s) →
          (8000 < m' → RPrintRes l w (.returned (.tuple #[.string (bytesL []), .int .i64 0, .int .i64 0, .int .i64 68])) w4) ∧
          (m' ≤ 8000 → ∃ v' : MVars m12_11, [((10 : Nat), Value.slice q' m' d'), (11, .int .i64 (IntKind.i64.wrap ((j : Int) + ((rl + 1 : Nat) : Int))))] = mvals m12_11 v' ∧ (∃ j bs, v'.2.1 = ((j : Nat) : Int) ∧ j ≤ m ∧ Ch No w1 w4 ∧ RowB w4 B1 v'.1.1 v'.1.2.1 v'.1.2.2 bs ∧ bs.length ≤ 8000 ∧ printR l = (printR (l.drop j)).map (bs ++ ·)) ∧ m - v'.2.1.toNat < m - j) := by
        intro q' m' d' w4 h14 rb4
        have hml := rb4.len
        obtain ⟨t, htt⟩ := printR_some _ (l.drop (j + 1 + rl)) (Nat.le_refl _) (fun o ho => hsome o (List.mem_of_mem_drop ho))
        refine ⟨fun hbig => ⟨h1.trans h14, ?_⟩, fun hle => ⟨((q', m', d'), ((j + 1 + rl : Nat) : Int), ()), ?_, ⟨j + 1 + rl, bs ++ runText (rl + 1) s, rfl, by omega, h14, rb4, by omega, ?_⟩, by dsimp only; omega⟩⟩
        · rw [hps, hp, htt]
          dsimp only [Option.map_some]
          rw [if_pos (by rw [← List.append_assoc, List.length_append]; omega)]
        · rw [wrap_in (by omega) (by omega), show (j : Int) + ((rl + 1 : Nat) : Int) = ((j + 1 + rl : Nat) : Int) by omega]
          rfl
        · rw [hp, htt]
          simp
      refine br_both (fun e3 => ?_) fun e3 => ?_
      · have e3 : 3 ≤ rl + 1 := by
          have e3 : (3 : Int) ≤ ((rl + 1 : Nat) : Int) := ge_t e3
          omega
        obtain ⟨g5, o5, rfl, hc5⟩ := AR3.2 (by omega)
        refine ⟨fun w' => Ch No w3 w', (Ch.refl No w3).drew, ⟨_, fun w' hw => (itoa_any ((rl + 1 : Nat) : Int) (by omega) (by omega) w' (G3.ch hw (fun _ _ h => h))).mono fun e w2 h => ⟨h.1, hw.trans h.2⟩, ?_⟩⟩
        have hil := itoa_len (n := ((rl + 1 : Nat) : Int)) ⟨by omega, by omega⟩
        simp only [ByteArray.size_append, tb_size, List.length_cons, List.length_nil]
        refine nd_i (decide_eq_true (by omega)) (nd_i (decide_eq_true (by omega)) (ix_i (by omega) (by show (j : Int) < (m : Int); omega) ?_))
        rw [addr_add, Int.toNat_natCast, Nat.mul_one]
        refine ⟨bytesL s, fun w' hw => hw.cellv (hc5 _ _ hs) (fun h => h), ?_⟩
        simp only [ByteArray.size_append, tb_size, List.length_cons, List.length_nil]
        refine nd_i (decide_eq_true (by omega)) (nd_i (decide_eq_true (by omega)) fun w4 h4 => ?_)
        refine ap_s (bs := bs) (Row.no rb3 h4) (by have := h4.size; omega) (by simp only [ByteArray.size_append, tb_size, List.length_cons, List.length_nil]; omega) fun q' d' w5 g5 => ?_
        have h15 : Ch No w1 w5 := (h13.trans h4).then_ g5.ch (fun k hk hS => by have := (Row.lt rb3 hS).1; omega)
        have e5 : [114, 101, 112, 101, 97, 116, 32] ++ Lib.itoa ((rl + 1 : Nat) : Int) ++ [10] ++ s ++ [101, 110, 100, 10] = runText (rl + 1) s := by
          unfold runText
          rw [if_pos e3]
          simp [wRepeat, wEnd]
        have hrb5 := g5.own
        simp only [ba_app, tb_data] at hrb5
        rw [e5] at hrb5
        obtain ⟨f1, f2⟩ := fin h15 hrb5
        refine br_both (fun e => ?_) fun e => ?_
        · have e := gt_t e
          refine ⟨(bytesL [], 0, 0, 68, ()), rfl, fun g => ?_⟩
          exact f1 (by dsimp only at e; omega)
        · have e := gt_f e
          exact f2 (by dsimp only at e; omega)
      · have e3 : rl + 1 < 3 := by
          have e3 : ((rl + 1 : Nat) : Int) < (3 : Int) := ge_f e3
          omega
        refine rapp_loop q m d rs j (rl + 1) B1 _ s hs hsl (by omega) AR3 hn q2 m2 d2 bs rb3 hbs hB3 (fun g o hq => ?_) fun q' m' d' g w4 g4 => ?_
        · obtain ⟨cur, hcur⟩ := hrowt g o hq (by omega)
          refine ⟨cur, ?_⟩
          rw [h13.block g (Array.getElem?_eq_some_iff.1 hcur).1 (fun h => h)]
          exact hcur
        · have h14 : Ch No w1 w4 := h13.then_ g4.ch (fun k hk hS => by have := (Row.lt rb3 hS).1; omega)
          have hrb4 : RowB w4 B1 q' m' d' (bs ++ runText (rl + 1) s) := by
            unfold runText
            rw [if_neg (by omega)]
            exact g4.own
          obtain ⟨f1, f2⟩ := fin h14 hrb4
          refine br_both (fun e => ?_) fun e => ?_
          · have e : (8000 : Int) < (m' : Int) := gt_t e
            refine ⟨(bytesL [], 0, 0, 68, ()), rfl, fun g => ?_⟩
            exact f1 (by omega)
          · have e : (m' : Int) ≤ (8000 : Int) := gt_f e
            exact f2 (by omega)
    · have hjn : m ≤ j := by have e : (m : Int) ≤ (j : Int) := lt_f e; omega
      rw [List.drop_of_length_le (by omega)] at hp
      have hp : printR l = some bs := by rw [hp]; simp [printR, printOps]
      refine ⟨rfl, ((q2, m2, d2), ()), rfl, fun g => cv_b rb.at ⟨h1.trans h2, ?_⟩⟩
      rw [hps, hp]
      dsimp only
      rw [if_neg (by omega)]
end Go.Proofs.YtjlmkahagcojcaaGreatDoor
