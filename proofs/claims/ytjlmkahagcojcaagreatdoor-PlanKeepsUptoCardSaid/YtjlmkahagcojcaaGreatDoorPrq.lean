/- PrintScript: the walk. -/
import Derived.Test.YtjlmkahagcojcaaGreatDoorPrp
import Derived.Lib.Repeat
namespace Go.Proofs.YtjlmkahagcojcaaGreatDoor
open Go Tr
set_option maxRecDepth 100000
/-! the tree of function 33 -/
def s33 : Script := .ld (.int .i64) (.ld (.int .i64) (.sym (.lit (.ld (.int .i64) (.lit (.lit (.ld (.int .i64) (.lit (.lit (.sym (.lit (.ld (.int .i64) (.lit (.lit (.ld (.int .i64) (.lit (.lit (.sym (.lit (.ld .sl (.lit (.lit (.ld .sl (.lit (.cl (.one (.leaf .bool)) (.lit .nil)))))))) (.lit (.lit (.lit (.lit (.lit .nil))))))))))))) (.lit (.lit (.lit (.lit (.lit (.lit (.lit (.lit (.lit (.lit (.lit .nil))))))))))))))))))) (.lit (.lit (.lit (.lit (.lit (.lit (.lit (.lit (.lit (.lit (.lit (.lit (.lit (.lit (.lit (.lit (.lit .nil)))))))))))))))))))
theorem t33 (qx0_0 : Int) (qx0_1 : Int) (qx0_2 : Int) (qa0_3 : Option Addr) (qn0_3 : Nat) (qc0_3 : Nat) (qx1_0 : Int) (qx1_1 : Int) (qx1_2 : Int) (qa1_3 : Option Addr) (qn1_3 : Nat) (qc1_3 : Nat) : fnT Tryz.prog Tryz.f33 #[.agg #[.int .i64 qx0_0, .int .i64 qx0_1, .int .i64 qx0_2, .slice qa0_3 qn0_3 qc0_3], .agg #[.int .i64 qx1_0, .int .i64 qx1_1, .int .i64 qx1_2, .slice qa1_3 qn1_3 qc1_3]] s33 =
  .new (.cells #[.int .i64 qx0_0, .int .i64 qx0_1, .int .i64 qx0_2, .slice qa0_3 qn0_3 qc0_3] 38 (0, 0)) (fun n1 =>
    .new (.cells #[.int .i64 qx1_0, .int .i64 qx1_1, .int .i64 qx1_2, .slice qa1_3 qn1_3 qc1_3] 38 (0, 0)) (fun n2 =>
      .load ⟨n1, 0, none⟩ (.int .i64) (fun x3 =>
        .load ⟨n2, 0, none⟩ (.int .i64) (fun x4 =>
          .br (x3 == x4)
            (.load ⟨n1, 1, none⟩ (.int .i64) (fun x5 =>
              .load ⟨n2, 1, none⟩ (.int .i64) (fun x6 =>
                .br (x5 == x6)
                  (.load ⟨n1, 2, none⟩ (.int .i64) (fun x7 =>
                    .load ⟨n2, 2, none⟩ (.int .i64) (fun x8 =>
                      .br (x7 == x8)
                        (.load ⟨n1, 3, none⟩ .sl (fun l9 =>
                          .load ⟨n2, 3, none⟩ .sl (fun l10 =>
                            .call 67 #[.slice l9.1 l9.2.1 l9.2.2, .slice l10.1 l10.2.1 l10.2.2] (.one (.leaf .bool)) (fun b11 =>
                              .done (.returned (.bool b11))))))
                        (.done (.returned (.bool false))))))
                  (.done (.returned (.bool false))))))
            (.done (.returned (.bool false))))))) := by kernel_rfl
/-! the tree of function 11 -/
abbrev fx11_3 (qa0 : Option Addr) (qn0 : Nat) (qc0 : Nat) (n2 : Nat) : List (Tmp × Value) := [(0, .slice qa0 qn0 qc0), (4, .pointer (some ⟨n2, 0, none⟩))]
abbrev m11_3 : List (Tmp × Comp) := [(5, .leaf (.int .i64))]
abbrev mx11_3 : List (Tmp × Comp) := []
abbrev mr11_3 : List (Tmp × Comp) := [(2, .leaf .str), (3, .leaf .any)]
abbrev fx11_4 (qa0 : Option Addr) (qn0 : Nat) (qc0 : Nat) (n2 : Nat) (x_5 : Int) (gg3 : Nat → Value) : List (Tmp × Value) := [(0, .slice qa0 qn0 qc0), (2, gg3 2), (3, gg3 3), (4, .pointer (some ⟨n2, 0, none⟩)), (5, .int .i64 x_5)]
abbrev m11_4 : List (Tmp × Comp) := [(6, .leaf (.int .i64))]
abbrev mx11_4 : List (Tmp × Comp) := [(6, .leaf (.int .i64))]
abbrev mr11_4 : List (Tmp × Comp) := []
def s11_4 : Script := .qt (.sym (.lit (.lit (.ix (.lit (.ld (.int .i64) (.ld (.int .i64) (.ld (.int .i64) (.ld .sl (.lit (.lit (.lit (.lit (.lit (.ix (.lit (.ld (.int .i64) (.ld (.int .i64) (.ld (.int .i64) (.ld .sl (.lit (.cl (.one (.leaf .bool)) (.lit (.sym .nil .nil))))))))))))))))))))))) (.lit (.lit (.lit (.lit (.lit (.lit (.lit (.lit (.lit (.lit (.lit (.lit .nil)))))))))))))
theorem t11_4 (qa0 : Option Addr) (qn0 : Nat) (qc0 : Nat) (n2 : Nat) (x_5 : Int) (gg3 : Nat → Value) (x_6 : Int) (gg4 : Nat → Value) : pieceT Tryz.prog (at_ Tryz.f11 [1, 1, 1, 0, 1, 0, 0, 1, 0, 1, 0, 0, 0]) 70 (fx11_4 qa0 qn0 qc0 n2 x_5 gg3 ++ mvals m11_4 (x_6, ())) gg4 (m11_4.map (·.1)) (mx11_4.map (·.1)) (mr11_4.map (·.1)) s11_4 =
  .drawn
    (.br (Decidable.decide (IntKind.i64.wrap (x_5 + x_6) < (↑qn0 : Int)))
      (.idx qa0 x_5 qn0 4 (fun a5 =>
        .load a5 (.int .i64) (fun x6 =>
          .load (a5.add 1) (.int .i64) (fun x7 =>
            .load (a5.add 2) (.int .i64) (fun x8 =>
              .load (a5.add 3) .sl (fun l9 =>
                .idx qa0 (IntKind.i64.wrap (x_5 + x_6)) qn0 4 (fun a10 =>
                  .load a10 (.int .i64) (fun x11 =>
                    .load (a10.add 1) (.int .i64) (fun x12 =>
                      .load (a10.add 2) (.int .i64) (fun x13 =>
                        .load (a10.add 3) .sl (fun l14 =>
                          .call 33 #[.agg #[.int .i64 x6, .int .i64 x7, .int .i64 x8, .slice l9.1 l9.2.1 l9.2.2], .agg #[.int .i64 x11, .int .i64 x12, .int .i64 x13, .slice l14.1 l14.2.1 l14.2.2]] (.one (.leaf .bool)) (fun b15 =>
                            .undrawn
                              (.br b15
                                (.fin .normal [(6, .int .i64 (IntKind.i64.wrap (x_6 + 1)))])
                                (.fin (.exit 2) [(6, .int .i64 x_6)]))))))))))))))
      (.undrawn
        (.fin (.exit 2) [(6, .int .i64 x_6)]))) := by kernel_rfl
def s11_3 : Script := .sym (.lp 2 [0, 2, 3, 4, 5] [6] mx11_4 mr11_4 (.ix (.ld (.int .i64) (.ld (.int .i64) (.ld (.int .i64) (.ld .sl (.cl (.tup [.leaf .str, .leaf .bool]) (.sym (.cl (.one (.leaf .any)) .nil) (.sym (.cl (.one (.leaf .str)) (.nd (.nd (.nd (.nd (.cl (.tup [.leaf (.int .i64), .leaf .any]) .nil)))))) (.cl (.one (.leaf .str)) (.cl (.tup [.leaf (.int .i64), .leaf .any]) .nil)))))))))) .nil) .nil
theorem t11_3 (qa0 : Option Addr) (qn0 : Nat) (qc0 : Nat) (n2 : Nat) (x_5 : Int) (gg3 : Nat → Value) : pieceT Tryz.prog (at_ Tryz.f11 [1, 1, 1, 0, 1, 0, 0]) 70 (fx11_3 qa0 qn0 qc0 n2 ++ mvals m11_3 (x_5, ())) gg3 (m11_3.map (·.1)) (mx11_3.map (·.1)) (mr11_3.map (·.1)) s11_3 =
  .br (Decidable.decide (x_5 < (↑qn0 : Int)))
    (.loop (at_ Tryz.f11 [1, 1, 1, 0, 1, 0, 0, 1, 0, 1, 0, 0, 0]) 70 (fx11_4 qa0 qn0 qc0 n2 x_5 gg3) [(6, .int .i64 1)] mx11_4 mr11_4 2 (fun u16 g16 =>
      .idx qa0 x_5 qn0 4 (fun a17 =>
        .load a17 (.int .i64) (fun x18 =>
          .load (a17.add 1) (.int .i64) (fun x19 =>
            .load (a17.add 2) (.int .i64) (fun x20 =>
              .load (a17.add 3) .sl (fun l21 =>
                .call 34 #[.agg #[.int .i64 x18, .int .i64 x19, .int .i64 x20, .slice l21.1 l21.2.1 l21.2.2]] (.tup [.leaf .str, .leaf .bool]) (fun r22 =>
                  .br (!r22.snd.fst)
                    (.call 32 #[] (.one (.leaf .any)) (fun v23 =>
                      .fin .ret [(2, .string (bytesL [])), (3, v23)]))
                    (.br (Decidable.decide (u16.fst ≥ 3))
                      (.call 36 #[.int .i64 u16.1] (.one (.leaf .str)) (fun s24 =>
                        .need (Decidable.decide ((bytesL [114, 101, 112, 101, 97, 116, 32]).size + s24.size ≤ 9223372036854775807))
                          (.need (Decidable.decide ((bytesL [114, 101, 112, 101, 97, 116, 32] ++ s24).size + (bytesL [10]).size ≤ 9223372036854775807))
                            (.need (Decidable.decide ((bytesL [114, 101, 112, 101, 97, 116, 32] ++ s24 ++ bytesL [10]).size + r22.fst.size ≤ 9223372036854775807))
                              (.need (Decidable.decide ((bytesL [114, 101, 112, 101, 97, 116, 32] ++ s24 ++ bytesL [10] ++ r22.fst).size + (bytesL [101, 110, 100, 10]).size ≤ 9223372036854775807))
                                (.call 35 #[.pointer (some ⟨n2, 0, none⟩), .string (bytesL [114, 101, 112, 101, 97, 116, 32] ++ s24 ++ bytesL [10] ++ r22.fst ++ bytesL [101, 110, 100, 10])] (.tup [.leaf (.int .i64), .leaf .any]) (fun r25 =>
                                  .fin .normal [(5, .int .i64 (IntKind.i64.wrap (x_5 + u16.fst)))])))))))
                      (.call 37 #[.string r22.1, .int .i64 u16.1] (.one (.leaf .str)) (fun s26 =>
                        .call 35 #[.pointer (some ⟨n2, 0, none⟩), .string s26] (.tup [.leaf (.int .i64), .leaf .any]) (fun r27 =>
                          .fin .normal [(5, .int .i64 (IntKind.i64.wrap (x_5 + u16.fst)))]))))))))))) (fun u28 g28 =>
      .stuck))
    (.fin (.exit 0) []) := by kernel_rfl
def s11 : Script := .sym (.cl (.one (.leaf .any)) .nil) (.lp 0 [0, 4] [5] mx11_3 mr11_3 (.cl (.one (.leaf (.int .i64))) (.sym (.cl (.one (.leaf .any)) .nil) (.cl (.one (.leaf .str)) .nil))) .nil)
theorem t11 (qa0 : Option Addr) (qn0 : Nat) (qc0 : Nat) : fnT Tryz.prog Tryz.f11 #[.slice qa0 qn0 qc0] s11 =
  .br (Decidable.decide ((↑qn0 : Int) > 2000))
    (.call 32 #[] (.one (.leaf .any)) (fun v1 =>
      .done (.returned (.tuple #[.string (bytesL []), v1]))))
    (.new (.cells #[.pointer none, .slice none 0 0] 94 (0, 0)) (fun n2 =>
      .loop (at_ Tryz.f11 [1, 1, 1, 0, 1, 0, 0]) 70 (fx11_3 qa0 qn0 qc0 n2) [(5, .int .i64 0)] mx11_3 mr11_3 0 (fun u29 g29 =>
        .call 38 #[.pointer (some ⟨n2, 0, none⟩)] (.one (.leaf (.int .i64))) (fun x30 =>
          .br (Decidable.decide (x30 > 8000))
            (.call 32 #[] (.one (.leaf .any)) (fun v31 =>
              .done (.returned (.tuple #[.string (bytesL []), v31]))))
            (.call 39 #[.pointer (some ⟨n2, 0, none⟩)] (.one (.leaf .str)) (fun s32 =>
              .done (.returned (.tuple #[.string s32, .nilIface])))))) (fun u33 g33 =>
        .done (.returned (.tuple #[.string u33.1, u33.snd.1]))))) := by kernel_rfl

theorem beq_list (l m : List Int) : (l == m) = decide (l = m) := by
  by_cases h : l = m
  · subst h; simp
  · rw [decide_eq_false h]; simpa using h
theorem equal_any (p q : Option Addr) (n c m d : Nat) (l k : List Int) (w : World) (ha : AtI w p n l) (hb : AtI w q m k) (hn : n ≤ 2000000) (hm : m ≤ 2000000) :
    Calls Tryz.prog 67 #[.slice p n c, .slice q m d] w fun e w' => e = .returned (.bool (l == k)) ∧ Ch No w w' := by
  have hl := ha.1
  have hk := hb.1
  rw [beq_list]
  by_cases hnm : n = m
  · subst hnm
    rcases Nat.eq_zero_or_pos n with h0 | h0
    · subst h0
      refine (Tryz.slices_Equal_int_empty p q c 0 d w (by omega)).mono ?_
      rintro e w' ⟨rfl, rfl⟩
      have h1 : l = [] := List.eq_nil_of_length_eq_zero hl
      have h2 : k = [] := List.eq_nil_of_length_eq_zero hk
      subst h1 h2
      exact ⟨rfl, Ch.refl _ _⟩
    · obtain ⟨g1, o1, rfl, hc1⟩ := ha.2 h0
      obtain ⟨g2, o2, rfl, hc2⟩ := hb.2 h0
      refine (Tryz.slices_Equal_int g1 o1 n c g2 o2 n d l k w (by omega) (by omega) (by omega) (by omega) (fun j hj => hc1 j _ ?_) (fun j hj => hc2 j _ ?_)).mono ?_
      · simp [List.getD, List.getElem?_eq_getElem hj]
      · simp [List.getD, List.getElem?_eq_getElem hj]
      · rintro e w' ⟨rfl, q, rfl⟩
        rw [List.take_of_length_le (by omega), List.take_of_length_le (by omega), beq_list]
        exact ⟨rfl, ⟨rfl, rfl, rfl, Nat.le_refl _, fun _ _ _ => rfl⟩⟩
  · refine (Tryz.slices_Equal_int_lens p q n c m d w hnm).mono ?_
    rintro e w' ⟨rfl, rfl⟩
    rw [decide_eq_false (fun h => hnm (by rw [← hl, ← hk, h]))]
    exact ⟨rfl, Ch.refl _ _⟩
theorem alike_any (o o' : OpM) (p q : Option Addr) (n c m d : Nat) (w : World) (ha : AtI w p n o.keep) (hb : AtI w q m o'.keep) (hn : n ≤ 2000000) (hm : m ≤ 2000000) :
    Calls Tryz.prog 33 #[opVal o.kind o.a o.b p n c, opVal o'.kind o'.a o'.b q m d] w fun e w' => e = .returned (.bool (opEq o o')) ∧ Ch No w w' := by
  unfold opVal
  refine calls_of_fnT mixed Tryz.func33 (s := s33) ?_
  rw [t33]
  unfold opEq
  refine nw fun w1 h1 z1 b1 => nw fun w2 h2 z2 b2 => ?_
  have c1 := b1.ch h2 (fun h => h)
  have H2 := h1.trans h2
  refine ld_int (c1.cell 0) (ld_int (b2.cell 0) (br_both (fun e => ?_) fun e => ⟨?_, H2⟩))
  · have e : (o.kind == o'.kind) = true := e
    rw [e]
    refine ld_int (c1.cell 1) (ld_int (b2.cell 1) (br_both (fun e => ?_) fun e => ⟨?_, H2⟩))
    · have e : (o.a == o'.a) = true := e
      rw [e]
      refine ld_int (c1.cell 2) (ld_int (b2.cell 2) (br_both (fun e => ?_) fun e => ⟨?_, H2⟩))
      · have e : (o.b == o'.b) = true := e
        rw [e]
        refine ld_sl (c1.cell 3) (ld_sl (b2.cell 3) (cl_i (equal_any p q n c m d _ _ w2 (ha.no H2) (hb.no H2) hn hm) ?_))
        rintro e w3 ⟨rfl, h3⟩
        exact ⟨_, rfl, by simp, H2.trans h3⟩
      · have e : (o.b == o'.b) = false := e
        rw [e]; simp
    · have e : (o.a == o'.a) = false := e
      rw [e]; simp
  · have e : (o.kind == o'.kind) = false := e
    rw [e]; simp
theorem Bld.lib {base b : Nat} {w : World} {p : Option Addr} {n c : Nat} {bs : List UInt8} (h : Bld base w b p n c bs) : Lib.IsBuilder tBd tByte base b (Lib.byteCells bs) w := by
  obtain ⟨a, ha, hb⟩ := h.blk
  have hl : (Lib.byteCells bs).length = n := by rw [Lib.byteCells_length]; exact h.len
  have key : ∀ v, Blk w b [v, .slice p n c] tBd → Lib.BuilderAt tBd tByte base b v (Lib.byteCells bs) w := fun v hv => by
    refine ⟨h.lo, .slice p n c, hv, ?_, ?_⟩
    · rw [hl]; exact h.row
    · intro e
      exact h.row.ne hb (by decide) e
  rcases ha with rfl | rfl
  · exact .inl (key _ hb)
  · exact .inr (key _ hb)
theorem repeat_is (l : List UInt8) : ∀ c, Lib.repeatL l c = (List.replicate c l).flatten
  | 0 => rfl
  | c + 1 => by rw [Lib.repeatL, repeat_is l c, List.replicate_succ, List.flatten_cons]
theorem print_fuel : ∀ (f g : Nat) (l : List OpM), l.length ≤ f → l.length ≤ g → printOps f l = printOps g l
  | 0, 0, l, _, _ => rfl
  | 0, g + 1, l, h, _ => by
    have : l = [] := List.eq_nil_of_length_eq_zero (by omega)
    subst this; rfl
  | f + 1, 0, l, _, h => by
    have : l = [] := List.eq_nil_of_length_eq_zero (by omega)
    subst this; rfl
  | f + 1, g + 1, [], _, _ => rfl
  | f + 1, g + 1, o :: l, h1, h2 => by
    unfold printOps
    have := runLen_le (opEq o) l
    simp only [List.length_cons] at h1 h2
    rw [print_fuel f g (l.drop (runLen (opEq o) l)) (by rw [List.length_drop]; omega) (by rw [List.length_drop]; omega)]
def printR (l : List OpM) : Option (List UInt8) := printOps l.length l
theorem printR_cons (o : OpM) (l : List OpM) : printR (o :: l) = match stepText o with
    | none => none
    | some s => (printR (l.drop (runLen (opEq o) l))).map (runText (runLen (opEq o) l + 1) s ++ ·) := by
  unfold printR
  show printOps (l.length + 1) (o :: l) = _
  rw [printOps]
  have := runLen_le (opEq o) l
  rw [print_fuel l.length (l.drop (runLen (opEq o) l)).length _ (by rw [List.length_drop]; omega) (Nat.le_refl _)]
  cases stepText o with
  | none => rfl
  | some s =>
    dsimp only
    cases printOps (l.drop (runLen (opEq o) l)).length (l.drop (runLen (opEq o) l)) <;> rfl
theorem runText_len (n : Nat) (s : List UInt8) (hs : s.length ≤ 30000000) (hn : n ≤ 2000) : (runText n s).length ≤ n * 40000000 ∨ n = 0 := by
  unfold runText
  split
  · left
    have := itoa_len (n := (n : Int)) ⟨by omega, by omega⟩
    have h6 : wRepeat.length = 6 := rfl
    have h3 : wEnd.length = 3 := rfl
    simp only [List.length_append, List.length_cons, List.length_nil, h6, h3]
    omega
  · left
    have : ((List.replicate n s).flatten).length = n * s.length := by simp
    rw [this]
    exact Nat.mul_le_mul_left _ (by omega)
def PrintRes (l : List OpM) (w : World) (e : Ending) (w' : World) : Prop := Ch No w w' ∧ match printSc l with
  | some t => e = .returned (.tuple #[.string (bytesL t), .nilIface])
  | none => ∃ v, e = .returned (.tuple #[.string (bytesL []), v]) ∧ ErrAt w' v 0 0 68
theorem run_loop {R : Ending → World → Prop} {Q : Exit → List (Tmp × Value) → World → Prop} {w : World} {kx : MVars mx11_4 → (Nat → Value) → T} {kr : MVars mr11_4 → (Nat → Value) → T} (p : Option Addr) (n c : Nat) (l : List OpM) (b : Nat) (i : Nat) (gg : Nat → Value) (o : OpM) (ho : l[i]? = some o) (ha : AtOps w p n l) (hk : ∀ o ∈ l, o.keep.length ≤ 2000000) (hn : n ≤ 2000)
    (h : ∀ g w', Ch No w w' → wpT Tryz.prog R Q (kx (((runLen (opEq o) (l.drop (i + 1)) + 1 : Nat) : Int), ()) g) .pl w') :
    wpT Tryz.prog R Q (.loop (at_ Tryz.f11 [1, 1, 1, 0, 1, 0, 0, 1, 0, 1, 0, 0, 0]) 70 (fx11_4 p n c b (i : Int) gg) [(6, .int .i64 1)] mx11_4 mr11_4 2 kx kr) .pl w := by
  have hl := ha.1
  obtain ⟨hlt, _⟩ := List.getElem?_eq_some_iff.1 ho
  generalize hrun : runLen (opEq o) (l.drop (i + 1)) = rl at *
  refine loop_i mixed m11_4 s11_4 (by kernel_rfl) (by kernel_rfl)
    (fun (v : Int × Unit) w' => 1 ≤ v.1 ∧ i + v.1 ≤ n ∧ Ch No w w' ∧ rl = (v.1 - 1).toNat + runLen (opEq o) (l.drop (i + v.1.toNat))) (fun (v : Int × Unit) _ => n - v.1.toNat) (1, ()) rfl ⟨by simp, by dsimp only; omega, Ch.refl _ _, by rw [← hrun]; simp⟩ ?_
  rintro ⟨(k : Int), ⟨⟩⟩ g w3 ⟨(k0 : 1 ≤ k), (k1 : i + k ≤ n), h3, (hr : rl = (k - 1).toNat + runLen (opEq o) (l.drop (i + k.toNat)))⟩
  rw [t11_4]
  have e1 : IntKind.i64.wrap ((i : Int) + k) = ((i + k.toNat : Nat) : Int) := by rw [wrap_in (by omega) (by omega)]; omega
  rw [e1]
  refine ⟨fun w' => Ch No w w', h3.drew, ?_⟩
  have rd : ∀ {a : Addr} {v : Value}, w.cell? a = some v → ∀ w', Ch No w w' → w'.cell? a = some v := fun h w' hc => hc.cellv h (fun h => h)
  refine br_both (fun e => ?_) fun e => ?_
  · have hik : i + k.toNat < n := by have := lt_t e; omega
    obtain ⟨x, hx⟩ : ∃ u, l[i + k.toNat]? = some u := ⟨_, List.getElem?_eq_getElem (by omega)⟩
    obtain ⟨hltx, hxe⟩ := List.getElem?_eq_some_iff.1 hx
    have hdr : l.drop (i + k.toNat) = x :: l.drop (i + k.toNat + 1) := by rw [List.drop_eq_getElem_cons hltx, hxe]
    rw [hdr] at hr
    obtain ⟨g1, o1, rfl, hc⟩ := ha.2 (by omega)
    obtain ⟨kp, kn, kc, a0, a1, a2, a3, a4⟩ := hc _ _ ho
    obtain ⟨kp', kn', kc', b0, b1, b2, b3, b4⟩ := hc _ _ hx
    refine ix_i (by omega) (by omega) ?_
    simp only [addr_add, Int.toNat_natCast]
    refine ⟨_, rd a1, _, rd a2, _, rd a3, (kp, kn, kc), rd a4, ix_i (by omega) (by omega) ?_⟩
    simp only [addr_add, Int.toNat_natCast]
    refine ⟨_, rd b1, _, rd b2, _, rd b3, (kp', kn', kc'), rd b4, ?_⟩
    have hk1 : kn ≤ 2000000 := by have h1 := a0.1; have := hk o (List.mem_of_getElem? ho); omega
    have hk2 : kn' ≤ 2000000 := by have h1 := b0.1; have := hk x (List.mem_of_getElem? hx); omega
    refine ⟨opEq o x, fun w2 h2 => (alike_any o x kp kp' kn kc kn' kc' w2 (a0.no h2) (b0.no h2) hk1 hk2).mono fun e w3 ⟨he, h3⟩ => ⟨he, h2.trans h3⟩, ?_⟩
    intro w4 h4
    unfold runLen at hr
    refine br_both (fun e => ?_) fun e => ?_
    · have e : opEq o x = true := e
      rw [if_pos e] at hr
      refine ⟨(k + 1, ()), ?_, ⟨by dsimp only; omega, by dsimp only; omega, h4, ?_⟩, by dsimp only; omega⟩
      · rw [wrap_succ (by omega) (by omega)]; rfl
      · dsimp only
        rw [show (k + 1).toNat = k.toNat + 1 by omega, ← Nat.add_assoc, hr]
        omega
    · have e : opEq o x = false := e
      rw [if_neg (by rw [e]; decide)] at hr
      refine ⟨rfl, (k, ()), rfl, fun g => ?_⟩
      have : k = ((rl + 1 : Nat) : Int) := by omega
      rw [this]
      exact h g w4 h4
  · have hik : n ≤ i + k.toNat := by have := lt_f e; omega
    intro w4 h4
    rw [List.drop_of_length_le (by omega)] at hr
    unfold runLen at hr
    refine ⟨rfl, (k, ()), rfl, fun g => ?_⟩
    have : k = ((rl + 1 : Nat) : Int) := by omega
    rw [this]
    exact h g w4 h4
set_option maxHeartbeats 1000000 in
theorem print_any (p : Option Addr) (n c : Nat) (l : List OpM) (w : World) (ha : AtOps w p n l) (hk : ∀ o ∈ l, o.keep.length ≤ 2000000) (G : Glob w) :
    Calls Tryz.prog 11 #[.slice p n c] w (PrintRes l w) := by
  refine calls_of_fnT mixed Tryz.func11 (s := s11) ?_
  rw [t11]
  have hl := ha.1
  have hps : printSc l = if 2000 < l.length then none else match printR l with
    | none => none
    | some t => if 8000 < t.length then none else some t := rfl
  refine br_both (fun e => ?_) fun e => ?_
  · have e : 2000 < n := by have := gt_t e; omega
    rw [if_pos (by omega)] at hps
    refine cl_i (unwritten_any w) ?_
    rintro e' w1 ⟨v, rfl, hv, h1⟩
    refine ⟨v, rfl, h1, ?_⟩
    rw [hps]
    exact ⟨v, rfl, hv⟩
  have e : n ≤ 2000 := by have := gt_f e; omega
  rw [if_neg (by omega)] at hps
  refine nw fun w1 h1 z1 b1 => ?_
  have B1 : Bld w.heap.size w1 w.heap.size none 0 0 [] := ⟨⟨none, .inl rfl, b1⟩, Row.nil _ _ _ _, Nat.le_refl _⟩
  generalize hb : w.heap.size = b at *
  refine loop_i mixed m11_3 s11_3 (by kernel_rfl) (by kernel_rfl)
    (fun (v : Int × Unit) w' => 0 ≤ v.1 ∧ v.1 ≤ n ∧ ∃ q m d bs, Bld b w' b q m d bs ∧ Ch (b ≤ ·) w1 w' ∧ bs.length ≤ v.1.toNat * 40000000 ∧ printR l = (printR (l.drop v.1.toNat)).map (bs ++ ·)) (fun (v : Int × Unit) _ => n - v.1.toNat) (0, ()) rfl ⟨by simp, by simp, none, 0, 0, [], B1, Ch.refl _ _, by simp, by simp⟩ ?_
  rintro ⟨(i : Int), ⟨⟩⟩ g w2 ⟨(i0 : 0 ≤ i), (i1 : i ≤ n), q, m, d, bs, B2, h2, hbl, hp⟩
  rw [t11_3]
  dsimp only at hbl hp
  have H2 : Ch No w w2 := h1.then_ h2 (fun k hk h => by omega)
  have G2 := G.ch H2 (fun _ _ h => h)
  refine br_both (fun e => ?_) fun e => ?_
  · have hi : i < n := lt_t e
    obtain ⟨o, ho⟩ : ∃ u, l[i.toNat]? = some u := ⟨_, List.getElem?_eq_getElem (by omega)⟩
    obtain ⟨hlt, hoe⟩ := List.getElem?_eq_some_iff.1 ho
    have hdr : l.drop i.toNat = o :: l.drop (i.toNat + 1) := by rw [List.drop_eq_getElem_cons hlt, hoe]
    have hmo : o ∈ l := List.mem_of_getElem? ho
    rw [hdr, printR_cons] at hp
    generalize hrun : runLen (opEq o) (l.drop (i.toNat + 1)) = rl at *
    have hrl : rl + i.toNat + 1 ≤ n := by
      have := runLen_le (opEq o) (l.drop (i.toNat + 1))
      rw [hrun, List.length_drop] at this; omega
    obtain ⟨j, rfl⟩ : ∃ j : Nat, i = j := ⟨i.toNat, by omega⟩
    rw [Int.toNat_natCast] at *
    refine run_loop p n c l b j _ o ho (ha.no H2) hk (by omega) fun g w3 h3 => ?_
    rw [hrun]
    have H3 := H2.trans h3
    have G3 := G.ch H3 (fun _ _ h => h)
    have B3 := B2.no h3
    obtain ⟨g1, o1, rfl, hc⟩ := ha.2 (by omega)
    obtain ⟨kp, kn, kc, a0, a1, a2, a3, a4⟩ := hc _ _ ho
    have rd : ∀ {a : Addr} {v : Value}, w.cell? a = some v → w3.cell? a = some v := fun h => H3.cellv h (fun h => h)
    refine ix_i (by omega) (by omega) ?_
    simp only [addr_add, Int.toNat_natCast]
    refine ld_int (rd a1) (ld_int (rd a2) (ld_int (rd a3) (ld_sl (rd a4) ?_)))
    have hk1 : kn ≤ 2000000 := by have h1 := a0.1; have := hk o hmo; omega
    refine cl_i (stepLine_any o kp kn kc w3 (a0.no H3) hk1 G3) ?_
    rintro e' w4 ⟨h4, hst⟩
    have H4 := H3.trans h4
    have B4 := B3.no h4
    have hbl4 := B4.len
    cases hsx : stepText o with
    | none =>
      rw [hsx] at hst hp
      subst hst
      refine ⟨(bytesL [], false, ()), rfl, br_true rfl (cl_i (unwritten_any w4) ?_)⟩
      rintro e5 w5 ⟨v, rfl, hv, h5⟩
      refine ⟨v, rfl, (bytesL [], v, ()), rfl, fun g => ⟨H4.trans h5, ?_⟩⟩
      have hp : printR l = none := hp
      rw [hps, hp]
      exact ⟨v, rfl, hv⟩
    | some s =>
      rw [hsx] at hst hp
      obtain ⟨rfl, hsl⟩ := hst
      refine ⟨(bytesL s, true, ()), rfl, br_false rfl ?_⟩
      have G4 := G.ch H4 (fun _ _ h => h)
      have hB : b ≤ w4.heap.size := by have := H4.size; omega
      -- what is written, and what follows
      have nxt : ∀ (t : List UInt8) (w5 : World) q' m' d', t = runText (rl + 1) s → GrewW b b w4 q m d w5 q' m' d' (bs ++ t) → ∃ v' : MVars m11_3, [((5 : Nat), Value.int .i64 (IntKind.i64.wrap ((j : Int) + ((rl + 1 : Nat) : Int))))] = mvals m11_3 v' ∧ ((0 ≤ v'.1 ∧ v'.1 ≤ n ∧ ∃ q m d bs, Bld b w5 b q m d bs ∧ Ch (b ≤ ·) w1 w5 ∧ bs.length ≤ v'.1.toNat * 40000000 ∧ printR l = (printR (l.drop v'.1.toNat)).map (bs ++ ·)) ∧ n - v'.1.toNat < n - j) := by
        intro t w5 q' m' d' ht g5
        refine ⟨(((j + rl + 1 : Nat) : Int), ()), ?_, ⟨by show (0 : Int) ≤ ((j + rl + 1 : Nat) : Int); omega, by show ((j + rl + 1 : Nat) : Int) ≤ (n : Int); omega, q', m', d', _, g5.bld, ?_, ?_, ?_⟩, by dsimp only; omega⟩
        · rw [wrap_in (by omega) (by omega)]
          show _ = [((5 : Nat), Value.int .i64 _)]
          congr 3
        · have h24 : Ch (b ≤ ·) w2 w4 := (h3.trans h4).no
          exact (h2.trans h24).trans (g5.below B4)
        · dsimp only
          have hrt := runText_len (rl + 1) s hsl (by omega)
          rw [List.length_append, ht, show (((j + rl + 1 : Nat) : Int)).toNat = j + (rl + 1) by omega, Nat.add_mul]
          omega
        · dsimp only
          rw [show (((j + rl + 1 : Nat) : Int)).toNat = j + 1 + rl by omega, hp, List.drop_drop, ht]
          cases printR (l.drop (j + 1 + rl)) with
          | none => rfl
          | some u => simp
      refine br_both (fun e3 => ?_) fun e3 => ?_
      · have e3 : 3 ≤ rl + 1 := by
          have e3 : (3 : Int) ≤ ((rl + 1 : Nat) : Int) := ge_t e3
          omega
        refine cl_i (itoa_any _ (by omega) (by omega) w4 G4) ?_
        rintro e5 w5 ⟨rfl, h5⟩
        have hil := itoa_len (n := ((rl + 1 : Nat) : Int)) ⟨by omega, by omega⟩
        have B5 := B4.no h5
        refine ⟨_, rfl, ?_⟩
        dsimp only
        simp only [ByteArray.size_append, tb_size, List.length_cons, List.length_nil]
        refine nd_i (decide_eq_true (by omega)) (nd_i (decide_eq_true (by omega)) (nd_i (decide_eq_true (by omega)) (nd_i (decide_eq_true (by omega)) ?_)))
        refine cl_i (writeString_any b b w5 q m d bs _ B5 (by have := h5.size; omega) (by
          simp only [ByteArray.size_append, tb_size, List.length_cons, List.length_nil]
          have : j * 40000000 ≤ 2000 * 40000000 := Nat.mul_le_mul_right _ (by omega)
          omega)) ?_
        rintro e6 w6 ⟨rfl, q', m', d', g6⟩
        refine ⟨(_, .nilIface, ()), rfl, nxt _ w6 q' m' d' ?_ (g6.after h5)⟩
        simp only [ba_app, tb_data]
        unfold runText
        rw [if_pos e3]
        simp [wRepeat, wEnd]
      · have e3 : rl + 1 < 3 := by
          have e3 : ((rl + 1 : Nat) : Int) < (3 : Int) := ge_f e3
          omega
        refine cl_i (Tryz.strings_Repeat (bytesL s) (rl + 1) w4 (by omega) (by
          rw [tb_size]
          have : s.length * (rl + 1) ≤ 30000000 * 3 := Nat.mul_le_mul hsl (by omega)
          omega)) ?_
        rintro e5 w5 ⟨rfl, hb5⟩
        have h5 : Ch No w4 w5 := Ch.of_below hb5
        have B5 := B4.no h5
        refine ⟨_, rfl, ?_⟩
        rw [tb_data, repeat_is]
        have hfl : ((List.replicate (rl + 1) s).flatten).length = (rl + 1) * s.length := by simp
        refine cl_i (writeString_any b b w5 q m d bs _ B5 (by have := h5.size; omega) (by
          show m + (bytesL ((List.replicate (rl + 1) s).flatten)).size ≤ _
          rw [tb_size, hfl]
          have : (rl + 1) * s.length ≤ 3 * 30000000 := Nat.mul_le_mul (by omega) hsl
          have : j * 40000000 ≤ 2000 * 40000000 := Nat.mul_le_mul_right _ (by omega)
          omega)) ?_
        rintro e6 w6 ⟨rfl, q', m', d', g6⟩
        refine ⟨(_, .nilIface, ()), rfl, nxt _ w6 q' m' d' ?_ (g6.after h5)⟩
        unfold runText
        rw [if_neg (by omega)]
  · have hi : (n : Int) ≤ i := lt_f e
    rw [List.drop_of_length_le (by omega)] at hp
    have hp : printR l = some bs := by rw [hp]; simp [printR, printOps]
    rw [hp] at hps
    refine ⟨rfl, (), rfl, fun g => ?_⟩
    refine cl_i (Tryz.Builder_Len b b _ w2 B2.lib) ?_
    rintro e' w3 ⟨rfl, rfl⟩
    refine ⟨_, rfl, ?_⟩
    rw [Lib.byteCells_length]
    refine br_both (fun e => ?_) fun e => ?_
    · have e : 8000 < bs.length := by have := gt_t e; omega
      refine cl_i (unwritten_any w3) ?_
      rintro e5 w5 ⟨v, rfl, hv, h5⟩
      refine ⟨v, rfl, H2.trans h5, ?_⟩
      rw [hps]
      dsimp only
      rw [if_pos e]
      exact ⟨v, rfl, hv⟩
    · have e : bs.length ≤ 8000 := by have := gt_f e; omega
      refine cl_i (Tryz.Builder_String_any b b bs w3 B2.lib (by have := H2.size; omega)) ?_
      rintro e5 w5 ⟨rfl, hb5⟩
      have h5 : Ch (b ≤ ·) w3 w5 := ⟨hb5.os, hb5.tape, hb5.output, hb5.size, fun k hk hn => hb5.block k (by omega)⟩
      refine ⟨_, rfl, H2.then_ h5 (fun k hk h => by omega), ?_⟩
      rw [hps]
      dsimp only
      rw [if_neg (by omega)]
end Go.Proofs.YtjlmkahagcojcaaGreatDoor
