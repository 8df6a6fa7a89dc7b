/- The document's reader: begin, inside, behind. -/
import Derived.Test.YtjlmkahagcojcaaGreatDoorXh
namespace Go.Proofs.YtjlmkahagcojcaaGreatDoor.V
open Go Tr
set_option maxRecDepth 100000
/-! the tree of function 137 -/
abbrev fx137_1 (qa0 : Addr) : List (Tmp × Value) := [(0, .pointer (some qa0))]
abbrev mx137_1 : List (Tmp × Comp) := [(13, .leaf .bool)]
def s137_1 : Script := .qt (.ld (.int .i64) (.ld .str .nil))
theorem t137_1 (qa0 : Addr) (gg1 : Nat → Value) : pieceT Tryz.prog (at_ Tryz.f137 [0, 0]) 128 (fx137_1 qa0) gg1 (mx137_1.map (·.1)) [] [] s137_1 = .drawn (.load (qa0.add 1) (.int .i64) (fun x2 => .load qa0 .str (fun s3 => .undrawn (.fin .normal [(13, .bool (Decidable.decide (x2 ≥ (↑s3.size : Int))))])))) := by kernel_rfl
abbrev fx137_7 (qa0 : Addr) : List (Tmp × Value) := [(0, .pointer (some qa0))]
abbrev mx137_7 : List (Tmp × Comp) := [(2, .leaf (.int .u8))]
def s137_7 : Script := .qt (.ld .str (.ld (.int .i64) (.ix .nil)))
theorem t137_7 (qa0 : Addr) (gg7 : Nat → Value) : pieceT Tryz.prog (at_ Tryz.f137 [1, 0]) 128 (fx137_7 qa0) gg7 (mx137_7.map (·.1)) [] [] s137_7 = .drawn (.load qa0 .str (fun s8 => .load (qa0.add 1) (.int .i64) (fun x9 => .bidx s8 x9 (fun c10 => .undrawn (.fin .normal [(2, .int .u8 c10)]))))) := by kernel_rfl
abbrev fx137_12 (qa0 : Addr) (u11 : Int × Unit) : List (Tmp × Value) := [(0, .pointer (some qa0)), (2, .int .u8 u11.1)]
abbrev mx137_12 : List (Tmp × Comp) := [(3, .leaf .bool)]
def s137_12 : Script := .sym (.lit (.lit (.lit (.lit .nil)))) (.lit (.lit (.sym (.lit (.lit (.lit (.lit .nil)))) (.lit (.lit (.lit (.lit .nil)))))))
theorem t137_12 (qa0 : Addr) (u11 : Int × Unit) (gg12 : Nat → Value) : pieceT Tryz.prog (at_ Tryz.f137 [1, 1, 0]) 128 (fx137_12 qa0 u11) gg12 (mx137_12.map (·.1)) [] [] s137_12 = .br (u11.fst == 45) (.fin .normal [(3, .bool true)]) (.br (Decidable.decide (u11.fst ≥ 48)) (.fin .normal [(3, .bool (Decidable.decide (u11.fst ≤ 57)))]) (.fin .normal [(3, .bool false)])) := by kernel_rfl
abbrev fx137_14 (qa0 : Addr) (u11 : Int × Unit) (u13 : Bool × Unit) : List (Tmp × Value) := [(0, .pointer (some qa0)), (2, .int .u8 u11.1), (3, .bool u13.1)]
abbrev mx137_14 : List (Tmp × Comp) := [(42, .leaf .bool)]
def s137_14 : Script := .sym (.lit (.lit (.sym (.lit (.lit (.sym (.lit (.lit .nil)) (.lit (.lit .nil))))) (.lit (.lit (.lit (.lit (.lit .nil)))))))) (.lit (.lit (.lit (.lit (.lit (.lit (.lit (.lit .nil))))))))
theorem t137_14 (qa0 : Addr) (u11 : Int × Unit) (u13 : Bool × Unit) (gg14 : Nat → Value) : pieceT Tryz.prog (at_ Tryz.f137 [1, 1, 1, 0, 0]) 128 (fx137_14 qa0 u11 u13) gg14 (mx137_14.map (·.1)) [] [] s137_14 = .br (u11.fst != 110) (.br (u11.fst != 34) (.br (u11.fst != 91) (.fin .normal [(42, .bool (!u13.fst))]) (.fin .normal [(42, .bool false)])) (.fin .normal [(42, .bool false)])) (.fin .normal [(42, .bool false)]) := by kernel_rfl
abbrev fx137_21 (qa0 : Addr) (u11 : Int × Unit) : List (Tmp × Value) := [(0, .pointer (some qa0)), (2, .int .u8 u11.1)]
abbrev mx137_21 : List (Tmp × Comp) := [(76, .leaf .bool)]
def s137_21 : Script := .sym (.lit (.lit (.lit (.ld .sl (.lit (.lit (.lit .nil))))))) (.lit (.lit (.lit (.lit (.lit (.lit .nil))))))
theorem t137_21 (qa0 : Addr) (u11 : Int × Unit) (gg21 : Nat → Value) : pieceT Tryz.prog (at_ Tryz.f137 [1, 1, 1, 0, 1, 1, 1, 1, 0]) 128 (fx137_21 qa0 u11) gg21 (mx137_21.map (·.1)) [] [] s137_21 = .br (u11.fst == 91) (.load (qa0.add 3) .sl (fun l22 => .fin .normal [(76, .bool ((↑l22.snd.fst : Int) == 3))])) (.fin .normal [(76, .bool false)]) := by kernel_rfl
abbrev fx137_26 (qa0 : Addr) : List (Tmp × Value) := [(0, .pointer (some qa0))]
abbrev mx137_26 : List (Tmp × Comp) := []
def s137_26 : Script := .hd0 (.hq 0 (.hq 1 (.hq 2 (.hq 3 (.hq 5 (.hq 6 (.hq 7 (.hq 8 (.ld .sl (.hq 9 (.hl 4 (.ld .sl (.he 10 (.he 11 (.rn (.one (.leaf .sl)) (.hq 12 (.hq 13 (.he 14 .nil))))))) (.hl 10 (.he 4 (.ld .sl (.he 11 (.rn (.one (.leaf .sl)) (.hq 12 (.hq 13 (.he 14 .nil))))))) .nil))))))))))))
theorem t137_26 (qa0 : Addr) (gg26 : Nat → Value) : pieceT Tryz.prog (at_ Tryz.f137 [1, 1, 1, 0, 1, 1, 1, 1, 1, 1, 1, 0, 0]) 128 (fx137_26 qa0) gg26 (mx137_26.map (·.1)) [] [] s137_26 = .hdrawn (.load (qa0.add 2) .sl (fun l27 => .both (.eff (.load (qa0.add 3) .sl (fun l28 => .back (.eff (.new (.cells #[.int .i64 (↑l27.snd.fst : Int)] 3 (0, 0)) (fun n29 => .back (.eff (.run (builtin .append #[36, 36] 36 #[false, false] #[.slice l28.1 l28.2.1 l28.2.2, .slice (some ⟨n29, 0, none⟩) 1 1]) (.one (.leaf .sl)) (fun l30 => .back (.eff (.store (qa0.add 3) (.slice l30.1 l30.2.1 l30.2.2) (.back (.undrawn (.fin .normal [])))))))))))))) (.both (.eff (.new (.cells #[.int .i64 (↑l27.snd.fst : Int)] 3 (0, 0)) (fun n31 => .back (.eff (.load (qa0.add 3) .sl (fun l32 => .back (.eff (.run (builtin .append #[36, 36] 36 #[false, false] #[.slice l32.1 l32.2.1 l32.2.2, .slice (some ⟨n31, 0, none⟩) 1 1]) (.one (.leaf .sl)) (fun l33 => .back (.eff (.store (qa0.add 3) (.slice l33.1 l33.2.1 l33.2.2) (.back (.undrawn (.fin .normal [])))))))))))))) (.triv)))) := by kernel_rfl
def s137 : Script := .ct 1 [0] mx137_1 (.sym (.ld .str (.cl (.tup []) .nil)) (.ct 0 [0] mx137_7 (.ct 0 [0, 2] mx137_12 (.ct 0 [0, 2, 3] mx137_14 (.sym (.ld (.int .i64) (.cl (.tup []) .nil)) (.ld .sl (.sym (.ld (.int .i64) (.cl (.tup []) .nil)) (.ct 0 [0, 2] mx137_21 (.sym (.ld (.int .i64) (.cl (.tup []) .nil)) (.sym (.ct 0 [0] mx137_26 (.ld (.int .i64) (.cl (.tup []) .nil))) (.sym (.cl (.tup []) .nil) (.sym (.cl (.tup []) .nil) (.cl (.tup []) .nil)))))))))))))
theorem t137 (qa0 : Addr) : fnT Tryz.prog Tryz.f137 #[.pointer (some qa0)] s137 = .cut (at_ Tryz.f137 [0, 0]) 128 (fx137_1 qa0) mx137_1 (fun u4 g4 => .br u4.1 (.load qa0 .str (fun s5 => .call 161 #[.pointer (some qa0), .int .i64 28, .int .i64 (↑s5.size : Int)] (.tup []) (fun r6 => .done (.returned (.tuple #[]))))) (.cut (at_ Tryz.f137 [1, 0]) 128 (fx137_7 qa0) mx137_7 (fun u11 g11 => .cut (at_ Tryz.f137 [1, 1, 0]) 128 (fx137_12 qa0 u11) mx137_12 (fun u13 g13 => .cut (at_ Tryz.f137 [1, 1, 1, 0, 0]) 128 (fx137_14 qa0 u11 u13) mx137_14 (fun u15 g15 => .br u15.1 (.load (qa0.add 1) (.int .i64) (fun x16 => .call 161 #[.pointer (some qa0), .int .i64 28, .int .i64 x16] (.tup []) (fun r17 => .done (.returned (.tuple #[]))))) (.load (qa0.add 2) .sl (fun l18 => .br ((↑l18.snd.fst : Int) == 12) (.load (qa0.add 1) (.int .i64) (fun x19 => .call 161 #[.pointer (some qa0), .int .i64 22, .int .i64 x19] (.tup []) (fun r20 => .done (.returned (.tuple #[]))))) (.cut (at_ Tryz.f137 [1, 1, 1, 0, 1, 1, 1, 1, 0]) 128 (fx137_21 qa0 u11) mx137_21 (fun u23 g23 => .br u23.1 (.load (qa0.add 1) (.int .i64) (fun x24 => .call 161 #[.pointer (some qa0), .int .i64 23, .int .i64 x24] (.tup []) (fun r25 => .done (.returned (.tuple #[]))))) (.br (u11.fst == 91) (.cut (at_ Tryz.f137 [1, 1, 1, 0, 1, 1, 1, 1, 1, 1, 1, 0, 0]) 128 (fx137_26 qa0) mx137_26 (fun u34 g34 => .load (qa0.add 1) (.int .i64) (fun x35 => .call 162 #[.pointer (some qa0), .agg #[.int .i64 3, .int .i64 0, .string (bytesL []), .int .i64 0], .int .i64 (IntKind.i64.wrap (x35 + 1))] (.tup []) (fun r36 => .done (.returned (.tuple #[])))))) (.br (u11.fst == 110) (.call 163 #[.pointer (some qa0)] (.tup []) (fun r37 => .done (.returned (.tuple #[])))) (.br (u11.fst == 34) (.call 164 #[.pointer (some qa0)] (.tup []) (fun r38 => .done (.returned (.tuple #[])))) (.call 165 #[.pointer (some qa0)] (.tup []) (fun r39 => .done (.returned (.tuple #[])))))))))))))))) := by kernel_rfl
section
variable {B : Nat} {w : World} {nd : Nat} {s : ByteArray} {i : Nat} {P : List PartM} {O : List Nat} {q : Option Addr} {t d : Nat} {q2 : Option Addr} {t2 d2 : Nat}
theorem begs_is (c : Nat) : begs c = decide (c = 110 ∨ c = 45 ∨ c = 34 ∨ c = 91 ∨ (48 ≤ c ∧ c ≤ 57)) := rfl
theorem MSx.t2_is (D : MSx B w nd s i P O q t d q2 t2 d2) : t2 = O.length := by
  have := Row.len D.opn
  simpa using this.symm
theorem top_app {P : List PartM} {O : List Nat} (x : PartM) (h : ∀ j ∈ O, j < P.length) : ∀ j ∈ O, j < (P ++ [x]).length := fun j hj => by
  have := h j hj
  rw [List.length_append]; omega
set_option maxHeartbeats 1000000 in
theorem mbegin_any (D : MSx B w nd s i P O q t d q2 t2 d2) (ht : ∀ j ∈ O, j < P.length) :
    Calls Tryz.prog 137 #[.pointer (some ⟨nd, 0, none⟩)] w fun e w' => e = .returned (.tuple #[]) ∧ Ch (B ≤ ·) w w' ∧ MRes B w' nd s (beginM (rest s i) P O) := by
  refine calls_of_fnT mixed Tryz.func137 (s := s137) ?_
  rw [t137]
  have hbig := D.ok.big
  have hil := D.ok.le
  have htl := PRow.len D.row
  have ht2 := D.t2_is
  have hp12 := D.ok.p12
  have c256 := pk_256 (rest s i)
  refine cut_i mixed s137_1 (fun v w' => Ch No w w' ∧ v.1 = decide (¬ i < s.size)) (by kernel_rfl) (fun g => ?_) ?_
  · rw [t137_1]
    have D1 := D.no (Ch.refl No _).drew
    refine dr_eq (lq_int (D1.blk.cell 1) (lq_str (D1.blk.cell 0) (un_eq ⟨rfl, (_, ()), rfl, (Ch.refl No _).drew, ?_⟩)))
    show decide ((i : Int) ≥ (s.size : Int)) = _
    exact decide_eq_decide.2 ⟨fun h => by omega, fun h => by omega⟩
  rintro ⟨u, ⟨⟩⟩ g w1 ⟨h1, hu⟩
  dsimp only at hu
  subst hu
  have D1 := D.no h1
  refine br_both (fun e => ?_) fun e => ?_
  · have e := of_decide_eq_true e
    refine ld_str (D1.blk.cell 0) (fl_i 28 s.size D1 (by decide) (Nat.le_refl _) fun w' h2 h3 => ⟨rfl, h1.no.trans h2, ?_⟩)
    have hn : rest s i = [] := List.drop_of_length_le (by have := sizeB s; omega)
    rw [restL, Nat.sub_self] at h3
    rw [hn, show beginM [] P O = .error (28, 0) by unfold beginM; rw [if_pos (show begs (pk []) = false from rfl)]; rfl]
    exact h3
  have hi : i < s.size := Decidable.byContradiction (of_decide_eq_false e)
  clear e
  refine cut_i mixed s137_7 (fun v w' => Ch No w1 w' ∧ v.1 = (pk (rest s i) : Int)) (by kernel_rfl) (fun g => ?_) ?_
  · rw [t137_7]
    have D1 := D1.no (Ch.refl No _).drew
    refine dr_eq (lq_str (D1.blk.cell 0) (lq_int (D1.blk.cell 1) (bi_i (by omega) (by rw [Int.toNat_natCast]; exact hi) (un_eq ⟨rfl, (_, ()), rfl, (Ch.refl No _).drew, ?_⟩))))
    rw [pk_at hi]
  rintro ⟨u, ⟨⟩⟩ g w2 ⟨h2, hu⟩
  dsimp only at hu
  subst hu
  have D2 := D1.no h2
  have H2 := h1.trans h2
  generalize hc : pk (rest s i) = c at *
  refine cut_i mixed s137_12 (fun v w' => w' = w2 ∧ v.1 = decide (c = 45 ∨ (48 ≤ c ∧ c ≤ 57))) (by kernel_rfl) (fun g => ?_) ?_
  · rw [t137_12]
    dsimp only
    refine br_both (fun e => ⟨rfl, (true, ()), rfl, rfl, ?_⟩) fun e => br_both (fun e1 => ⟨rfl, (_, ()), rfl, rfl, ?_⟩) fun e1 => ⟨rfl, (false, ()), rfl, rfl, ?_⟩
    · exact (decide_eq_true (.inl (by have := eq_t e; omega))).symm
    · have e := eq_f e
      have e1 := ge_t e1
      exact decide_eq_decide.2 (by omega)
    · have e := eq_f e
      have e1 := ge_f e1
      exact (decide_eq_false (by omega)).symm
  rintro ⟨u, ⟨⟩⟩ g w3 ⟨rfl, hu⟩
  dsimp only at hu
  subst hu
  refine cut_i mixed s137_14 (fun v w' => w' = w3 ∧ v.1 = !begs c) (by kernel_rfl) (fun g => ?_) ?_
  · rw [t137_14, begs_is]
    dsimp only
    have no : (c = 110 ∨ c = 45 ∨ c = 34 ∨ c = 91 ∨ (48 ≤ c ∧ c ≤ 57)) → false = !decide (c = 110 ∨ c = 45 ∨ c = 34 ∨ c = 91 ∨ (48 ≤ c ∧ c ≤ 57)) := fun h => by rw [decide_eq_true h]; rfl
    refine br_both (fun e => br_both (fun e1 => br_both (fun e2 => ⟨rfl, (_, ()), rfl, rfl, ?_⟩) fun e2 => ⟨rfl, (false, ()), rfl, rfl, no (by have := ne_f e2; omega)⟩) fun e1 => ⟨rfl, (false, ()), rfl, rfl, no (by have := ne_f e1; omega)⟩) fun e => ⟨rfl, (false, ()), rfl, rfl, no (by have := ne_f e; omega)⟩
    have e := ne_t e
    have e1 := ne_t e1
    have e2 := ne_t e2
    show (!decide (c = 45 ∨ (48 ≤ c ∧ c ≤ 57))) = _
    congr 1
    exact decide_eq_decide.2 (by omega)
  rintro ⟨u, ⟨⟩⟩ g w4 ⟨rfl, hu⟩
  dsimp only at hu
  subst hu
  refine br_both (fun e => ?_) fun e => ?_
  · have e : begs c = false := by simpa using e
    refine ld_int (D2.blk.cell 1) (fl_i 28 i D2 (by decide) hil fun w' h3 h4 => ⟨rfl, H2.no.trans h3, ?_⟩)
    rw [show beginM (rest s i) P O = .error (28, (rest s i).length) by unfold beginM; rw [hc, if_pos e]]
    exact h4
  have hb : ¬ begs c = false := by simpa using e
  clear e
  refine ld_sl (D2.blk.cell 2) ?_
  dsimp only
  refine br_both (fun e => ?_) fun e => ?_
  · have e := eq_t e
    refine ld_int (D2.blk.cell 1) (fl_i 22 i D2 (by decide) hil fun w' h3 h4 => ⟨rfl, H2.no.trans h3, ?_⟩)
    rw [show beginM (rest s i) P O = .error (22, (rest s i).length) by unfold beginM; rw [hc, if_neg hb, if_pos (by omega)]]
    exact h4
  have hp : P.length < 12 := by have := eq_f e; omega
  clear e
  refine cut_i mixed s137_21 (fun v w' => w' = w4 ∧ v.1 = decide (c = 91 ∧ O.length = 3)) (by kernel_rfl) (fun g => ?_) ?_
  · rw [t137_21]
    dsimp only
    refine br_both (fun e => ld_sl (D2.blk.cell 3) ⟨rfl, (_, ()), rfl, rfl, ?_⟩) fun e => ⟨rfl, (false, ()), rfl, rfl, ?_⟩
    · have e := eq_t e
      dsimp only
      by_cases h : O.length = 3
      · rw [decide_eq_true ⟨by omega, h⟩, ht2, h]; rfl
      · rw [decide_eq_false (fun h' => h h'.2)]; exact beq_eq_false_iff_ne.2 (by omega)
    · have e := eq_f e
      exact (decide_eq_false (by omega)).symm
  rintro ⟨u, ⟨⟩⟩ g w5 ⟨rfl, hu⟩
  dsimp only at hu
  subst hu
  refine br_both (fun e => ?_) fun e => ?_
  · have e := of_decide_eq_true e
    refine ld_int (D2.blk.cell 1) (fl_i 23 i D2 (by decide) hil fun w' h3 h4 => ⟨rfl, H2.no.trans h3, ?_⟩)
    rw [show beginM (rest s i) P O = .error (23, (rest s i).length) by unfold beginM; rw [hc, if_neg hb, if_neg (by omega), if_pos e]]
    exact h4
  have h913 := of_decide_eq_false e
  clear e
  refine br_both (fun e => ?_) fun e => ?_
  · have e : c = 91 := by have := eq_t e; omega
    have ho3 := D.ok.o3
    have hbe : beginM (rest s i) P O = .ok ((rest s i).tail, P ++ [openP], O ++ [P.length]) := by
      unfold beginM; rw [hc, if_neg hb, if_neg (by omega), if_neg h913, if_pos e]
    refine cut_i mixed s137_26 (fun (_ : Unit) w' => Ch (B ≤ ·) w5 w' ∧ ∃ q6 t6 d6, MSx B w' nd s i P (O ++ [P.length]) q t d q6 t6 d6) (by kernel_rfl) (fun g => ?_) ?_
    · rw [t137_26]
      simp only [addr_add, Nat.zero_add]
      have Dd := D2.no (Ch.refl No _).drew
      have cd : Ch (B ≤ ·) w5 w5.drew := (Ch.refl _ _).drew
      refine hd_i (fun w' => w'.cell? ⟨nd, 2, none⟩ = some (.slice q t d)) (Dd.blk.cell 2) (lh_sl (fun _ h => h) ?_)
      dsimp only
      have tail : ∀ {R : Ending → World → Prop} {Q : Exit → List (Tmp × Value) → World → Prop} (hQ : ∀ w', Ch (B ≤ ·) w5 w' → (∃ q6 t6 d6, MSx B w' nd s i P (O ++ [P.length]) q t d q6 t6 d6) → Q .normal [] w') (w7 : World) (b7 : Nat), Ch (B ≤ ·) w5 w7 → MSx B w7 nd s i P O q t d q2 t2 d2 → Blk w7 b7 [.int .i64 (t : Int)] tInt →
          wpT Tryz.prog R Q (.run (builtin .append #[36, 36] 36 #[false, false] #[.slice q2 t2 d2, .slice (some ⟨b7, 0, none⟩) 1 1]) (.one (.leaf .sl)) (fun l9 => .back (.eff (.store ⟨nd, 3, none⟩ (.slice l9.1 l9.2.1 l9.2.2) (.back (.undrawn (.fin .normal []))))))) (.ef fun w' => w'.cell? ⟨nd, 2, none⟩ = some (.slice q t d)) w7 := fun hQ w7 b7 c7 D7 hb7 => by
        refine ap_blk (by kernel_rfl) infoInt rfl (by omega) D7.opn D7.lt hb7 rfl (fun u hu => by simp at hu; subst hu; rfl) (Nat.le_trans (by omega : t2 + 1 ≤ 13) (by decide)) (by omega) fun q6 d6 w6 g6 => ?_
        have c6 : Ch (B ≤ ·) w5 w6 := c7.trans (g6.ch.mono fun k hk => (Row.lt D7.opn hk).1)
        have r6 : PRow w6 B q t d P := Row.ch D7.row g6.ch fun k hk hk' => Row.apart D7.row D7.opn (by decide) k hk hk'
        have e6 : Blk w6 nd [.string s, .int .i64 i, .slice q t d, .slice q2 t2 d2, .int .i64 0] tMR := D7.blk.ch g6.ch D7.ne2
        have o6 : Row w6 B tInt 1 q6 (t2 + 1) d6 (natCells (O ++ [P.length])) := by
          have := g6.own
          rw [← htl] at this
          simpa [natCells] using this
        refine bk (e6.cell 2) (eff_i (st_blk e6 (by simp) rfl fun w8 h8 z8 b8 => bk (b8.cell 2) (un_h (hQ _ (c6.trans (h8.mono fun k hk => by subst hk; exact D.lo)) ⟨q6, t2 + 1, d6, b8, ?_, ?_, D.lo, ?_⟩))))
        · exact Row.ch r6 h8 fun k hk e => Row.ne r6 e6 (by decide) (e ▸ hk)
        · exact Row.ch o6 h8 fun k hk e => Row.ne o6 e6 (by decide) (e ▸ hk)
        · exact { D.ok with o3 := by rw [List.length_append, List.length_singleton]; omega }
      have hQ : ∀ w', Ch (B ≤ ·) w5 w' → (∃ q6 t6 d6, MSx B w' nd s i P (O ++ [P.length]) q t d q6 t6 d6) → (Exit.normal = Exit.normal ∧ ∃ v : MVars mx137_26, ([] : List (Tmp × Value)) = mvals mx137_26 v ∧ (Ch (B ≤ ·) w5 w' ∧ ∃ q6 t6 d6, MSx B w' nd s i P (O ++ [P.length]) q t d q6 t6 d6)) := fun w' h1 h2 => ⟨rfl, (), rfl, h1, h2⟩
      refine ⟨?_, ?_, trivial⟩
      · refine eff_i (ld_sl (Dd.blk.cell 3) (bk (Dd.blk.cell 2) (eff_i (nw fun w7 h7 z7 (b7 : Blk w7 _ [.int .i64 (t : Int)] tInt) => ?_))))
        have D7 := Dd.no h7
        exact bk (D7.blk.cell 2) (eff_i (tail hQ w7 _ (cd.trans h7.no) D7 b7))
      · refine eff_i (nw fun w7 h7 z7 (b7 : Blk w7 _ [.int .i64 (t : Int)] tInt) => ?_)
        have D7 := Dd.no h7
        exact bk (D7.blk.cell 2) (eff_i (ld_sl (D7.blk.cell 3) (bk (D7.blk.cell 2) (eff_i (tail hQ w7 _ (cd.trans h7.no) D7 b7)))))
    rintro ⟨⟩ g w6 ⟨h6, q6, t6, d6, D6⟩
    refine ld_int (D6.blk.cell 1) ?_
    rw [show IntKind.i64.wrap ((i : Int) + 1) = ((i + 1 : Nat) : Int) from wrap_succ (by omega) (by omega)]
    refine ad_i openP (i + 1) D6 hi hp (by decide) fun w' q' t' d' h7 D7 => ⟨rfl, H2.no.trans (h6.trans h7), ?_⟩
    rw [hbe]
    refine ⟨i + 1, q', t', d', q6, t6, d6, D7, (rest_tail s i).symm, fun j hj => ?_⟩
    rw [List.length_append, List.length_singleton]
    rcases List.mem_append.1 hj with h | h
    · have := ht j h; omega
    · rw [List.mem_singleton] at h; omega
  have h91 : c ≠ 91 := by have := eq_f e; omega
  clear e
  refine br_both (fun e => ?_) fun e => ?_
  · have e : c = 110 := by have := eq_t e; omega
    refine cl_i (mword_any D2 hp) ?_
    rintro e' w6 ⟨rfl, h6, hr⟩
    refine ⟨(), rfl, rfl, H2.no.trans h6, ?_⟩
    rw [show beginM (rest s i) P O = match wantX noneB (rest s i) with
      | .error e => .error e
      | .ok r => .ok (r, P ++ [⟨0, 0, bytesL [], 0⟩], O) by
      unfold beginM; rw [hc, if_neg hb, if_neg (by omega), if_neg (by omega), if_neg h91, if_pos e]; rfl]
    cases hx : wantX noneB (rest s i) with
    | error f => rw [hx] at hr; exact hr
    | ok r =>
      rw [hx] at hr
      obtain ⟨j, q', t', d', D', hr⟩ := hr
      exact ⟨j, q', t', d', _, _, _, D', hr, top_app _ ht⟩
  have h110 : c ≠ 110 := by have := eq_f e; omega
  clear e
  refine br_both (fun e => ?_) fun e => ?_
  · have e : c = 34 := by have := eq_t e; omega
    refine cl_i (mquoted_any D2 hp (by omega)) ?_
    rintro e' w6 ⟨rfl, hr⟩
    rw [show beginM (rest s i) P O = match rtextX (rest s i) with
      | .error e => .error e
      | .ok (x, r) => .ok (r, P ++ [⟨2, 0, x, 0⟩], O) by
      unfold beginM; rw [hc, if_neg hb, if_neg (by omega), if_neg (by omega), if_neg h91, if_neg h110, if_pos e]; rfl]
    cases hx : rtextX (rest s i) with
    | error f => rw [hx] at hr; exact ⟨(), rfl, rfl, H2.no.trans hr.1, hr.2⟩
    | ok y =>
      obtain ⟨x, r⟩ := y
      rw [hx] at hr
      obtain ⟨h6, j, q', t', d', D', hr⟩ := hr
      exact ⟨(), rfl, rfl, H2.no.trans h6, j, q', t', d', _, _, _, D', hr, top_app _ ht⟩
  have h34 : c ≠ 34 := by have := eq_f e; omega
  have hn : c = 45 ∨ (48 ≤ c ∧ c ≤ 57) := by
    have : begs c = true := by simpa using hb
    rw [begs_is] at this
    have := of_decide_eq_true this
    omega
  refine cl_i (mnumber_any D2 hp (by omega)) ?_
  rintro e' w6 ⟨rfl, hr⟩
  rw [show beginM (rest s i) P O = match rintX (rest s i) with
    | .error e => .error e
    | .ok (x, r) => .ok (r, P ++ [⟨1, x, bytesL [], 0⟩], O) by
    unfold beginM; rw [hc, if_neg hb, if_neg (by omega), if_neg (by omega), if_neg h91, if_neg h110, if_neg h34]; rfl]
  cases hx : rintX (rest s i) with
  | error f => rw [hx] at hr; exact ⟨(), rfl, rfl, H2.no.trans hr.1, hr.2⟩
  | ok y =>
    obtain ⟨x, r⟩ := y
    rw [hx] at hr
    obtain ⟨h6, j, q', t', d', D', hr⟩ := hr
    exact ⟨(), rfl, rfl, H2.no.trans h6, j, q', t', d', _, _, _, D', hr, top_app _ ht⟩
end
end Go.Proofs.YtjlmkahagcojcaaGreatDoor.V
