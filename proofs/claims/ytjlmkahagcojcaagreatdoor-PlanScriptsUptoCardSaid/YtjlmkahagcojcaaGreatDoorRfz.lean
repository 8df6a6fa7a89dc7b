/- The document's answer: failing, step. -/
import Derived.Test.YtjlmkahagcojcaaGreatDoorRfy
namespace Go.Proofs.YtjlmkahagcojcaaGreatDoor
open Go Tr
set_option maxRecDepth 100000
theorem resG_std {L k : Nat} {r : List UInt8} (h1 : 1 ≤ k) (h9 : k ≤ 9) (hr : ¬ (k = 9 ∧ wordS r = wArm)) (hf : ¬ (k = 7 ∧ wordS (afterS r) = wAfter)) :
    opM L k r = match resG L (numbersM k) r [] with
      | .error e => .error e
      | .ok l => .ok (if k = 9 then ⟨9, 0, 0, l⟩ else ⟨k, if numbersM k > 0 then l.getD 0 0 else 0, if numbersM k > 1 then l.getD 1 0 else 0, []⟩) := by
  unfold opM
  by_cases k9 : k = 9
  · subst k9
    rw [if_pos rfl]
    unfold recoverM resG
    rw [if_neg (fun h => hr ⟨rfl, h⟩), if_pos (show numbersM 9 < 0 by decide)]
    unfold keepR
    cases keepM L (r.length + 1) r [] with
    | error e => rfl
    | ok l => rfl
  rw [if_neg k9]
  by_cases k7 : k = 7
  · subst k7
    rw [if_pos rfl]
    unfold failM resG
    rw [if_neg (show ¬ numbersM 7 < 0 by decide), show (numbersM 7).toNat - ([] : List Int).length = 1 from rfl]
    unfold numsM numsM endM
    cases hn : numberM L true r with
    | error e => rfl
    | ok x =>
      obtain ⟨m, r'⟩ := x
      obtain ⟨rfl, _⟩ := number_ok hn
      dsimp only
      rw [if_neg (fun h => hf ⟨rfl, h⟩)]
      by_cases hw : wordS (afterS r) = []
      · rw [if_pos hw, if_pos hw]; rfl
      · rw [if_neg hw, if_neg hw]
  rw [if_neg k7]
  have hm : numbersM k = 0 ∨ numbersM k = 1 ∨ numbersM k = 2 := by
    have : ∀ i : Fin 10, 1 ≤ i.val → i.val ≠ 9 → numbersM i.val = 0 ∨ numbersM i.val = 1 ∨ numbersM i.val = 2 := by decide
    exact this ⟨k, by omega⟩ h1 k9
  unfold plainM resG
  rcases hm with hm | hm | hm
  · rw [hm, if_pos (by decide), if_neg (by decide), show (0 : Int).toNat - ([] : List Int).length = 0 from rfl]
    unfold numsM
    cases endM L r with
    | error e => rfl
    | ok u => simp [k9]
  · rw [hm, if_neg (by decide), if_neg (by decide), show (1 : Int).toNat - ([] : List Int).length = 1 from rfl]
    unfold numsM numsM
    cases hn : numberM L true r with
    | error e => rfl
    | ok x =>
      obtain ⟨m, r'⟩ := x
      dsimp only
      rw [if_pos (by decide)]
      cases endM L r' with
      | error e => rfl
      | ok u => simp [k9]
  · rw [hm, if_neg (by decide), if_neg (by decide), show (2 : Int).toNat - ([] : List Int).length = 2 from rfl]
    unfold numsM numsM numsM
    cases hn : numberM L true r with
    | error e => rfl
    | ok x =>
      obtain ⟨m, r'⟩ := x
      dsimp only
      rw [if_neg (by decide)]
      cases hn : numberM L true r' with
      | error e => rfl
      | ok x =>
        obtain ⟨m', r''⟩ := x
        dsimp only
        cases endM L r'' with
        | error e => rfl
        | ok u => simp [k9]
theorem resG_arm {L : Nat} {r : List UInt8} (h : wordS r = wArm) : opM L 9 r = match numM false (wordS (afterS r)) with
    | none => .error (L - (skipS (afterS r)).length, 62)
    | some n => match resG L (numbersM 9) (afterS (afterS r)) [] with
      | .error e => .error e
      | .ok l => .ok ⟨9, n + 1, 0, l⟩ := by
  unfold opM recoverM resG
  rw [if_pos rfl, if_pos h, if_pos (show numbersM 9 < 0 by decide)]
  unfold numberM keepR
  cases numM false (wordS (afterS r)) with
  | none => rfl
  | some n => rfl
theorem fail_after {L : Nat} {r : List UInt8} (h : wordS (afterS r) = wAfter) : opM L 7 r = match numM true (wordS r) with
    | none => .error (L - (skipS r).length, 62)
    | some n => match numM true (wordS (afterS (afterS r))) with
      | none => .error (L - (skipS (afterS (afterS r))).length, 62)
      | some m => if skipS (afterS (afterS (afterS r))) = [] then .ok ⟨7, n, m, []⟩ else .error (L - (skipS (afterS (afterS (afterS r)))).length, 61) := by
  unfold opM failM
  rw [if_neg (by decide), if_pos rfl]
  unfold numberM endM
  cases numM true (wordS r) with
  | none => rfl
  | some n =>
    dsimp only
    rw [if_pos h]
    cases numM true (wordS (afterS (afterS r))) with
    | none => rfl
    | some m =>
      dsimp only
      by_cases hs : skipS (afterS (afterS (afterS r))) = []
      · rw [if_pos hs, if_pos (word_nil.2 hs)]
      · rw [if_neg hs, if_neg (fun h => hs (word_nil.1 h))]
/-- What the document's reading of a step answers. -/
def RefRes (x : PRes OpM) (w : World) (e : Ending) (w' : World) : Prop := Ch No w w' ∧ match x with
  | .ok o => ∃ p n c, e = .returned (.tuple #[opVal o.kind o.a o.b p n c, .int .i64 0, .int .i64 0]) ∧ Row w' w.heap.size tInt 1 p n c (intCells o.keep)
  | .error (pl, cd) => ∃ k a b, e = .returned (.tuple #[opVal k a b none 0 0, .int .i64 pl, .int .i64 cd]) ∧ cd ≠ 0
/-- While a step is read: the line, the answer's block, the step's block. -/
structure Sr (w : World) (n1 n2 n7 : Nat) (lv ys : List Value) (w' : World) : Prop where
  ch : Ch No w w'
  l : Blk w' n1 lv tLine
  r : Blk w' n2 (opCells 0 0 0 none 0 0) tOp
  o : Blk w' n7 ys tOp
  g2 : w.heap.size ≤ n2
  g7 : w.heap.size ≤ n7
  d1 : n1 ≠ n2
  d2 : n1 ≠ n7
  d3 : n7 ≠ n2
section
variable {w w1 w2 : World} {n1 n2 n7 : Nat} {lv ys ys' : List Value}
theorem Sr.no (h : Sr w n1 n2 n7 lv ys w1) (hc : Ch No w1 w2) : Sr w n1 n2 n7 lv ys w2 :=
  ⟨h.ch.trans hc, h.l.ch hc (fun h => h), h.r.ch hc (fun h => h), h.o.ch hc (fun h => h), h.g2, h.g7, h.d1, h.d2, h.d3⟩
theorem Sr.op (h : Sr w n1 n2 n7 lv ys w1) (hc : Ch (· = n7) w1 w2) (hb : Blk w2 n7 ys' tOp) : Sr w n1 n2 n7 lv ys' w2 :=
  ⟨h.ch.then_ hc (fun i hi (e : i = n7) => by have := h.g7; omega), h.l.ch hc h.d2, h.r.ch hc h.d3.symm, hb, h.g2, h.g7, h.d1, h.d2, h.d3⟩
theorem Sr.res (h : Sr w n1 n2 n7 lv ys w1) (hc : Ch (· = n2) w1 w2) : Ch No w w2 := h.ch.then_ hc (fun i hi (e : i = n2) => by have := h.g2; omega)
end
section
variable {R : Ending → World → Prop} {Q : Exit → List (Tmp × Value) → World → Prop} {w w1 : World}
theorem ret5 {n2 : Nat} {t2 : TypeId} {k a b : Int} {p : Option Addr} {n c : Nat} {v u : Value} (b2 : Blk w n2 (opCells k a b p n c) t2) (h : R (.returned (.tuple #[opVal k a b p n c, v, u])) w) :
    wpT Tryz.prog R Q (.load ⟨n2, 0, none⟩ (.int .i64) fun x => .load ⟨n2, 1, none⟩ (.int .i64) fun y => .load ⟨n2, 2, none⟩ (.int .i64) fun z => .load ⟨n2, 3, none⟩ .sl fun l =>
      .done (.returned (.tuple #[.agg #[.int .i64 x, .int .i64 y, .int .i64 z, .slice l.1 l.2.1 l.2.2], v, u]))) .pl w :=
  ld_int (b2.cell 0) (ld_int (b2.cell 1) (ld_int (b2.cell 2) (ld_sl (b2.cell 3) h)))
theorem cpr {n1 n2 n7 : Nat} {lv : List Value} {k a b : Int} {p : Option Addr} {n c : Nat} {v u : Value} (S : Sr w n1 n2 n7 lv (opCells k a b p n c) w1) (h : ∀ w', Ch No w w' → Ch (· = n2) w1 w' → R (.returned (.tuple #[opVal k a b p n c, v, u])) w') :
    wpT Tryz.prog R Q (.load ⟨n7, 0, none⟩ (.int .i64) fun x => .load ⟨n7, 1, none⟩ (.int .i64) fun y => .load ⟨n7, 2, none⟩ (.int .i64) fun z => .load ⟨n7, 3, none⟩ .sl fun l =>
      .store ⟨n2, 0, none⟩ (.int .i64 x) (.store ⟨n2, 1, none⟩ (.int .i64 y) (.store ⟨n2, 2, none⟩ (.int .i64 z) (.store ⟨n2, 3, none⟩ (.slice l.1 l.2.1 l.2.2)
        (.load ⟨n2, 0, none⟩ (.int .i64) fun x => .load ⟨n2, 1, none⟩ (.int .i64) fun y => .load ⟨n2, 2, none⟩ (.int .i64) fun z => .load ⟨n2, 3, none⟩ .sl fun l =>
      .done (.returned (.tuple #[.agg #[.int .i64 x, .int .i64 y, .int .i64 z, .slice l.1 l.2.1 l.2.2], v, u]))))))) .pl w1 :=
  cp4 (y0 := .int .i64 0) (y1 := .int .i64 0) (y2 := .int .i64 0) (y3 := .slice none 0 0) S.o S.r fun w' h' e' => ret5 e' (h w' (S.res h') h')
theorem hat_err {n1 n2 n7 j : Nat} {cd : Int} {s : ByteArray} {p : Option Addr} {n c : Nat} {k a b : Int} (S : Sr w n1 n2 n7 [.string s, .slice p n c] (opCells k a b none 0 0) w1) (A : AtW w p n (wordsR s.size s.data.toList))
    (h : ∀ w', Ch No w w' → R (.returned (.tuple #[opVal k a b none 0 0, .int .i64 ((s.size - (skipS (aft j s.data.toList)).length : Nat) : Int), .int .i64 cd])) w') :
    wpT Tryz.prog R Q (.hdrawn (.load ⟨n7, 0, none⟩ (.int .i64) fun x => .load ⟨n7, 1, none⟩ (.int .i64) fun y => .load ⟨n7, 2, none⟩ (.int .i64) fun z => .load ⟨n7, 3, none⟩ .sl fun l =>
      .load ⟨n1, 0, none⟩ .str fun s1 => .load ⟨n1, 1, none⟩ .sl fun l1 =>
      .eff (.call 29 #[.agg #[.string s1, .slice l1.1 l1.2.1 l1.2.2], .int .i64 j] (.one (.leaf (.int .i64))) fun v => .back (.eff (.store ⟨n2, 0, none⟩ (.int .i64 x) (.store ⟨n2, 1, none⟩ (.int .i64 y) (.store ⟨n2, 2, none⟩ (.int .i64 z) (.store ⟨n2, 3, none⟩ (.slice l.1 l.2.1 l.2.2)
        (.back (.undrawn (.load ⟨n2, 0, none⟩ (.int .i64) fun x => .load ⟨n2, 1, none⟩ (.int .i64) fun y => .load ⟨n2, 2, none⟩ (.int .i64) fun z => .load ⟨n2, 3, none⟩ .sl fun l =>
          .done (.returned (.tuple #[.agg #[.int .i64 x, .int .i64 y, .int .i64 z, .slice l.1 l.2.1 l.2.2], .int .i64 v, .int .i64 cd]))))))))))))) .pl w1 := by
  have S1 := S.no (Ch.refl No w1).drew
  refine hd_i (fun w' => Blk w' n7 (opCells k a b none 0 0) tOp ∧ Blk w' n1 [.string s, .slice p n c] tLine) ⟨S1.o, S1.l⟩ ?_
  refine lh_int (x := k) (fun w' h => h.1.cell 0) (lh_int (x := a) (fun w' h => h.1.cell 1) (lh_int (x := b) (fun w' h => h.1.cell 2) (lh_sl (p := none) (n := 0) (c := 0) (fun w' h => h.1.cell 3) ?_)))
  refine lh_str (x := s) (fun w' h => h.2.cell 0) (lh_sl (p := p) (n := n) (c := c) (fun w' h => h.2.cell 1) (eff_i (cl_i (rat_any s p n c j _ (A.no S1.ch)) ?_)))
  rintro e w2 ⟨rfl, h2⟩
  have S2 := S1.no h2
  refine ⟨_, rfl, bk ⟨S2.o, S2.l⟩ (eff_i (st4 (y0 := .int .i64 0) (y1 := .int .i64 0) (y2 := .int .i64 0) (y3 := .slice none 0 0) S2.r rfl rfl rfl rfl fun w3 h3 d3 => bk ⟨S2.o.ch h3 S2.d3, S2.l.ch h3 S2.d1⟩ (un_h (ret5 d3 (h _ (S2.res h3))))))⟩
end
theorem rfail_any (s : ByteArray) (p : Option Addr) (n c : Nat) (w : World) (A : AtW w p n (wordsR s.size s.data.toList)) (h2 : wordS (aft 2 s.data.toList) = wAfter) :
    Calls Tryz.prog 65 #[lineV s p n c] w (RefRes (opM s.size 7 (aft 1 s.data.toList)) w) := by
  unfold lineV
  refine calls_of_fnT mixed Tryz.func65 (s := s65) ?_
  rw [t65]
  have e2 : aft 2 s.data.toList = afterS (aft 1 s.data.toList) := aft_succ 1 _
  have e3 : aft 3 s.data.toList = afterS (afterS (aft 1 s.data.toList)) := by rw [aft_succ, e2]
  have e4 : aft 4 s.data.toList = afterS (afterS (afterS (aft 1 s.data.toList))) := by rw [aft_succ, e3]
  rw [fail_after (by rw [← e2]; exact h2), ← e4, ← e3]
  have hlt := words_lt s.size 4 s.data.toList
  have hwn := A.1
  refine nw fun w1 h1 z1 b1 => nw fun w2 h2 z2 b2 => nw fun w3 h3 z3 b3 => ?_
  have H3 := h1.trans (h2.trans h3)
  refine st4 (x0 := .int .i64 7) (x1 := .int .i64 0) (x2 := .int .i64 0) (x3 := .slice none 0 0) b3 rfl rfl rfl rfl fun w4 h4 b4 => ?_
  have S4 : Sr w w.heap.size w1.heap.size w2.heap.size [.string s, .slice p n c] (opCells 7 0 0 none 0 0) w4 := by
    have h23 := h2.trans h3
    refine ⟨H3.then_ h4 (fun i hi (e : i = _) => by omega), ((b1.ch h23 (fun h => h)).ch h4 (by omega)), ((b2.ch h3 (fun h => h)).ch h4 (by omega)), b4, by omega, by omega, by omega, by omega, by omega⟩
  refine ld_str (S4.l.cell 0) (ld_sl (S4.l.cell 1) (cl_i (rword_any s p n c 1 w4 (A.no S4.ch)) ?_))
  rintro e w5 ⟨rfl, h5⟩
  refine ⟨_, rfl, ?_⟩
  refine cl_i (rnumber_any _ true w5) ?_
  rintro e w6 ⟨rfl, rfl⟩
  refine ⟨(_, _, ()), rfl, ?_⟩
  rw [tb_data]
  have S5 := S4.no h5
  cases hq : numM true (wordS (aft 1 s.data.toList)) with
  | none =>
    refine br_true rfl (hat_err (j := 1) (cd := 62) S5 A fun w' h' => ⟨h', _, _, _, rfl, by decide⟩)
  | some x =>
    refine br_false rfl ?_
    refine ld_str (S5.l.cell 0) (ld_sl (S5.l.cell 1) (cl_i (rword_any s p n c 3 w6 (A.no S5.ch)) ?_))
    rintro e w7 ⟨rfl, h7⟩
    refine ⟨_, rfl, ?_⟩
    refine cl_i (rnumber_any _ true w7) ?_
    rintro e w8 ⟨rfl, rfl⟩
    refine ⟨(_, _, ()), rfl, ?_⟩
    rw [tb_data]
    have S7 := S5.no h7
    dsimp only
    cases hq : numM true (wordS (aft 3 s.data.toList)) with
    | none =>
      refine br_true rfl (hat_err (j := 3) (cd := 62) S7 A fun w' h' => ⟨h', _, _, _, rfl, by decide⟩)
    | some y =>
      dsimp only
      refine br_false rfl (ld_sl (S7.l.cell 1) (br_both (fun e => ?_) fun e => ?_))
      · have e : (4 : Int) < (n : Int) := gt_t e
        rw [if_neg (hlt.1 (by omega))]
        exact hat_err (j := 4) (cd := 61) S7 A fun w' h' => ⟨h', _, _, _, rfl, by decide⟩
      · have e : (n : Int) ≤ (4 : Int) := gt_f e
        rw [if_pos (Decidable.byContradiction fun h => by have := hlt.2 h; omega)]
        refine st_blk S7.o (by simp [opCells]) rfl fun w9 h9 z9 b9 => ?_
        have S9 := S7.op h9 b9
        refine st_blk S9.o (by simp [opCells]) rfl fun w10 h10 z10 b10 => ?_
        have S10 := S9.op h10 b10
        refine cpr (k := 7) (a := x) (b := y) (p := none) (n := 0) (c := 0) S10 fun w' h' _ => ⟨h', none, 0, 0, rfl, Row.nil _ _ _ _⟩
theorem rstep_any (s : ByteArray) (p : Option Addr) (n c : Nat) (w : World) (A : AtW w p n (wordsR s.size s.data.toList)) (hn : n ≤ 10001) :
    Calls Tryz.prog 28 #[lineV s p n c] w (RefRes (if kindM (wordS s.data.toList) = 0 then .error (s.size - (skipS s.data.toList).length, 61) else opM s.size (kindM (wordS s.data.toList)) (aft 1 s.data.toList)) w) := by
  unfold lineV
  refine calls_of_fnT mixed Tryz.func28 (s := s28) ?_
  rw [t28]
  have e2 : aft 2 s.data.toList = afterS (aft 1 s.data.toList) := aft_succ 1 _
  have e3 : aft 3 s.data.toList = afterS (afterS (aft 1 s.data.toList)) := by rw [aft_succ, e2]
  generalize hW : wordS s.data.toList = W
  have hk9 := kind_le W
  refine nw fun w1 h1 z1 b1 => nw fun w2 h2 z2 b2 => ?_
  refine ld_str ((b1.ch h2 (fun h => h)).cell 0) (ld_sl ((b1.ch h2 (fun h => h)).cell 1) (cl_i (rword_any s p n c 0 w2 ((A.no h1).no h2)) ?_))
  rintro e w3 ⟨rfl, h3⟩
  refine ⟨_, rfl, ?_⟩
  refine cl_i (rkind_any _ W (by rw [← hW]; rfl) w3) ?_
  rintro e w4 ⟨rfl, rfl⟩
  refine ⟨_, rfl, nw fun w5 h5 z5 b5 => ?_⟩
  have H5 := h1.trans (h2.trans (h3.trans h5))
  refine st4 (x0 := .int .i64 (kindM W)) (x1 := .int .i64 0) (x2 := .int .i64 0) (x3 := .slice none 0 0) b5 rfl rfl rfl rfl fun w6 h6 b6 => ?_
  have S6 : Sr w w.heap.size w1.heap.size w4.heap.size [.string s, .slice p n c] (opCells (kindM W) 0 0 none 0 0) w6 := by
    have h23 := h2.trans (h3.trans h5)
    have hz3 := h3.size
    refine ⟨H5.then_ h6 (fun i hi (e : i = _) => by omega), ((b1.ch h23 (fun h => h)).ch h6 (by omega)), ((b2.ch (h3.trans h5) (fun h => h)).ch h6 (by omega)), b6, by omega, by omega, by omega, by omega, by omega⟩
  generalize hn1 : w.heap.size = n1 at *
  generalize hn2 : w1.heap.size = n2 at *
  generalize hn7 : w4.heap.size = n7 at *
  refine ld_int (S6.o.cell 0) (br_both (fun e => ?_) fun e => ?_)
  · have e : kindM W = 0 := by have : (kindM W : Int) = 0 := eq_t e; omega
    rw [if_pos e]
    exact hat_err (j := 0) (cd := 61) S6 A fun w' h' => ⟨h', _, _, _, rfl, by decide⟩
  have hk0 : kindM W ≠ 0 := fun h => eq_f (a := (kindM W : Int)) e (by omega)
  clear e
  rw [if_neg hk0]
  generalize hK : kindM W = K at *
  have hpl : (if 1 ≤ (K : Int) ∧ (K : Int) ≤ 9 then numbersM (K : Int).toNat else 0) = numbersM K := by
    rw [if_pos (by omega)]; rfl
  have hm9 : numbersM K ≤ 9 := by
    have : ∀ i : Fin 10, numbersM i.val ≤ 9 := by decide
    exact this ⟨K, by omega⟩
  refine cut_i mixed s28_20 (fun (v : Bool × Unit) w' => Ch No w6 w' ∧ (v.1 = true ↔ K = 9 ∧ wordS (aft 1 s.data.toList) = wArm)) (by kernel_rfl) (fun g => ?_) ?_
  · rw [t28_20]
    refine ld_int (S6.o.cell 0) (br_both (fun e => ?_) fun e => ?_)
    · have e : K = 9 := by have : (K : Int) = 9 := eq_t e; omega
      refine ld_str (S6.l.cell 0) (ld_sl (S6.l.cell 1) (cl_i (rword_any s p n c 1 w6 (A.no S6.ch)) ?_))
      rintro e' w7 ⟨rfl, h7⟩
      refine ⟨_, rfl, ⟨rfl, (_, ()), rfl, h7, ?_⟩⟩
      rw [tb_list, tb_list]
      exact ⟨fun h => ⟨e, eq_of_beq h⟩, fun h => by dsimp only; rw [h.2]; rfl⟩
    · have e : K ≠ 9 := fun h => eq_f (a := (K : Int)) e (by omega)
      exact ⟨rfl, (_, ()), rfl, Ch.refl _ _, ⟨(fun h => by cases h), fun h => absurd h.1 e⟩⟩
  rintro ⟨u, ⟨⟩⟩ g w7 ⟨h7, hu⟩
  dsimp only at hu
  have S7 := S6.no h7
  refine br_both (fun e => ?_) fun e => ?_
  · obtain ⟨rfl, hw⟩ := hu.1 e
    rw [resG_arm hw, ← e3, ← e2]
    refine ld_str (S7.l.cell 0) (ld_sl (S7.l.cell 1) (cl_i (rword_any s p n c 2 w7 (A.no S7.ch)) ?_))
    rintro e w8 ⟨rfl, h8⟩
    refine ⟨_, rfl, ?_⟩
    refine cl_i (rnumber_any _ false w8) ?_
    rintro e w9 ⟨rfl, rfl⟩
    refine ⟨(_, _, ()), rfl, ?_⟩
    rw [tb_data]
    have S8 := S7.no h8
    cases hq : numM false (wordS (aft 2 s.data.toList)) with
    | none => exact br_true rfl (hat_err (j := 2) (cd := 62) S8 A fun w' h' => ⟨h', _, _, _, rfl, by decide⟩)
    | some x =>
      have hx := numM_le hq
      dsimp only
      refine br_false rfl (st_blk S8.o (by simp [opCells]) rfl fun w10 h10 z10 b10 => ?_)
      have hwr : IntKind.i64.wrap ((some x).getD 0 + 1) = x + 1 := wrap_in (by show -9223372036854775808 ≤ x + 1; omega) (by show x + 1 ≤ _; omega)
      have b10' : Blk w10 n7 (opCells 9 (x + 1) 0 none 0 0) tOp := by rw [← hwr]; exact b10
      have S10 := S8.op h10 b10'
      refine ld_int (S10.o.cell 0) (cl_i (rplain_any 9 w10) ?_)
      rintro e w11 ⟨rfl, rfl⟩
      refine ⟨(_, _, ()), rfl, ?_⟩
      refine cut_i mixed s28_43 (fun (v : Bool × Unit) w' => w' = w11 ∧ v.1 = false) (by kernel_rfl) (fun g => ?_) ?_
      · rw [t28_43]
        exact ld_int (S10.o.cell 0) (br_false rfl ⟨rfl, (_, ()), rfl, rfl, rfl⟩)
      rintro ⟨u, ⟨⟩⟩ g w12 ⟨rfl, rfl⟩
      refine br_false rfl (ld_str (S10.l.cell 0) (ld_sl (S10.l.cell 1) (cl_i (rnums_any s p n c 3 (by omega) (numbersM 9) (by decide) w12 (A.no S10.ch) hn) ?_)))
      rintro e w13 ⟨h13, hr⟩
      have S13 := S10.no h13
      cases hg : resG s.size (numbersM 9) (aft 3 s.data.toList) [] with
      | error er =>
        obtain ⟨pl, cd⟩ := er
        rw [hg] at hr
        obtain ⟨rfl, hcd⟩ := hr
        have t1 : (cd != 0) = true := by simpa using hcd
        refine ⟨((none, 0, 0), (pl : Int), cd, ()), rfl, br_true t1 (cpr S13 fun w' h' _ => ⟨h', _, _, _, rfl, hcd⟩)⟩
      | ok l =>
        rw [hg] at hr
        obtain ⟨q, m, d, rfl, row⟩ := hr
        refine ⟨((q, m, d), (0 : Int), (0 : Int), ()), rfl, br_false rfl (ld_int (S13.o.cell 0) (br_true rfl (st_blk S13.o (by simp [opCells]) rfl fun w14 h14 z14 b14 => ?_)))⟩
        have S14 := S13.op h14 b14
        have row14 := (row.base S10.ch.size).ch h14 (fun k hk e => by subst e; exact row.ne S13.o (by decide) hk)
        refine cpr (k := 9) (a := x + 1) (b := 0) (p := q) (n := m) (c := d) S14 fun w' h' h2' => ⟨h', q, m, d, rfl, ?_⟩
        exact row14.ch h2' (fun k hk e => by subst e; exact row14.ne S14.r (by decide) hk)
  · have hnarm : ¬ (K = 9 ∧ wordS (aft 1 s.data.toList) = wArm) := fun h => by rw [hu.2 h] at e; cases e
    clear hu e
    refine ld_int (S7.o.cell 0) (cl_i (rplain_any K w7) ?_)
    rintro e w8 ⟨rfl, he⟩
    rw [hpl] at he
    subst he
    refine ⟨(_, numbersM K, ()), rfl, ?_⟩
    refine cut_i mixed s28_100 (fun (v : Bool × Unit) w' => Ch No w8 w' ∧ (v.1 = true ↔ K = 7 ∧ wordS (aft 2 s.data.toList) = wAfter)) (by kernel_rfl) (fun g => ?_) ?_
    · rw [t28_100]
      refine ld_int (S7.o.cell 0) (br_both (fun e => ?_) fun e => ?_)
      · have e : K = 7 := by have : (K : Int) = 7 := eq_t e; omega
        refine ld_str (S7.l.cell 0) (ld_sl (S7.l.cell 1) (cl_i (rword_any s p n c 2 w8 (A.no S7.ch)) ?_))
        rintro e' w9 ⟨rfl, h9⟩
        refine ⟨_, rfl, ⟨rfl, (_, ()), rfl, h9, ?_⟩⟩
        rw [tb_list, tb_list]
        exact ⟨fun h => ⟨e, eq_of_beq h⟩, fun h => by dsimp only; rw [h.2]; rfl⟩
      · have e : K ≠ 7 := fun h => eq_f (a := (K : Int)) e (by omega)
        exact ⟨rfl, (_, ()), rfl, Ch.refl _ _, ⟨(fun h => by cases h), fun h => absurd h.1 e⟩⟩
    rintro ⟨u, ⟨⟩⟩ g w9 ⟨h9, hu⟩
    dsimp only at hu
    have S9 := S7.no h9
    refine br_both (fun e => ?_) fun e => ?_
    · obtain ⟨rfl, hw⟩ := hu.1 e
      refine ld_str (S9.l.cell 0) (ld_sl (S9.l.cell 1) (cl_i (rfail_any s p n c w9 (A.no S9.ch) hw) ?_))
      rintro e w10 ⟨h10, hr⟩
      have S10 := S9.no h10
      cases ho : opM s.size 7 (aft 1 s.data.toList) with
      | error er =>
        obtain ⟨pl, cd⟩ := er
        rw [ho] at hr
        obtain ⟨k, a, b, rfl, hcd⟩ := hr
        refine ⟨((k, a, b, (none, 0, 0), ()), (pl : Int), cd, ()), rfl, ?_⟩
        refine st4 (x0 := .int .i64 k) (x1 := .int .i64 a) (x2 := .int .i64 b) (x3 := .slice none 0 0) (y0 := .int .i64 0) (y1 := .int .i64 0) (y2 := .int .i64 0) (y3 := .slice none 0 0) S10.r rfl rfl rfl rfl fun w11 h11 b11 => ?_
        exact ret5 (k := k) (a := a) (b := b) (p := none) (n := 0) (c := 0) b11 ⟨S10.res h11, k, a, b, rfl, hcd⟩
      | ok o =>
        rw [ho] at hr
        obtain ⟨q, m, d, rfl, row⟩ := hr
        refine ⟨((o.kind, o.a, o.b, (q, m, d), ()), (0 : Int), (0 : Int), ()), rfl, ?_⟩
        refine st4 (x0 := .int .i64 o.kind) (x1 := .int .i64 o.a) (x2 := .int .i64 o.b) (x3 := .slice q m d) (y0 := .int .i64 0) (y1 := .int .i64 0) (y2 := .int .i64 0) (y3 := .slice none 0 0) S10.r rfl rfl rfl rfl fun w11 h11 b11 => ?_
        refine ret5 (k := o.kind) (a := o.a) (b := o.b) (p := q) (n := m) (c := d) b11 ⟨S10.res h11, q, m, d, rfl, ?_⟩
        exact (row.base S9.ch.size).ch h11 (fun k hk e => by subst e; exact row.ne S10.r (by decide) hk)
    · have hnf : ¬ (K = 7 ∧ wordS (afterS (aft 1 s.data.toList)) = wAfter) := fun h => by rw [← e2] at h; rw [hu.2 h] at e; cases e
      clear hu e
      rw [resG_std (by omega) hk9 hnarm hnf]
      refine ld_str (S9.l.cell 0) (ld_sl (S9.l.cell 1) (cl_i (rnums_any s p n c 1 (by omega) (numbersM K) hm9 w9 (A.no S9.ch) hn) ?_))
      rintro e w13 ⟨h13, hr⟩
      have S13 := S9.no h13
      cases hg : resG s.size (numbersM K) (aft 1 s.data.toList) [] with
      | error er =>
        obtain ⟨pl, cd⟩ := er
        rw [hg] at hr
        obtain ⟨rfl, hcd⟩ := hr
        have t1 : (cd != 0) = true := by simpa using hcd
        refine ⟨((none, 0, 0), (pl : Int), cd, ()), rfl, br_true t1 (cpr S13 fun w' h' _ => ⟨h', _, _, _, rfl, hcd⟩)⟩
      | ok l =>
        rw [hg] at hr
        obtain ⟨q, m, d, rfl, row⟩ := hr
        have hlen := row.len
        simp only [intCells, List.length_map, Nat.mul_one] at hlen
        refine ⟨((q, m, d), (0 : Int), (0 : Int), ()), rfl, br_false rfl (ld_int (S13.o.cell 0) (br_both (fun e => ?_) fun e => ?_))⟩
        · have e : K = 9 := by have : (K : Int) = 9 := eq_t e; omega
          dsimp only
          rw [if_pos e]
          refine st_blk S13.o (by simp [opCells]) rfl fun w14 h14 z14 b14 => ?_
          have S14 := S13.op h14 b14
          have row14 := (row.base S9.ch.size).ch h14 (fun k hk e => by subst e; exact row.ne S13.o (by decide) hk)
          subst e
          refine cpr (k := 9) (a := 0) (b := 0) (p := q) (n := m) (c := d) S14 fun w' h' h2' => ⟨h', q, m, d, rfl, ?_⟩
          exact row14.ch h2' (fun k hk e => by subst e; exact row14.ne S14.r (by decide) hk)
        · have e : K ≠ 9 := fun h => eq_f (a := (K : Int)) e (by omega)
          dsimp only
          rw [if_neg e]
          have hlm : 0 ≤ numbersM K → (l.length : Int) = numbersM K := fun h0 => by
            unfold resG at hg
            rw [if_neg (by omega)] at hg
            have := nums_len _ _ _ _ _ hg
            simp only [List.length_nil] at this
            omega
          refine cut_i mixed s28_133 (fun (v : Unit) w' => Sr w n1 n2 n7 [.string s, .slice p n c] (opCells K (if numbersM K > 0 then l.getD 0 0 else 0) 0 none 0 0) w' ∧ Row w' w9.heap.size tInt 1 q m d (intCells l)) (by kernel_rfl) (fun g => ?_) ?_
          · rw [t28_133]
            refine br_both (fun e => ?_) fun e => ?_
            · have e : 0 < numbersM K := gt_t e
              obtain ⟨g0, hp, _, hc⟩ := row.get (by have := hlm (by omega); omega)
              have hc0 := hc 0 (.int .i64 (l.getD 0 0)) (by
                have : 0 < l.length := by have := hlm (by omega); omega
                simp [intCells, List.getD, List.getElem?_eq_getElem this])
              rw [hp]
              refine ix_i (by decide) (by have := hlm (by omega); show (0 : Int) < (m : Int); omega) ?_
              refine ld_int (by rw [addr_add]; exact hc0) (st_blk S13.o (by simp [opCells]) rfl fun w14 h14 z14 b14 => ⟨rfl, (), rfl, ?_, ?_⟩)
              · rw [if_pos e]
                exact S13.op h14 b14
              · rw [← hp]
                exact row.ch h14 (fun k hk e => by subst e; exact row.ne S13.o (by decide) hk)
            · have e : numbersM K ≤ 0 := gt_f e
              rw [if_neg (by omega)]
              exact ⟨rfl, (), rfl, S13, row⟩
          rintro ⟨⟩ g w14 ⟨S14, row14⟩
          refine br_both (fun e => ?_) fun e => ?_
          · have e : 1 < numbersM K := gt_t e
            obtain ⟨g0, hp, _, hc⟩ := row14.get (by have := hlm (by omega); omega)
            have hc0 := hc 1 (.int .i64 (l.getD 1 0)) (by
              have : 1 < l.length := by have := hlm (by omega); omega
              simp [intCells, List.getD, List.getElem?_eq_getElem this])
            rw [hp]
            refine ix_i (by decide) (by have := hlm (by omega); show (1 : Int) < (m : Int); omega) ?_
            refine ld_int (by rw [addr_add]; exact hc0) (st_blk S14.o (by simp [opCells]) rfl fun w15 h15 z15 b15 => ?_)
            have S15 := S14.op h15 b15
            refine cpr (p := none) (n := 0) (c := 0) S15 fun w' h' _ => ⟨h', none, 0, 0, ?_, Row.nil _ _ _ _⟩
            rw [if_pos e]
          · have e : numbersM K ≤ 1 := gt_f e
            refine cpr S14 fun w' h' _ => ⟨h', none, 0, 0, ?_, Row.nil _ _ _ _⟩
            rw [if_neg (show ¬ numbersM K > 1 by omega)]
end Go.Proofs.YtjlmkahagcojcaaGreatDoor
