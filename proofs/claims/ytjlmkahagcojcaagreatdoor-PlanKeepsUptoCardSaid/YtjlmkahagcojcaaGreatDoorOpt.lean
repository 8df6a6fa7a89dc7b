/- A step's operands: what they answer. -/
import Derived.Test.YtjlmkahagcojcaaGreatDoorOps
namespace Go.Proofs.YtjlmkahagcojcaaGreatDoor
open Go Tr
set_option maxRecDepth 100000
/-- What a reading of a step's operands answers. -/
def OpRes (b : Nat) (s : ByteArray) (no : Int) (x : PRes OpM) (w : World) (e : Ending) (w' : World) : Prop :=
  Ch (· = b) w w' ∧ (∃ r', Cur w' b s no r') ∧ match x with
    | .ok o => ∃ p n c, e = .returned (.tuple #[opVal o.kind o.a o.b p n c, .nilIface]) ∧ Row w' w.heap.size tInt 1 p n c (intCells o.keep)
    | .error (pl, cd) => ∃ k a bb p n c v, e = .returned (.tuple #[opVal k a bb p n c, v]) ∧ ErrAt w' v no pl cd
/-- While operands are read: the cursor's block and the two of the step. -/
structure St (b n1 n2 : Nat) (s : ByteArray) (no : Int) (w2 : World) (r : List UInt8) (w : World) (xs ys : List Value) : Prop where
  ch : Ch (Three b n1 n2) w2 w
  cur : Cur w b s no r
  d1 : Blk w n1 xs tOp
  d2 : Blk w n2 ys tOp
  e1 : n1 ≠ b
  e2 : n2 ≠ b
  e3 : n1 ≠ n2
section
variable {b n1 n2 : Nat} {s : ByteArray} {no : Int} {w0 w2 w w' : World} {r r' : List UInt8} {xs ys xs' : List Value}
theorem St.curs (h : St b n1 n2 s no w2 r w xs ys) (hc : Ch (· = b) w w') (c : Cur w' b s no r') : St b n1 n2 s no w2 r' w' xs ys :=
  ⟨h.ch.trans (hc.mono fun _ h => .inl h), c, h.d1.ch hc h.e1, h.d2.ch hc h.e2, h.e1, h.e2, h.e3⟩
theorem St.one (h : St b n1 n2 s no w2 r w xs ys) (hc : Ch (· = n1) w w') (d : Blk w' n1 xs' tOp) : St b n1 n2 s no w2 r w' xs' ys :=
  ⟨h.ch.trans (hc.mono fun _ h => .inr (.inl h)), h.cur.ch hc h.e1.symm, d, h.d2.ch hc h.e3.symm, h.e1, h.e2, h.e3⟩
theorem St.two (h : St b n1 n2 s no w2 r w xs ys) (hc : Ch (· = n2) w w') (d : Blk w' n2 xs' tOp) : St b n1 n2 s no w2 r w' xs xs' :=
  ⟨h.ch.trans (hc.mono fun _ h => .inr (.inr h)), h.cur.ch hc h.e2.symm, h.d1.ch hc h.e3, d, h.e1, h.e2, h.e3⟩
theorem St.idle (h : St b n1 n2 s no w2 r w xs ys) (hc : Ch No w w') : St b n1 n2 s no w2 r w' xs ys :=
  ⟨h.ch.trans hc.no, h.cur.ch hc (fun h => h), h.d1.ch hc (fun h => h), h.d2.ch hc (fun h => h), h.e1, h.e2, h.e3⟩
theorem three_new (h : Ch No w w2) (h2 : Ch (Three b n1 n2) w2 w') (h3 : w.heap.size ≤ n1) (h4 : w.heap.size ≤ n2) : Ch (· = b) w w' :=
  h.no.then_ h2 (fun i hi h => by
    rcases h with h | h | h
    · exact h
    · omega
    · omega)
theorem err_two {v : Value} {l a c : Int} (hv : ErrAt w v l a c) (h : Blk w n2 xs tOp) (hc : Ch (· = n2) w w') : ErrAt w' v l a c := hv.ch hc fun b' vs hb e => by
  subst e
  unfold Blk at hb h
  rw [hb] at h
  simp [tFault, tOp] at h
/-- Two new blocks for steps. -/
theorem two_new {R : Ending → World → Prop} {Q : Exit → List (Tmp × Value) → World → Prop} {f : Nat → Nat → T} {xs ys : List Value} (h : Cur w b s no r)
    (hk : ∀ n1 n2 w2, w.heap.size ≤ n1 → w.heap.size ≤ n2 → Ch No w w2 → St b n1 n2 s no w2 r w2 xs ys → wpT Tryz.prog R Q (f n1 n2) .pl w2) :
    wpT Tryz.prog R Q (.new (.cells xs.toArray tOp (0, 0)) fun n1 => .new (.cells ys.toArray tOp (0, 0)) fun n2 => f n1 n2) .pl w := by
  have hlt := h.blk.lt
  refine nw fun w1 h1 z1 b1 => nw fun w2 h2 z2 b2 => ?_
  exact hk _ _ w2 (Nat.le_refl _) (by omega) (h1.trans h2) ⟨Ch.refl _ _, h.ch (h1.trans h2) (fun h => h), b1.ch h2 (fun h => h), b2, by omega, by omega, by omega⟩
end
theorem surv_any (b : Nat) (s : ByteArray) (no : Int) (r : List UInt8) (w : World) (h : Cur w b s no r) (hs : s.size ≤ 10000) :
    Calls Tryz.prog 95 #[.pointer (some ⟨b, 0, none⟩), opVal 9 0 0 none 0 0] w (OpRes b s no (recoverM s.size r) w) := by
  unfold opVal
  refine calls_of_fnT mixed Tryz.func95 (s := s95) ?_
  rw [t95]
  simp only [addr_add, Nat.zero_add]
  refine two_new (xs := opCells 9 0 0 none 0 0) (ys := opCells 0 0 0 none 0 0) h fun n1 n2 w2 hn1 hn2 H2 S2 => ?_
  refine ld_int (S2.cur.blk.cell 2) (cl_i (next_any b s no r w2 S2.cur (by omega)) ?_)
  rintro e w3 ⟨rfl, h3, c3⟩
  have S3 := S2.curs h3 c3
  refine ⟨(_, _, ()), rfl, ?_⟩
  dsimp only
  rw [tb_list, tb_list]
  unfold recoverM
  refine br_both (fun e => ?_) fun e => ?_
  · have hw : wordS r = wArm := eq_of_beq e
    rw [if_pos hw]
    refine cl_i (cnum_any b s no (afterS r) false w3 c3 (by omega)) ?_
    rintro e w4 ⟨h4, c4, hm⟩
    have S4 := S3.curs h4 c4
    cases hn : numberM s.size false (afterS r) with
    | error er =>
      obtain ⟨pl, cd⟩ := er
      rw [hn] at hm
      obtain ⟨v, rfl, hv⟩ := hm
      refine ⟨((0 : Int), v, ()), rfl, ne_err hv (br_true rfl ?_)⟩
      refine cp4 S4.d1 S4.d2 fun w5 h5 e5 => ret4 e5 ?_
      have S5 := S4.two h5 e5
      exact ⟨three_new H2 S5.ch hn1 hn2, ⟨_, S5.cur⟩, _, _, _, _, _, _, v, rfl, err_two hv S4.d2 h5⟩
    | ok x =>
      obtain ⟨m, r'⟩ := x
      rw [hn] at hm
      subst hm
      have hm2 : r' = afterS (afterS r) ∧ -999999999 ≤ m ∧ m ≤ 999999999 := by
        unfold numberM at hn
        split at hn
        · rename_i n hn2
          cases hn
          exact ⟨rfl, numM_le hn2⟩
        · cases hn
      obtain ⟨rfl, m1, m2⟩ := hm2
      refine ⟨(m, .nilIface, ()), rfl, ne_nil (br_false rfl ?_)⟩
      refine st_blk S4.d1 (by simp [opCells]) rfl fun w5 h5 z5 b5 => ?_
      rw [wrap_in (x := m + 1) (by omega) (by omega)] at b5
      have S5 := S4.one h5 b5
      refine surv_loop b n1 n2 s no _ 9 (m + 1) 0 S5.cur (by omega) S5.d1 S5.d2 S5.e1 S5.e2 S5.e3 ?_ ?_
      · intro l p n c w6 g' hk h6 hc6 d1 d2 row
        dsimp only
        have hk : keepM s.size ((afterS (afterS r)).length + 1) (afterS (afterS r)) [] = .ok l := hk
        rw [hk]
        refine cp4 d1 d2 fun w7 h7 e7 => ret4 e7 ?_
        obtain ⟨r6, c6⟩ := hc6
        refine ⟨three_new H2 (S5.ch.trans (h6.trans (h7.mono fun i h => .inr (.inr h)))) hn1 hn2, ⟨r6, c6.ch h7 S5.e2.symm⟩, p, n, c, rfl, ?_⟩
        exact (row.base (by have := H2.size; have := S5.ch.size; omega)).ch h7 (fun k hk e => by subst e; exact row.ne d2 (by decide) hk)
      · intro pl cd v p n c w6 g' hk h6 hc6 d2 hv
        dsimp only
        have hk : keepM s.size ((afterS (afterS r)).length + 1) (afterS (afterS r)) [] = .error (pl, cd) := hk
        rw [hk]
        refine ret4 d2 ?_
        exact ⟨three_new H2 (S5.ch.trans h6) hn1 hn2, hc6, _, _, _, _, _, _, v, rfl, hv⟩
  · have hw : wordS r ≠ wArm := fun h => by rw [h] at e; cases e
    rw [if_neg hw]
    refine st_blk S3.cur.blk (by simp) rfl fun w4 h4 z4 b4 => ?_
    have S4 : St b n1 n2 s no w2 r w4 _ _ := S3.curs h4 ⟨h.suf, b4⟩
    refine surv_loop b n1 n2 s no _ 9 0 0 S4.cur (by omega) S4.d1 S4.d2 S4.e1 S4.e2 S4.e3 ?_ ?_
    · intro l p n c w6 g' hk h6 hc6 d1 d2 row
      have hk : keepM s.size (r.length + 1) r [] = .ok l := hk
      rw [hk]
      refine cp4 d1 d2 fun w7 h7 e7 => ret4 e7 ?_
      obtain ⟨r6, c6⟩ := hc6
      refine ⟨three_new H2 (S4.ch.trans (h6.trans (h7.mono fun i h => .inr (.inr h)))) hn1 hn2, ⟨r6, c6.ch h7 S4.e2.symm⟩, p, n, c, rfl, ?_⟩
      exact (row.base (by have := H2.size; have := S4.ch.size; omega)).ch h7 (fun k hk e => by subst e; exact row.ne d2 (by decide) hk)
    · intro pl cd v p n c w6 g' hk h6 hc6 d2 hv
      have hk : keepM s.size (r.length + 1) r [] = .error (pl, cd) := hk
      rw [hk]
      refine ret4 d2 ?_
      exact ⟨three_new H2 (S4.ch.trans h6) hn1 hn2, hc6, _, _, _, _, _, _, v, rfl, hv⟩

theorem number_ok {L : Nat} {sg : Bool} {r r' : List UInt8} {m : Int} (hn : numberM L sg r = .ok (m, r')) : r' = afterS r ∧ -999999999 ≤ m ∧ m ≤ 999999999 := by
  unfold numberM at hn
  split at hn
  · rename_i n hn2
    cases hn
    exact ⟨rfl, numM_le hn2⟩
  · cases hn
/-- The last step of a reading: no word more. -/
theorem fin_end {R : Ending → World → Prop} {Q : Exit → List (Tmp × Value) → World → Prop} {b n1 n2 : Nat} {s : ByteArray} {no : Int} {w w0 w2 : World} {r : List UInt8} {k a bb : Int} {y0 y1 y2 y3 : Value} {x : PRes OpM}
    (S : St b n1 n2 s no w2 r w (opCells k a bb none 0 0) [y0, y1, y2, y3]) (hs : s.size ≤ 10000) (H : Ch No w0 w2) (hn1 : w0.heap.size ≤ n1) (hn2 : w0.heap.size ≤ n2)
    (hx : x = match endM s.size r with | .error e => .error e | .ok _ => .ok ⟨k, a, bb, []⟩) (hR : ∀ e w', OpRes b s no x w0 e w' → R e w') :
    wpT Tryz.prog R Q (.hdrawn (.load ⟨n1, 0, none⟩ (.int .i64) fun x => .load ⟨n1, 1, none⟩ (.int .i64) fun y => .load ⟨n1, 2, none⟩ (.int .i64) fun z => .load ⟨n1, 3, none⟩ .sl fun l =>
      .eff (.call (58) #[.pointer (some ⟨b, 0, none⟩)] (.one (.leaf .any)) fun v => .back (.eff (.store ⟨n2, 0, none⟩ (.int .i64 x) (.store ⟨n2, 1, none⟩ (.int .i64 y) (.store ⟨n2, 2, none⟩ (.int .i64 z) (.store ⟨n2, 3, none⟩ (.slice l.1 l.2.1 l.2.2)
        (.back (.undrawn (.load ⟨n2, 0, none⟩ (.int .i64) fun x => .load ⟨n2, 1, none⟩ (.int .i64) fun y => .load ⟨n2, 2, none⟩ (.int .i64) fun z => .load ⟨n2, 3, none⟩ .sl fun l =>
          .done (.returned (.tuple #[.agg #[.int .i64 x, .int .i64 y, .int .i64 z, .slice l.1 l.2.1 l.2.2], v]))))))))))))) .pl w := by
  have S1 := S.idle (Ch.refl No w).drew
  refine hcp4 (t1 := tOp) (t2 := tOp) S.d1 S.e3 (end_any b s no r w.drew S1.cur (by omega)) ?_
  rintro e w3 ⟨h3, c3, hm⟩
  have S3 := S1.curs h3 c3
  cases he : endM s.size r with
  | error er =>
    obtain ⟨pl, cd⟩ := er
    rw [he] at hm hx
    obtain ⟨v, rfl, hv⟩ := hm
    refine ⟨v, _, _, _, _, rfl, S3.d1, S3.d2, fun w4 h4 d4 => hR _ _ ?_⟩
    rw [hx]
    have S4 := S3.two h4 d4
    exact ⟨three_new H S4.ch hn1 hn2, ⟨_, S4.cur⟩, _, _, _, _, _, _, v, rfl, err_two hv S3.d2 h4⟩
  | ok u =>
    rw [he] at hm hx
    subst hm
    refine ⟨.nilIface, _, _, _, _, rfl, S3.d1, S3.d2, fun w4 h4 d4 => hR _ _ ?_⟩
    rw [hx]
    have S4 := S3.two h4 d4
    exact ⟨three_new H S4.ch hn1 hn2, ⟨_, S4.cur⟩, none, 0, 0, rfl, Row.nil _ _ _ _⟩
theorem fail_any (b : Nat) (s : ByteArray) (no : Int) (r : List UInt8) (w : World) (h : Cur w b s no r) (hs : s.size ≤ 10000) :
    Calls Tryz.prog 96 #[.pointer (some ⟨b, 0, none⟩), opVal 7 0 0 none 0 0] w (OpRes b s no (failM s.size r) w) := by
  unfold opVal
  refine calls_of_fnT mixed Tryz.func96 (s := s96) ?_
  rw [t96]
  refine two_new (xs := opCells 7 0 0 none 0 0) (ys := opCells 0 0 0 none 0 0) h fun n1 n2 w2 hn1 hn2 H2 S2 => ?_
  refine cl_i (cnum_any b s no r true w2 S2.cur (by omega)) ?_
  rintro e w3 ⟨h3, c3, hm⟩
  have S3 := S2.curs h3 c3
  unfold failM
  cases hn : numberM s.size true r with
  | error er =>
    obtain ⟨pl, cd⟩ := er
    rw [hn] at hm
    obtain ⟨v, rfl, hv⟩ := hm
    refine ⟨((0 : Int), v, ()), rfl, st_blk S3.d1 (by simp [opCells]) rfl fun w4 h4 z4 b4 => ?_⟩
    have S4 := S3.one h4 b4
    have hv4 := err_two hv S3.d1 h4
    refine ne_err hv4 (br_true rfl (cp4 S4.d1 S4.d2 fun w5 h5 e5 => ret4 e5 ?_))
    have S5 := S4.two h5 e5
    exact ⟨three_new H2 S5.ch hn1 hn2, ⟨_, S5.cur⟩, _, _, _, _, _, _, v, rfl, err_two hv4 S4.d2 h5⟩
  | ok x =>
    obtain ⟨m, r'⟩ := x
    rw [hn] at hm
    subst hm
    obtain ⟨rfl, m1, m2⟩ := number_ok hn
    refine ⟨(m, .nilIface, ()), rfl, st_blk S3.d1 (by simp [opCells]) rfl fun w4 h4 z4 b4 => ?_⟩
    have S4 := S3.one h4 b4
    refine ne_nil (br_false rfl ?_)
    refine cl_i (next_any b s no _ w4 S4.cur (by omega)) ?_
    rintro e w5 ⟨rfl, h5, c5⟩
    have S5 := S4.curs h5 c5
    refine ⟨(_, _, ()), rfl, ?_⟩
    dsimp only
    rw [tb_list, tb_list, tb_nil]
    refine br_both (fun e => ?_) fun e => ?_
    · have hw : wordS (afterS r) = wAfter := eq_of_beq e
      rw [if_pos hw]
      refine cl_i (cnum_any b s no _ true w5 S5.cur (by omega)) ?_
      rintro e w6 ⟨h6, c6, hm⟩
      have S6 := S5.curs h6 c6
      cases hq2 : numberM s.size true (afterS (afterS r)) with
      | error er =>
        obtain ⟨pl, cd⟩ := er
        rw [hq2] at hm
        obtain ⟨v, rfl, hv⟩ := hm
        refine ⟨((0 : Int), v, ()), rfl, st_blk S6.d1 (by simp [opCells]) rfl fun w7 h7 z7 b7 => ?_⟩
        have S7 := S6.one h7 b7
        have hv7 := err_two hv S6.d1 h7
        refine ne_err hv7 (br_true rfl (cp4 S7.d1 S7.d2 fun w8 h8 e8 => ret4 e8 ?_))
        have S8 := S7.two h8 e8
        exact ⟨three_new H2 S8.ch hn1 hn2, ⟨_, S8.cur⟩, _, _, _, _, _, _, v, rfl, err_two hv7 S7.d2 h8⟩
      | ok x =>
        obtain ⟨m', r'⟩ := x
        rw [hq2] at hm
        subst hm
        obtain ⟨rfl, m1, m2⟩ := number_ok hq2
        refine ⟨(m', .nilIface, ()), rfl, st_blk S6.d1 (by simp [opCells]) rfl fun w7 h7 z7 b7 => ?_⟩
        have S7 := S6.one h7 b7
        refine ne_nil (br_false rfl ?_)
        exact fin_end (k := 7) (a := m) (bb := m') (y0 := .int .i64 0) (y1 := .int .i64 0) (y2 := .int .i64 0) (y3 := .slice none 0 0) S7 hs H2 hn1 hn2 rfl fun _ _ h => h
    · have hw : wordS (afterS r) ≠ wAfter := fun h => by rw [h] at e; cases e
      rw [if_neg hw]
      refine br_both (fun e => ?_) fun e => ?_
      · have hw2 : wordS (afterS r) ≠ [] := fun h => by rw [h] at e; cases e
        rw [if_neg hw2]
        have S5' := S5.idle (Ch.refl No w5).drew
        refine hcp4 (t1 := tOp) (t2 := tOp) (k := 7) (a := m) (b := 0) (p := none) (n := 0) (c := 0) S5.d1 S5.e3 (fault_any b s no _ _ 61 w5.drew S5'.cur) ?_
        rintro e w6 ⟨v, rfl, hv, h6⟩
        have S6 := S5'.idle h6
        refine ⟨v, _, _, _, _, rfl, S6.d1, S6.d2, fun w7 h7 d7 => ?_⟩
        have S7 := S6.two h7 d7
        exact ⟨three_new H2 S7.ch hn1 hn2, ⟨_, S7.cur⟩, _, _, _, _, _, _, v, rfl, err_two hv S6.d2 h7⟩
      · have hw2 : wordS (afterS r) = [] := by
          cases hc : wordS (afterS r) with
          | nil => rfl
          | cons c t => rw [hc] at e; cases e
        rw [if_pos hw2]
        refine fin_end (k := 7) (a := m) (bb := 0) (y0 := .int .i64 0) (y1 := .int .i64 0) (y2 := .int .i64 0) (y3 := .slice none 0 0) S5 hs H2 hn1 hn2 ?_ fun _ _ h => h
        have : wordS (afterS (afterS r)) = [] := by
          have h1 := word_app (afterS r)
          rw [hw2, List.nil_append] at h1
          have h3 : afterS (afterS r) = [] := by
            cases ha : afterS (afterS r) with
            | nil => rfl
            | cons c t =>
              exfalso
              rw [ha] at h1
              unfold wordS at hw2
              rw [← h1] at hw2
              have hc : c ≠ 32 := by
                have := List.head?_dropWhile_not (p := (· == (32 : UInt8))) (l := afterS r)
                rw [show (afterS r).dropWhile (· == 32) = c :: t from h1.symm] at this
                simpa using this
              rw [List.takeWhile_cons, if_pos (by simpa using hc)] at hw2
              cases hw2
          rw [h3]; rfl
        unfold endM
        rw [if_pos this]
end Go.Proofs.YtjlmkahagcojcaaGreatDoor
