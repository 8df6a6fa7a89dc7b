/- A step's operands: operands itself. -/
import Derived.Test.YtjlmkahagcojcaaGreatDoorOpt
import Derived.Lib.LaidTab
import Derived.Test.YtjlmkahagcojcaaGreatDoorShelf
namespace Go.Proofs.YtjlmkahagcojcaaGreatDoor
open Go Tr
set_option maxRecDepth 100000
/-- The steps' words and numbers, as the program lays them. -/
def stepsL : List (List UInt8 × Int) := ([], 0) :: stepsM
/-- How many package-level variables there are: their blocks are the first ones. -/
abbrev nG : Nat := 9
/-- What the program's own variables hold. -/
structure Glob (w : World) : Prop where
  word : ∀ i x, stepsL[i]? = some x → w.cell? ⟨0, i * 2, none⟩ = some (.string (bytesL x.1))
  num : ∀ i x, stepsL[i]? = some x → w.cell? ⟨0, i * 2 + 1, none⟩ = some (.int .i64 x.2)
  ml : ∃ m, w.cell? ⟨2, 0, none⟩ = some (.int .i64 m)
  size : nG ≤ w.heap.size
  pow : Lib.TabIs Tryz.prog w "internal/strconv.uint64pow10" .u64 Lib.pow10Tab
theorem pow_ch {S : Nat → Prop} {w w' : World} (h2 : Lib.TabIs Tryz.prog w "internal/strconv.uint64pow10" .u64 Lib.pow10Tab) (hc : Ch S w w') (h0 : ∀ i, i < nG → ¬ S i) : Lib.TabIs Tryz.prog w' "internal/strconv.uint64pow10" .u64 Lib.pow10Tab := by
  unfold Lib.TabIs World.var? at h2 ⊢
  rw [show Tryz.prog.globalNamed "internal/strconv.uint64pow10" = some 1 by kernel_rfl] at h2 ⊢
  simp only [Option.bind_some] at h2 ⊢
  have hlt : 1 < w.heap.size := by
    rcases Nat.lt_or_ge 1 w.heap.size with h | h
    · exact h
    · rw [Array.getElem?_eq_none (by omega)] at h2; cases h2
  rw [hc.block _ hlt (h0 _ (show 1 < nG by decide))]
  exact h2
theorem Glob.ch {S : Nat → Prop} {w w' : World} (h : Glob w) (hc : Ch S w w') (h0 : ∀ i, i < nG → ¬ S i) : Glob w' := by
  have := h.size
  obtain ⟨m, hm⟩ := h.ml
  exact {
    word := fun i x hx => hc.cellv (h.word i x hx) (h0 _ (show 0 < nG by decide))
    num := fun i x hx => hc.cellv (h.num i x hx) (h0 _ (show 0 < nG by decide))
    ml := ⟨m, hc.cellv hm (h0 _ (show 2 < nG by decide))⟩
    size := Nat.le_trans h.size hc.size
    pow := pow_ch h.pow hc h0
  }
theorem steps_get (k : Nat) (h1 : 1 ≤ k) (h2 : k ≤ 9) : ∃ x, stepsL[k]? = some x ∧ x.2 = numbersM k := by
  have : ∀ k : Fin 10, 1 ≤ k.val → ∃ x, stepsL[k.val]? = some x ∧ x.2 = numbersM k.val := by decide
  exact this ⟨k, by omega⟩ h1
def plain2 (L : Nat) (k : Nat) (a bb : Int) (r : List UInt8) : PRes OpM := match endM L r with
  | .error e => .error e
  | .ok _ => .ok ⟨k, a, bb, []⟩
def plain1 (L : Nat) (k : Nat) (a : Int) (r : List UInt8) : PRes OpM := if numbersM k ≤ 1 then plain2 L k a 0 r else match numberM L true r with
  | .error e => .error e
  | .ok (m, r2) => plain2 L k a m r2
theorem plain_def (L k : Nat) (r : List UInt8) : plainM L k r = if numbersM k ≤ 0 then plain2 L k 0 0 r else match numberM L true r with
  | .error e => .error e
  | .ok (n, r1) => plain1 L k n r1 := rfl
section
variable {b n1 n2 : Nat} {s : ByteArray} {no : Int} {w0 w2 w w' : World} {r r' : List UInt8} {xs ys xs' : List Value}
theorem St.swap (h : St b n1 n2 s no w2 r w xs ys) : St b n2 n1 s no w2 r w ys xs :=
  ⟨h.ch.mono (fun i h => by
    rcases h with h | h | h
    · exact .inl h
    · exact .inr (.inr h)
    · exact .inr (.inl h)), h.cur, h.d2, h.d1, h.e2, h.e1, h.e3.symm⟩
end
theorem opr_any (b : Nat) (s : ByteArray) (no : Int) (r : List UInt8) (k : Nat) (k1 : 1 ≤ k) (k2 : k ≤ 9) (w : World) (h : Cur w b s no r) (hs : s.size ≤ 10000) (G : Glob w) (hb : nG ≤ b) :
    Calls Tryz.prog 60 #[.pointer (some ⟨b, 0, none⟩), .int .i64 k] w (OpRes b s no (opM s.size k r) w) := by
  refine calls_of_fnT mixed Tryz.func60 (s := s60) ?_
  rw [t60]
  refine two_new (xs := opCells 0 0 0 none 0 0) (ys := opCells 0 0 0 none 0 0) h fun n1 n2 w2 hn1 hn2 H2 S2 => ?_
  refine st4 (x0 := .int .i64 k) (x1 := .int .i64 0) (x2 := .int .i64 0) (x3 := .slice none 0 0) S2.d2 rfl rfl rfl rfl fun w3 h3 b3 => ?_
  have S3 := S2.two h3 b3
  unfold opM
  refine br_both (fun e => ?_) fun e => ?_
  · have hk : k = 9 := by have := eq_t e; omega
    subst hk
    rw [if_pos rfl]
    refine ld_int (S3.d2.cell 0) (ld_int (S3.d2.cell 1) (ld_int (S3.d2.cell 2) (ld_sl (S3.d2.cell 3) ?_)))
    refine cl_i (surv_any b s no r w3 S3.cur hs) ?_
    rintro e w4 ⟨h4, ⟨r', c4⟩, hm⟩
    have S4 := S3.curs h4 c4
    cases hx : recoverM s.size r with
    | error er =>
      obtain ⟨pl, cd⟩ := er
      rw [hx] at hm
      obtain ⟨k, a, bb, p, n, c, v, rfl, hv⟩ := hm
      refine ⟨((k, a, bb, (p, n, c), ()), v, ()), rfl, ?_⟩
      refine st4 (x0 := .int .i64 k) (x1 := .int .i64 a) (x2 := .int .i64 bb) (x3 := .slice p n c) S4.d1 rfl rfl rfl rfl fun w5 h5 b5 => ret4 b5 ?_
      have S5 := S4.one h5 b5
      exact ⟨three_new H2 S5.ch hn1 hn2, ⟨_, S5.cur⟩, _, _, _, _, _, _, v, rfl, err_two hv S4.d1 h5⟩
    | ok o =>
      rw [hx] at hm
      obtain ⟨p, n, c, rfl, row⟩ := hm
      refine ⟨((o.kind, o.a, o.b, (p, n, c), ()), .nilIface, ()), rfl, ?_⟩
      refine st4 (x0 := .int .i64 o.kind) (x1 := .int .i64 o.a) (x2 := .int .i64 o.b) (x3 := .slice p n c) S4.d1 rfl rfl rfl rfl fun w5 h5 b5 => ret4 b5 ?_
      have S5 := S4.one h5 b5
      exact ⟨three_new H2 S5.ch hn1 hn2, ⟨_, S5.cur⟩, p, n, c, rfl, (row.base (by have := H2.size; have := S3.ch.size; omega)).ch h5 (fun k hk e => by subst e; exact row.ne S4.d1 (by decide) hk)⟩
  · have hk : k ≠ 9 := fun h => eq_f e (by omega)
    rw [if_neg hk]
    refine br_both (fun e => ?_) fun e => ?_
    · have hk : k = 7 := by have := eq_t e; omega
      subst hk
      rw [if_pos rfl]
      refine ld_int (S3.d2.cell 0) (ld_int (S3.d2.cell 1) (ld_int (S3.d2.cell 2) (ld_sl (S3.d2.cell 3) ?_)))
      refine cl_i (fail_any b s no r w3 S3.cur hs) ?_
      rintro e w4 ⟨h4, ⟨r', c4⟩, hm⟩
      have S4 := S3.curs h4 c4
      cases hx : failM s.size r with
      | error er =>
        obtain ⟨pl, cd⟩ := er
        rw [hx] at hm
        obtain ⟨k, a, bb, p, n, c, v, rfl, hv⟩ := hm
        refine ⟨((k, a, bb, (p, n, c), ()), v, ()), rfl, ?_⟩
        refine st4 (x0 := .int .i64 k) (x1 := .int .i64 a) (x2 := .int .i64 bb) (x3 := .slice p n c) S4.d1 rfl rfl rfl rfl fun w5 h5 b5 => ret4 b5 ?_
        have S5 := S4.one h5 b5
        exact ⟨three_new H2 S5.ch hn1 hn2, ⟨_, S5.cur⟩, _, _, _, _, _, _, v, rfl, err_two hv S4.d1 h5⟩
      | ok o =>
        rw [hx] at hm
        obtain ⟨p, n, c, rfl, row⟩ := hm
        refine ⟨((o.kind, o.a, o.b, (p, n, c), ()), .nilIface, ()), rfl, ?_⟩
        refine st4 (x0 := .int .i64 o.kind) (x1 := .int .i64 o.a) (x2 := .int .i64 o.b) (x3 := .slice p n c) S4.d1 rfl rfl rfl rfl fun w5 h5 b5 => ret4 b5 ?_
        have S5 := S4.one h5 b5
        exact ⟨three_new H2 S5.ch hn1 hn2, ⟨_, S5.cur⟩, p, n, c, rfl, (row.base (by have := H2.size; have := S3.ch.size; omega)).ch h5 (fun k hk e => by subst e; exact row.ne S4.d1 (by decide) hk)⟩
    have hk7 : k ≠ 7 := fun h => eq_f e (by omega)
    rw [if_neg hk7]
    refine nw fun w4 h4 z4 b4 => ?_
    have S4 := S3.idle h4
    have hsz := S3.ch.size
    have hsz2 := H2.size
    have hlt1 := S3.d1.lt
    have hlt2 := S3.d2.lt
    have hltb := S3.cur.blk.lt
    generalize hn3 : w3.heap.size = n3 at *
    have hGs := G.size
    refine loop_i mixed m60_22 s60_22 (by kernel_rfl) (by kernel_rfl)
      (fun (v : Int × Unit) w' => ∃ a bb r', St b n1 n2 s no w2 r' w' (opCells 0 0 0 none 0 0) (opCells k a bb none 0 0) ∧ Blk w' n3 [.pointer (some ⟨n2, 1, none⟩), .pointer (some ⟨n2, 2, none⟩)] 161 ∧ ((v.1 = 0 ∧ a = 0 ∧ bb = 0 ∧ r' = r) ∨ (v.1 = 1 ∧ bb = 0 ∧ plainM s.size k r = plain1 s.size k a r') ∨ (v.1 = 2 ∧ plainM s.size k r = plain2 s.size k a bb r'))) (fun (v : Int × Unit) _ => 2 - v.1.toNat) (0, ()) rfl ⟨0, 0, r, S4, b4, .inl ⟨rfl, rfl, rfl, rfl⟩⟩ ?_
    rintro ⟨(i : Int), ⟨⟩⟩ g w5 ⟨a, bb, r5, S5, b5, hi⟩
    rw [t60_22]
    dsimp only at hi
    refine br_both (fun e => ?_) fun e => ?_
    · have hi2 : i < 2 := lt_t e
      have hi0 : 0 ≤ i := by omega
      have hp : ∃ m : Nat, m = i.toNat + 1 ∧ w5.cell? ⟨n3, 0 + i.toNat * 1, none⟩ = some (.pointer (some ⟨n2, m, none⟩)) := by
        refine ⟨_, rfl, ?_⟩
        rw [b5.cell, Nat.zero_add, Nat.mul_one]
        have : i.toNat = 0 ∨ i.toNat = 1 := by omega
        rcases this with h | h <;> rw [h] <;> rfl
      obtain ⟨m, hm, hpc⟩ := hp
      refine ix_i hi0 (by omega) (ld_ptr (by rw [addr_add]; exact hpc) ?_)
      obtain ⟨x, hx, hxn⟩ := steps_get k k1 k2
      have G5 : Glob w5 := G.ch (three_new H2 S5.ch hn1 hn2) (fun i hi (e : i = b) => by omega)
      refine ix_i (by omega) (by omega) (ld_int (x := numbersM k) (by rw [addr_add, addr_add, Nat.zero_add, Int.toNat_natCast, ← hxn]; exact G5.num k x hx) ?_)
      refine br_both (fun e => ?_) fun e => ?_
      · have hge : numbersM k ≤ i := ge_t e
        refine ⟨rfl, (), rfl, fun g => fin_end (k := k) (a := a) (bb := bb) (y0 := .int .i64 0) (y1 := .int .i64 0) (y2 := .int .i64 0) (y3 := .slice none 0 0) S5.swap hs H2 hn2 hn1 ?_ fun _ _ h => h⟩
        rcases hi with ⟨rfl, rfl, rfl, rfl⟩ | ⟨rfl, rfl, hpl⟩ | ⟨rfl, _⟩
        · rw [plain_def, if_pos hge]; rfl
        · rw [hpl]; unfold plain1; rw [if_pos hge]; rfl
        · omega
      have hlt : i < numbersM k := ge_f e
      refine cl_i (cnum_any b s no r5 true w5 S5.cur (by omega)) ?_
      rintro e w6 ⟨h6, c6, hmm⟩
      have S6 := S5.curs h6 c6
      have b6 := b5.ch h6 (fun e : n3 = b => by omega)
      cases hn : numberM s.size true r5 with
      | error er =>
        obtain ⟨pl, cd⟩ := er
        rw [hn] at hmm
        obtain ⟨v, rfl, hv⟩ := hmm
        refine ⟨((0 : Int), v, ()), rfl, ne_err hv (br_true rfl ?_)⟩
        refine cp4 S6.d2 S6.d1 fun w7 h7 e7 => ⟨(v, ()), rfl, fun g => ret4 e7 ?_⟩
        have S7 := S6.one h7 e7
        have hres : plainM s.size k r = .error (pl, cd) := by
          rcases hi with ⟨rfl, rfl, rfl, rfl⟩ | ⟨rfl, rfl, hpl⟩ | ⟨rfl, _⟩
          · rw [plain_def, if_neg (by omega), hn]
          · rw [hpl]; unfold plain1; rw [if_neg (by omega), hn]
          · omega
        rw [hres]
        exact ⟨three_new H2 S7.ch hn1 hn2, ⟨_, S7.cur⟩, _, _, _, _, _, _, v, rfl, err_two hv S6.d1 h7⟩
      | ok y =>
        obtain ⟨m', r'⟩ := y
        rw [hn] at hmm
        subst hmm
        obtain ⟨rfl, _, _⟩ := number_ok hn
        refine ⟨(m', .nilIface, ()), rfl, ne_nil (br_false rfl (pt_i ?_))⟩
        have hml : m < (opCells k a bb none 0 0).length := by simp [opCells]; omega
        refine st_blk S6.d2 hml rfl fun w7 h7 z7 b7 => ⟨(i + 1, ()), ?_, ?_, by dsimp only; omega⟩
        · rw [wrap_succ hi0 (by omega)]; rfl
        · have b7' := b6.ch h7 (fun e : n3 = n2 => by omega)
          have : i = 0 ∨ i = 1 := by omega
          rcases this with rfl | rfl
          · obtain rfl : m = 1 := hm
            rcases hi with ⟨_, rfl, rfl, rfl⟩ | ⟨h, _⟩ | ⟨h, _⟩
            · refine ⟨m', 0, _, S6.two h7 b7, b7', .inr (.inl ⟨rfl, rfl, ?_⟩)⟩
              rw [plain_def, if_neg (by omega), hn]
            · omega
            · omega
          · obtain rfl : m = 2 := hm
            rcases hi with ⟨h, _⟩ | ⟨_, rfl, hpl⟩ | ⟨h, _⟩
            · omega
            · refine ⟨a, m', _, S6.two h7 b7, b7', .inr (.inr ⟨rfl, ?_⟩)⟩
              rw [hpl]; unfold plain1; rw [if_neg (by omega), hn]
            · omega
    · have hi2 : 2 ≤ i := lt_f e
      refine ⟨rfl, (), rfl, fun g => fin_end (k := k) (a := a) (bb := bb) (y0 := .int .i64 0) (y1 := .int .i64 0) (y2 := .int .i64 0) (y3 := .slice none 0 0) S5.swap hs H2 hn2 hn1 ?_ fun _ _ h => h⟩
      rcases hi with ⟨rfl, _⟩ | ⟨rfl, _⟩ | ⟨rfl, hpl⟩
      · omega
      · omega
      · exact hpl
end Go.Proofs.YtjlmkahagcojcaaGreatDoor
