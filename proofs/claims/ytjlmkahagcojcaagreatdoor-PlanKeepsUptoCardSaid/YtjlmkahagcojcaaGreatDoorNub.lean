/- end, more, number: what they answer. -/
import Derived.Test.YtjlmkahagcojcaaGreatDoorWrd
import Derived.Lib.ConvBytes
import Derived.Lib.TrimByte
namespace Go.Proofs.YtjlmkahagcojcaaGreatDoor
open Go Tr
set_option maxRecDepth 100000
abbrev tBytes : TypeId := 92
abbrev tByte : TypeId := 5
theorem tb_nil : (bytesL []).toList = [] := by rw [ByteArray.toList_eq]
theorem tb_list (l : List UInt8) : (bytesL l).toList = l := by rw [ByteArray.toList_eq]
theorem tb_size (l : List UInt8) : (bytesL l).size = l.length := by show (List.toArray l).size = _; simp
theorem tb_data (l : List UInt8) : (bytesL l).data.toList = l := rfl

theorem end_any (b : Nat) (s : ByteArray) (no : Int) (r : List UInt8) (w : World) (h : Cur w b s no r) (hs : s.size < 9223372036854775807) :
    Calls Tryz.prog 58 #[.pointer (some ⟨b, 0, none⟩)] w fun e w' => Ch (· = b) w w' ∧ Cur w' b s no (afterS r) ∧ match endM s.size r with
      | .ok _ => e = .returned .nilIface
      | .error (p, c) => ∃ v, e = .returned v ∧ ErrAt w' v no p c := by
  refine calls_of_fnT mixed Tryz.func58 (s := s58) ?_
  rw [t58]
  refine cl_i (next_any b s no r w h hs) ?_
  rintro e w1 ⟨rfl, h1, c1⟩
  refine ⟨(_, _, ()), rfl, ?_⟩
  dsimp only
  rw [tb_list, tb_nil]
  unfold endM
  refine br_both (fun e => ?_) fun e => ?_
  · have hw : wordS r ≠ [] := by
      intro hw
      rw [hw] at e
      cases e
    rw [if_neg hw]
    refine cl_i (fault_any b s no _ _ 61 w1 c1) ?_
    rintro e w2 ⟨v, rfl, hv, h2⟩
    exact ⟨v, rfl, h1.trans h2.no, c1.ch h2 (fun h => h), v, rfl, hv⟩
  · have hw : wordS r = [] := by
      cases hc : wordS r with
      | nil => rfl
      | cons c t => rw [hc] at e; cases e
    rw [if_pos hw]
    exact ⟨h1, c1, rfl⟩

theorem trim_nil (l : List UInt8) : Lib.trimB l 32 = [] ↔ skipS l = [] := by
  have h1 : ∀ l : List UInt8, l.dropWhile (· == 32) = [] ↔ ∀ c ∈ l, c = 32 := by
    intro l
    induction l with
    | nil => simp
    | cons c t ih =>
      rw [List.dropWhile_cons]
      by_cases h : c = 32
      · subst h; simpa using ih
      · rw [if_neg (by simpa using h)]
        simp [h]
  have h2 : ∀ l : List UInt8, l.dropWhile (· == 32) <:+ l := fun l => List.dropWhile_suffix _
  unfold Lib.trimB Lib.trimLeftB Lib.trimRightB skipS
  rw [h1 l]
  constructor
  · intro h
    have h3 : (l.reverse.dropWhile (· == 32)).reverse = (l.reverse.dropWhile (· == 32)).reverse := rfl
    have h4 := (h1 _).1 h
    have h5 : ∀ c ∈ l.reverse.dropWhile (· == 32), c = 32 := fun c hc => h4 c (List.mem_reverse.2 hc)
    have h6 : l.reverse.dropWhile (· == 32) = [] := by
      cases hd : l.reverse.dropWhile (· == 32) with
      | nil => rfl
      | cons c t =>
        have hc : c = 32 := h5 c (by rw [hd]; exact .head _)
        have := List.head?_dropWhile_not (p := (· == (32 : UInt8))) (l := l.reverse)
        rw [hd] at this
        simp [hc] at this
    exact fun c hc => (h1 _).1 h6 c (List.mem_reverse.2 hc)
  · intro h
    have h6 : l.reverse.dropWhile (· == 32) = [] := (h1 _).2 fun c hc => h c (List.mem_reverse.1 hc)
    rw [h6]
    rfl

theorem more_any (b : Nat) (s : ByteArray) (no : Int) (r : List UInt8) (w : World) (h : Cur w b s no r) (hs : s.size < 9223372036854775807) :
    Calls Tryz.prog 127 #[.pointer (some ⟨b, 0, none⟩)] w fun e w' => e = .returned (.bool (!(skipS r == []))) ∧ Ch No w w' := by
  refine calls_of_fnT mixed Tryz.func127 (s := s127) ?_
  rw [t127]
  simp only [addr_add, Nat.zero_add]
  have hd := (Ch.refl No w).drew
  refine ⟨fun w' => Ch No w w', hd, ?_⟩
  refine ⟨s, fun w' h' => (h.blk.ch h' (fun h => h)).cell 0, _, fun w' h' => (h.blk.ch h' (fun h => h)).cell 2, ?_⟩
  have hsl := suf_len h.suf
  refine nd3 (by omega) (by omega) (by omega) ?_
  have hx : s.extract ((s.size - r.length : Nat) : Int).toNat s.size = bytesL r := by
    simp only [Int.toNat_natCast]
    refine ByteArray.ext ?_
    rw [ByteArray.data_extract]
    apply Array.toList_inj.1
    show _ = (List.toArray _).toList
    rw [Array.toList_extract, List.extract_eq_take_drop, suf_drop h.suf]
    rw [show s.size - (s.size - r.length) = r.length by omega, List.take_length]
  rw [hx]
  refine ⟨bytesL (Lib.trimB r 32), fun w' h' => (Tryz.strings_Trim_one (bytesL r) 32 (by decide) w' (by rw [tb_size]; omega)).mono ?_, ?_⟩
  · rintro e w2 ⟨rfl, rfl | rfl⟩
    · exact ⟨rfl, h'⟩
    · exact ⟨rfl, h'.drew⟩
  · intro w2 h2
    refine ⟨?_, h2⟩
    rw [tb_list, tb_nil]
    congr 2
    have := trim_nil r
    cases hc : Lib.trimB r 32 with
    | nil => rw [this.1 hc]
    | cons c t =>
      have h3 : ¬ skipS r = [] := fun e => by rw [this.2 e] at hc; cases hc
      cases hc2 : skipS r with
      | nil => exact absurd hc2 h3
      | cons c t => rfl

section
variable {R : Ending → World → Prop} {Q : Exit → List (Tmp × Value) → World → Prop} {w : World} {md : Md} [hmd : md.Runs]
/-- A string's bytes, in a new row. -/
theorem by_s {k : Option Addr × Nat × Nat → T} (s : ByteArray)
    (h : ∀ w' c, Ch No w w' → (∀ j u, s.data.toList[j]? = some u → w'.cell? ⟨w.heap.size, j, none⟩ = some (.int .u8 u.toNat)) → w.heap.size < w'.heap.size → wpT Tryz.prog R Q (k (some ⟨w.heap.size, 0, none⟩, s.size, c)) md w') :
    wpT Tryz.prog R Q (.run (vNext (convert 9 tBytes (.string s))) (.one (.leaf .sl)) k) md w := by
  refine t_run (x := (some ⟨w.heap.size, 0, none⟩, s.size, grownCap w s.size 0 tByte)) (w' := Lib.bytesWorld w tByte s) ?_ (h _ _ ?_ ?_ ?_)
  · unfold vNext
    simp only [Sem.run_bind, Lib.run_convert_string_bytes (P := Tryz.prog) w 9 tBytes tByte s (u := .string) (by kernel_rfl) (by kernel_rfl) (by kernel_rfl), Result.andThen]
    rfl
  · exact ⟨rfl, rfl, rfl, by rw [Lib.bytesWorld_size]; omega, fun k hk _ => Lib.bytesWorld_at_old w tByte s k hk⟩
  · intro j u hu
    obtain ⟨hj, _⟩ := List.getElem?_eq_some_iff.1 hu
    rw [Lib.bytesWorld_cell w tByte s j hj]
    simp [List.getD, hu]
  · rw [Lib.bytesWorld_size]; omega
end
theorem digM_drop {l : List UInt8} {i : Nat} {c : UInt8} (a : Nat) (h : l[i]? = some c) : digM (l.drop i) a = if 48 ≤ c.toNat ∧ c.toNat ≤ 57 then digM (l.drop (i + 1)) (10 * a + (c.toNat - 48)) else none := by
  obtain ⟨hi, e⟩ := List.getElem?_eq_some_iff.1 h
  rw [List.drop_eq_getElem_cons hi, e]
  rfl
theorem digM_lt : ∀ (l : List UInt8) (a n : Nat), digM l a = some n → n < (a + 1) * 10 ^ l.length
  | [], a, n, h => by simp only [digM, Option.some.injEq] at h; subst h; simp
  | c :: t, a, n, h => by
    simp only [digM] at h
    split at h
    · rename_i hc
      have := digM_lt t _ n h
      rw [List.length_cons, Nat.pow_succ]
      have h2 : (10 * a + (c.toNat - 48) + 1) * 10 ^ t.length ≤ (10 * (a + 1)) * 10 ^ t.length := Nat.mul_le_mul_right _ (by omega)
      calc n < _ := this
        _ ≤ _ := h2
        _ = _ := by rw [Nat.mul_comm 10 (a + 1), Nat.mul_assoc, Nat.mul_comm 10]
    · cases h
theorem numW_le {m : Bool} {d : List UInt8} {n : Int} (h : numW m d = some n) : -999999999 ≤ n ∧ n ≤ 999999999 := by
  unfold numW at h
  split at h
  · cases h
  · rename_i hl
    split at h
    · cases h
    · rename_i k hk
      have h1 := digM_lt d 0 k hk
      have h2 : 10 ^ d.length ≤ 10 ^ 9 := Nat.pow_le_pow_right (by decide) (by omega)
      have : k ≤ 999999999 := by omega
      cases h
      split <;> omega
theorem numM_le {sg : Bool} {d : List UInt8} {n : Int} (h : numM sg d = some n) : -999999999 ≤ n ∧ n ≤ 999999999 := by
  unfold numM at h
  split at h
  · cases h
  · split at h <;> exact numW_le h
theorem numM_split (sg : Bool) (d : List UInt8) : numM sg d = if sg = true then numW (Lib.hasPrefix d [45]) (Lib.trimPrefix d [45]) else numW false d := by
  cases sg with
  | false =>
    rw [if_neg (by decide)]
    cases d with
    | nil => rfl
    | cons c t => unfold numM; dsimp only; rw [if_neg (by simp)]
  | true =>
    rw [if_pos rfl]
    cases d with
    | nil => rfl
    | cons c t =>
      unfold numM Lib.trimPrefix Lib.hasPrefix
      dsimp only
      by_cases hc : c = 45
      · subst hc; simp [List.isPrefixOf]
      · have : ([45] : List UInt8).isPrefixOf (c :: t) = false := by simp [List.isPrefixOf, Ne.symm hc]
        rw [this, if_neg (by simp [hc])]
        rfl
/-- The loop over the digits: at its end. -/
theorem digit_u8 (c : UInt8) (h : 48 ≤ c.toNat ∧ c.toNat ≤ 57) : IntKind.u8.wrap ((c.toNat : Int) - 48) = ((c.toNat - 48 : Nat) : Int) := by
  rw [IntKind.wrap_u8']; omega

theorem number_any (s : ByteArray) (sg : Bool) (w : World) :
    Calls Tryz.prog 94 #[.string s, .bool sg] w fun e w' => e = .returned (.tuple #[.int .i64 ((numM sg s.data.toList).getD 0), .bool (numM sg s.data.toList).isSome]) ∧ Ch No w w' := by
  refine calls_of_fnT mixed Tryz.func94 (s := s94) ?_
  rw [t94, numM_split]
  refine br_both (fun e => ?_) fun e => ?_
  · subst e
    rw [if_pos rfl]
    have hcp := Tryz.strings_CutPrefix s (bytesL [45]) w
    rw [tb_data] at hcp
    generalize Lib.hasPrefix s.data.toList [45] = mi at *
    generalize Lib.trimPrefix s.data.toList [45] = d at *
    refine cl_i hcp ?_
    rintro e w1 ⟨rfl, rfl⟩
    refine ⟨(bytesL d, mi, ()), rfl, ?_⟩
    refine cut_i mixed s94_2 (fun (v : Bool × Unit) w' => w' = w1 ∧ v.1 = decide (d.length < 1 ∨ 9 < d.length)) (by kernel_rfl) (fun g => ?_) ?_
    · rw [t94_2]
      have hsz : ((bytesL d, mi, ()) : ByteArray × Bool × Unit).1.size = d.length := tb_size d
      refine br_both (fun e => ⟨rfl, (true, ()), rfl, rfl, ?_⟩) fun e => ⟨rfl, (_, ()), rfl, rfl, ?_⟩
      · have e := lt_t e
        exact (decide_eq_true (Or.inl (by omega))).symm
      · have e := lt_f e
        exact decide_eq_decide.2 ⟨fun h => .inr (by have h : (9 : Int) < ((bytesL d, mi, ()) : ByteArray × Bool × Unit).1.size := h; omega), fun h => by show (9 : Int) < ((bytesL d, mi, ()) : ByteArray × Bool × Unit).1.size; omega⟩
    rintro ⟨u, ⟨⟩⟩ g w2 ⟨rfl, hu⟩
    dsimp only at hu
    subst hu
    unfold numW
    refine br_both (fun e => ?_) fun e => ?_
    · rw [if_pos (of_decide_eq_true e)]
      exact ⟨rfl, Ch.refl _ _⟩
    have hl := of_decide_eq_false e
    rw [if_neg hl]
    refine by_s (bytesL d) fun w3 c h3 hc hlt => ?_
    rw [tb_size]
    refine loop_i mixed m94_5 s94_5 (by kernel_rfl) (by kernel_rfl)
      (fun (v : Int × Int × Unit) w' => w' = w3 ∧ 0 ≤ v.2.1 ∧ v.2.1 ≤ d.length ∧ 0 ≤ v.1 ∧ v.1 < 10 ^ v.2.1.toNat ∧ digM (d.drop v.2.1.toNat) v.1.toNat = digM d 0) (fun (v : Int × Int × Unit) _ => d.length - v.2.1.toNat) (0, 0, ()) rfl ⟨rfl, by simp, by simp, by simp, by simp, by simp⟩ ?_
    rintro ⟨(n : Int), (i : Int), ⟨⟩⟩ g w4 ⟨rfl, (i0 : 0 ≤ i), (i1 : i ≤ d.length), (n0 : 0 ≤ n), (n1 : n < 10 ^ i.toNat), hs⟩
    rw [t94_5]
    dsimp only at hs
    refine br_both (fun e => ?_) fun e => ?_
    · have hi : i < d.length := lt_t e
      obtain ⟨c0, hc0⟩ : ∃ u, d[i.toNat]? = some u := ⟨_, List.getElem?_eq_getElem (by omega)⟩
      have hdd := digM_drop n.toNat hc0
      refine ix_i i0 hi (ld_int (by rw [addr_add, Nat.zero_add, Nat.mul_one]; exact hc _ _ hc0) ?_)
      refine cut_i mixed s94_8 (fun (v : Bool × Unit) w' => w' = w4 ∧ v.1 = !decide (48 ≤ c0.toNat ∧ c0.toNat ≤ 57)) (by kernel_rfl) (fun g => ?_) ?_
      · rw [t94_8]
        refine br_both (fun e => ⟨rfl, (true, ()), rfl, rfl, ?_⟩) fun e => ⟨rfl, (_, ()), rfl, rfl, ?_⟩
        · have e := lt_t e
          rw [decide_eq_false (by omega)]; rfl
        · have e := lt_f e
          by_cases h : c0.toNat ≤ 57
          · rw [decide_eq_true (show 48 ≤ c0.toNat ∧ c0.toNat ≤ 57 by omega)]
            exact decide_eq_false (by show ¬ (c0.toNat : Int) > 57; omega)
          · rw [decide_eq_false (show ¬ (48 ≤ c0.toNat ∧ c0.toNat ≤ 57) by omega)]
            exact decide_eq_true (by show (c0.toNat : Int) > 57; omega)
      rintro ⟨u, ⟨⟩⟩ g w5 ⟨rfl, hu⟩
      dsimp only at hu
      subst hu
      refine br_both (fun e => ?_) fun e => ?_
      · have hb : ¬ (48 ≤ c0.toNat ∧ c0.toNat ≤ 57) := fun h => by rw [decide_eq_true h] at e; cases e
        rw [if_neg hb, hs] at hdd
        refine ⟨(_, _, ()), rfl, fun g => ⟨?_, h3⟩⟩
        rw [hdd]; rfl
      · have hb : 48 ≤ c0.toNat ∧ c0.toNat ≤ 57 := Decidable.byContradiction fun h => by rw [decide_eq_false h] at e; cases e
        rw [if_pos hb, hs] at hdd
        have hp : (10 : Int) ^ i.toNat ≤ 10 ^ 8 := by
          have := Nat.pow_le_pow_right (n := 10) (by decide) (show i.toNat ≤ 8 by omega)
          exact_mod_cast this
        have e1 : IntKind.i64.wrap (IntKind.i64.wrap (10 * n) + IntKind.i64.wrap (IntKind.u8.wrap ((c0.toNat : Int) - 48))) = 10 * n + ((c0.toNat - 48 : Nat) : Int) := by
          rw [digit_u8 c0 hb, wrap_in (x := 10 * n) (by omega) (by omega), wrap_in (x := ((c0.toNat - 48 : Nat) : Int)) (by omega) (by omega), wrap_in (by omega) (by omega)]
        refine ⟨(10 * n + ((c0.toNat - 48 : Nat) : Int), i + 1, ()), ?_, ⟨rfl, by dsimp only; omega, by dsimp only; omega, by dsimp only; omega, ?_, ?_⟩, by dsimp only; omega⟩
        · rw [e1, wrap_succ i0 (by omega)]; rfl
        · dsimp only
          rw [show (i + 1).toNat = i.toNat + 1 by omega, Int.pow_succ]
          omega
        · dsimp only
          rw [show (i + 1).toNat = i.toNat + 1 by omega, hdd]
          congr 1
          omega
    · have hi : d.length ≤ i := lt_f e
      rw [List.drop_of_length_le (by omega)] at hs
      have hs : some n.toNat = digM d 0 := hs
      rw [← hs]
      have hp : (10 : Int) ^ i.toNat ≤ 10 ^ 9 := by
        have := Nat.pow_le_pow_right (n := 10) (by decide) (show i.toNat ≤ 9 by omega)
        exact_mod_cast this
      refine ⟨rfl, (n, ()), rfl, fun g => ?_⟩
      refine br_both (fun e => ⟨?_, h3⟩) fun e => ⟨?_, h3⟩
      · have e : mi = true := e
        subst e
        show Ending.returned (.tuple #[.int .i64 (IntKind.i64.wrap (0 - n)), .bool true]) = _
        rw [wrap_in (by omega) (by omega), show 0 - n = -(n.toNat : Int) by omega]
        rfl
      · have e : mi = false := e
        subst e
        show Ending.returned (.tuple #[.int .i64 n, .bool true]) = _
        rw [show n = (n.toNat : Int) by omega]
        rfl
  · subst e
    rw [if_neg (by decide)]
    generalize hd : s.data.toList = d
    have hsz : s.size = d.length := by rw [← hd]; rfl
    refine cut_i mixed s94_12 (fun (v : Bool × Unit) w' => w' = w ∧ v.1 = decide (d.length < 1 ∨ 9 < d.length)) (by kernel_rfl) (fun g => ?_) ?_
    · rw [t94_12]
      refine br_both (fun e => ⟨rfl, (true, ()), rfl, rfl, ?_⟩) fun e => ⟨rfl, (_, ()), rfl, rfl, ?_⟩
      · have e := lt_t e
        exact (decide_eq_true (Or.inl (by omega))).symm
      · have e := lt_f e
        exact decide_eq_decide.2 ⟨fun h => .inr (by have h : (9 : Int) < s.size := h; omega), fun h => by show (9 : Int) < s.size; omega⟩
    rintro ⟨u, ⟨⟩⟩ g w2 ⟨rfl, hu⟩
    dsimp only at hu
    subst hu
    unfold numW
    refine br_both (fun e => ?_) fun e => ?_
    · rw [if_pos (of_decide_eq_true e)]
      exact ⟨rfl, Ch.refl _ _⟩
    have hl := of_decide_eq_false e
    rw [if_neg hl]
    refine by_s s fun w3 c h3 hc hlt => ?_
    rw [hsz]
    rw [hd] at hc
    refine loop_i mixed m94_15 s94_15 (by kernel_rfl) (by kernel_rfl)
      (fun (v : Int × Int × Unit) w' => w' = w3 ∧ 0 ≤ v.2.1 ∧ v.2.1 ≤ d.length ∧ 0 ≤ v.1 ∧ v.1 < 10 ^ v.2.1.toNat ∧ digM (d.drop v.2.1.toNat) v.1.toNat = digM d 0) (fun (v : Int × Int × Unit) _ => d.length - v.2.1.toNat) (0, 0, ()) rfl ⟨rfl, by simp, by simp, by simp, by simp, by simp⟩ ?_
    rintro ⟨(n : Int), (i : Int), ⟨⟩⟩ g w4 ⟨rfl, (i0 : 0 ≤ i), (i1 : i ≤ d.length), (n0 : 0 ≤ n), (n1 : n < 10 ^ i.toNat), hs⟩
    rw [t94_15]
    dsimp only at hs
    refine br_both (fun e => ?_) fun e => ?_
    · have hi : i < d.length := lt_t e
      obtain ⟨c0, hc0⟩ : ∃ u, d[i.toNat]? = some u := ⟨_, List.getElem?_eq_getElem (by omega)⟩
      have hdd := digM_drop n.toNat hc0
      refine ix_i i0 hi (ld_int (by rw [addr_add, Nat.zero_add, Nat.mul_one]; exact hc _ _ hc0) ?_)
      refine cut_i mixed s94_18 (fun (v : Bool × Unit) w' => w' = w4 ∧ v.1 = !decide (48 ≤ c0.toNat ∧ c0.toNat ≤ 57)) (by kernel_rfl) (fun g => ?_) ?_
      · rw [t94_18]
        refine br_both (fun e => ⟨rfl, (true, ()), rfl, rfl, ?_⟩) fun e => ⟨rfl, (_, ()), rfl, rfl, ?_⟩
        · have e := lt_t e
          rw [decide_eq_false (by omega)]; rfl
        · have e := lt_f e
          by_cases h : c0.toNat ≤ 57
          · rw [decide_eq_true (show 48 ≤ c0.toNat ∧ c0.toNat ≤ 57 by omega)]
            exact decide_eq_false (by show ¬ (c0.toNat : Int) > 57; omega)
          · rw [decide_eq_false (show ¬ (48 ≤ c0.toNat ∧ c0.toNat ≤ 57) by omega)]
            exact decide_eq_true (by show (c0.toNat : Int) > 57; omega)
      rintro ⟨u, ⟨⟩⟩ g w5 ⟨rfl, hu⟩
      dsimp only at hu
      subst hu
      refine br_both (fun e => ?_) fun e => ?_
      · have hb : ¬ (48 ≤ c0.toNat ∧ c0.toNat ≤ 57) := fun h => by rw [decide_eq_true h] at e; cases e
        rw [if_neg hb, hs] at hdd
        refine ⟨(_, _, ()), rfl, fun g => ⟨?_, h3⟩⟩
        rw [hdd]; rfl
      · have hb : 48 ≤ c0.toNat ∧ c0.toNat ≤ 57 := Decidable.byContradiction fun h => by rw [decide_eq_false h] at e; cases e
        rw [if_pos hb, hs] at hdd
        have hp : (10 : Int) ^ i.toNat ≤ 10 ^ 8 := by
          have := Nat.pow_le_pow_right (n := 10) (by decide) (show i.toNat ≤ 8 by omega)
          exact_mod_cast this
        have e1 : IntKind.i64.wrap (IntKind.i64.wrap (10 * n) + IntKind.i64.wrap (IntKind.u8.wrap ((c0.toNat : Int) - 48))) = 10 * n + ((c0.toNat - 48 : Nat) : Int) := by
          rw [digit_u8 c0 hb, wrap_in (x := 10 * n) (by omega) (by omega), wrap_in (x := ((c0.toNat - 48 : Nat) : Int)) (by omega) (by omega), wrap_in (by omega) (by omega)]
        refine ⟨(10 * n + ((c0.toNat - 48 : Nat) : Int), i + 1, ()), ?_, ⟨rfl, by dsimp only; omega, by dsimp only; omega, by dsimp only; omega, ?_, ?_⟩, by dsimp only; omega⟩
        · rw [e1, wrap_succ i0 (by omega)]; rfl
        · dsimp only
          rw [show (i + 1).toNat = i.toNat + 1 by omega, Int.pow_succ]
          omega
        · dsimp only
          rw [show (i + 1).toNat = i.toNat + 1 by omega, hdd]
          congr 1
          omega
    · have hi : d.length ≤ i := lt_f e
      rw [List.drop_of_length_le (by omega)] at hs
      have hs : some n.toNat = digM d 0 := hs
      rw [← hs]
      refine ⟨rfl, (n, ()), rfl, fun g => ⟨?_, h3⟩⟩
      show Ending.returned (.tuple #[.int .i64 n, .bool true]) = _
      rw [show n = (n.toNat : Int) by omega]
      rfl

theorem cnum_any (b : Nat) (s : ByteArray) (no : Int) (r : List UInt8) (sg : Bool) (w : World) (h : Cur w b s no r) (hs : s.size < 9223372036854775807) :
    Calls Tryz.prog 97 #[.pointer (some ⟨b, 0, none⟩), .bool sg] w fun e w' => Ch (· = b) w w' ∧ Cur w' b s no (afterS r) ∧ match numberM s.size sg r with
      | .ok (n, _) => e = .returned (.tuple #[.int .i64 n, .nilIface])
      | .error (p, c) => ∃ v, e = .returned (.tuple #[.int .i64 0, v]) ∧ ErrAt w' v no p c := by
  refine calls_of_fnT mixed Tryz.func97 (s := s97) ?_
  rw [t97]
  refine cl_i (next_any b s no r w h hs) ?_
  rintro e w1 ⟨rfl, h1, c1⟩
  refine ⟨(_, _, ()), rfl, ?_⟩
  refine cl_i (number_any (bytesL (wordS r)) sg w1) ?_
  rintro e w2 ⟨rfl, h2⟩
  refine ⟨(_, _, ()), rfl, ?_⟩
  rw [tb_data]
  have c2 := c1.ch h2 (fun h => h)
  unfold numberM
  refine br_both (fun e => ?_) fun e => ?_
  · cases hn : numM sg (wordS r) with
    | some n => rw [hn] at e; cases e
    | none =>
      refine cl_i (fault_any b s no _ _ 62 w2 c2) ?_
      rintro e w3 ⟨v, rfl, hv, h3⟩
      exact ⟨v, rfl, h1.trans (h2.no.trans h3.no), c2.ch h3 (fun h => h), v, rfl, hv⟩
  · cases hn : numM sg (wordS r) with
    | none => rw [hn] at e; cases e
    | some n => exact ⟨h1.trans h2.no, c2, rfl⟩
end Go.Proofs.YtjlmkahagcojcaaGreatDoor
