/- Plain: what a script's printing writes; a step's line is read as the step. -/
import Derived.Test.YtjlmkahagcojcaaGreatDoorRps
import Derived.Lib.ItoaNum
namespace Go.Proofs.YtjlmkahagcojcaaGreatDoor
open Go
set_option maxRecDepth 100000
/-! ### Numerals -/
theorem dec_unfold (u : Nat) : Lib.decDigits u = if u < 10 then [UInt8.ofNat (48 + u)] else Lib.decDigits (u / 10) ++ [UInt8.ofNat (48 + u % 10)] := by
  rw [Lib.decDigits]; split <;> rfl
theorem dec_dig : ∀ (k u : Nat), u < k → digM (Lib.decDigits u) 0 = some u := by
  intro k
  induction k with
  | zero => intro u h; omega
  | succ k ih =>
    intro u hk
    rw [dec_unfold]
    by_cases h : u < 10
    · rw [if_pos h]
      have := dig_nat u h
      unfold digM
      rw [if_pos (by omega), this]
      unfold digM
      congr 1; omega
    · rw [if_neg h]
      have := dig_nat (u % 10) (Nat.mod_lt _ (by decide))
      rw [digM_app _ _ _ (by omega), ih (u / 10) (by omega), this]
      show some (10 * (u / 10) + (48 + u % 10 - 48)) = _
      congr 1; omega
theorem dec_len : ∀ (k u : Nat), u < 10 ^ (k + 1) → 1 ≤ (Lib.decDigits u).length ∧ (Lib.decDigits u).length ≤ k + 1
  | 0, u, h => by rw [dec_unfold, if_pos (by omega)]; exact ⟨Nat.le_refl _, Nat.le_refl _⟩
  | k + 1, u, h => by
    rw [dec_unfold]
    by_cases h1 : u < 10
    · rw [if_pos h1]; simp
    · rw [if_neg h1]
      have := dec_len k (u / 10) (by rw [Nat.pow_succ] at h; omega)
      simp; omega
theorem dec_mem : ∀ (k u : Nat), u < k → ∀ c ∈ Lib.decDigits u, 48 ≤ c.toNat ∧ c.toNat ≤ 57 := by
  intro k
  induction k with
  | zero => intro u h; omega
  | succ k ih =>
    intro u hk c hc
    rw [dec_unfold] at hc
    by_cases h : u < 10
    · rw [if_pos h, List.mem_singleton] at hc
      subst hc
      have := dig_nat u h
      omega
    · rw [if_neg h] at hc
      rcases List.mem_append.1 hc with hc | hc
      · exact ih (u / 10) (by omega) c hc
      · rw [List.mem_singleton] at hc
        subst hc
        have := dig_nat (u % 10) (Nat.mod_lt _ (by decide))
        omega
def Within (n : Int) : Prop := -999999999 ≤ n ∧ n ≤ 999999999
instance (n : Int) : Decidable (Within n) := by unfold Within; exact inferInstance
theorem numW_dec (m : Bool) (u : Nat) (h : u ≤ 999999999) : numW m (Lib.decDigits u) = some (if m then -(u : Int) else u) := by
  have := dec_len 8 u (by omega)
  unfold numW
  rw [if_neg (by omega), dec_dig _ u (Nat.lt_succ_self _)]
theorem num_itoa (n : Int) (h : Within n) : numM true (Lib.itoa n) = some n := by
  unfold Within at h
  unfold Lib.itoa
  by_cases hn : n < 0
  · rw [if_pos hn]
    unfold numM
    dsimp only
    rw [if_pos ⟨rfl, rfl⟩, numW_dec true _ (by omega)]
    congr 1
    rw [if_pos rfl]; omega
  · rw [if_neg hn]
    have hl := dec_len 8 n.toNat (by omega)
    have hm := dec_mem _ n.toNat (Nat.lt_succ_self _)
    have hv := numW_dec false n.toNat (by omega)
    cases hd : Lib.decDigits n.toNat with
    | nil => rw [hd] at hl; simp at hl
    | cons c t =>
      unfold numM
      dsimp only
      have hc := hm c (by rw [hd]; exact .head _)
      rw [if_neg (by
        rintro ⟨_, e⟩
        subst e
        simp at hc), ← hd, hv]
      congr 1
      rw [if_neg (by decide)]; omega
theorem num_nat (n : Int) (h0 : 0 ≤ n) (h : n ≤ 999999999) : numM false (Lib.itoa n) = some n := by
  unfold Lib.itoa
  rw [if_neg (by omega)]
  have hl := dec_len 8 n.toNat (by omega)
  have hv := numW_dec false n.toNat (by omega)
  cases hd : Lib.decDigits n.toNat with
  | nil => rw [hd] at hl; simp at hl
  | cons c t =>
    unfold numM
    dsimp only
    rw [if_neg (by simp), ← hd, hv]
    congr 1
    rw [if_neg (by decide)]; omega
/-- What a word may hold. -/
def Wd (w : List UInt8) : Prop := w ≠ [] ∧ ∀ c ∈ w, c ≠ 32 ∧ c ≠ 10
theorem itoa_wd (n : Int) : Wd (Lib.itoa n) := by
  unfold Lib.itoa
  have key : ∀ u : Nat, Lib.decDigits u ≠ [] ∧ ∀ c ∈ Lib.decDigits u, c ≠ 32 ∧ c ≠ 10 := fun u => by
    refine ⟨fun e => ?_, fun c hc => ?_⟩
    · rw [dec_unfold] at e
      split at e
      · cases e
      · have := congrArg List.length e; simp at this
    · have := dec_mem _ u (Nat.lt_succ_self _) c hc
      constructor <;> (intro e; subst e; simp at this)
  split
  · refine ⟨by simp, fun c hc => ?_⟩
    rcases List.mem_cons.1 hc with rfl | hc
    · decide
    · exact (key _).2 c hc
  · exact key _
/-- Where a word may end. -/
def Brk (r : List UInt8) : Prop := r = [] ∨ ∃ t, r = 32 :: t
theorem tok0 {w r : List UInt8} (h : Wd w) (hr : Brk r) : skipS (w ++ r) = w ++ r ∧ wordS (w ++ r) = w ∧ afterS (w ++ r) = r := by
  obtain ⟨c, t, rfl⟩ : ∃ c t, w = c :: t := by
    cases w with
    | nil => exact absurd rfl h.1
    | cons c t => exact ⟨c, t, rfl⟩
  have hs : skipS (c :: t ++ r) = c :: t ++ r := skip_id (h.2 c (.head _)).1
  unfold wordS afterS
  rw [hs]
  have h32 : ∀ d ∈ c :: t, d ≠ 32 := fun d hd => (h.2 d hd).1
  rcases hr with rfl | ⟨t', rfl⟩
  · rw [List.append_nil]
    have := take_all (c :: t) h32
    exact ⟨rfl, this.1, this.2⟩
  · have := take_sp (c :: t) t' h32
    exact ⟨rfl, this.1, this.2⟩
theorem tok {w r : List UInt8} (h : Wd w) (hr : Brk r) : skipS (32 :: (w ++ r)) = w ++ r ∧ wordS (32 :: (w ++ r)) = w ∧ afterS (32 :: (w ++ r)) = r := by
  have h0 := tok0 h hr
  have hs : skipS (32 :: (w ++ r)) = w ++ r := by
    show List.dropWhile _ (32 :: (w ++ r)) = _
    rw [List.dropWhile_cons, if_pos (by decide)]
    exact h0.1
  refine ⟨hs, ?_, ?_⟩
  · have := h0.2.1
    unfold wordS at this ⊢
    rw [hs]; rw [h0.1] at this; exact this
  · have := h0.2.2
    unfold afterS at this ⊢
    rw [hs]; rw [h0.1] at this; exact this
theorem tok_end : skipS [] = [] ∧ wordS [] = [] ∧ afterS [] = [] := ⟨rfl, rfl, rfl⟩
theorem endM_nil (L : Nat) : endM L [] = .ok () := rfl
theorem numberM_tok (L : Nat) (n : Int) (h : Within n) {r : List UInt8} (hr : Brk r) : numberM L true (32 :: (Lib.itoa n ++ r)) = .ok (n, r) := by
  unfold numberM
  rw [(tok (itoa_wd n) hr).2.1, num_itoa n h, (tok (itoa_wd n) hr).2.2]
/-! ### A step's text -/
def keepText : List Int → Option (List UInt8)
  | [] => some []
  | k :: l => if Within k then match keepText l with
    | none => none
    | some t => some (32 :: (Lib.itoa k ++ t))
    else none
def wSp (w : List UInt8) : List UInt8 := 32 :: w
def armText (a : Int) : List UInt8 := if a > 0 then 32 :: (wArm ++ (32 :: Lib.itoa (a - 1))) else []
def afterText (b : Int) : List UInt8 := if b ≠ 0 then 32 :: (wAfter ++ (32 :: Lib.itoa b)) else []
def numText (c : Bool) (a : Int) : List UInt8 := if c then 32 :: Lib.itoa a else []
def stepWord (k : Nat) : List UInt8 := ((stepsM[k - 1]?).map (·.1)).getD []
/-- A step's line, without its end; none: it can't be written. -/
def stepLineM (o : OpM) : Option (List UInt8) :=
  if o.kind < 1 ∨ 9 < o.kind then none
  else if o.kind = 9 then
    if o.a < 0 ∨ 1000000000 < o.a ∨ o.b ≠ 0 then none
    else match keepText o.keep with
      | none => none
      | some t => some (stepWord 9 ++ (armText o.a ++ t))
  else if o.keep ≠ [] then none
  else if o.kind = 7 then
    if ¬ Within o.a ∨ ¬ Within o.b then none
    else some (stepWord 7 ++ (32 :: (Lib.itoa o.a ++ afterText o.b)))
  else if (numbersM o.kind.toNat ≤ 0 ∧ o.a ≠ 0) ∨ ¬ Within o.a ∨ (numbersM o.kind.toNat ≤ 1 ∧ o.b ≠ 0) ∨ ¬ Within o.b then none
  else some (stepWord o.kind.toNat ++ (numText (decide (0 < numbersM o.kind.toNat)) o.a ++ numText (decide (1 < numbersM o.kind.toNat)) o.b))
theorem keep_brk {l : List Int} {t : List UInt8} (h : keepText l = some t) : Brk t := by
  cases l with
  | nil => cases h; exact .inl rfl
  | cons k l =>
    unfold keepText at h
    split at h
    · split at h
      · cases h
      · cases h; exact .inr ⟨_, rfl⟩
    · cases h
theorem keep_read (L : Nat) : ∀ (l : List Int) (t : List UInt8) (f : Nat) (acc : List Int), keepText l = some t → t.length < f → keepM L f t acc = .ok (acc ++ l)
  | [], t, f, acc, h, hf => by
    cases h
    cases f with
    | zero => simp at hf
    | succ f => unfold keepM; rw [if_pos (show skipS [] = [] from rfl), List.append_nil]
  | k :: l, t, f, acc, h, hf => by
    unfold keepText at h
    split at h
    · rename_i hk
      split at h
      · cases h
      · rename_i t' ht'
        cases h
        cases f with
        | zero => simp at hf
        | succ f =>
          have hb := keep_brk ht'
          unfold keepM
          have hne : skipS (32 :: (Lib.itoa k ++ t')) ≠ [] := by
            rw [(tok (itoa_wd k) hb).1]
            intro e
            exact (itoa_wd k).1 (List.append_eq_nil_iff.1 e).1
          rw [if_neg hne, numberM_tok L k hk hb]
          dsimp only
          rw [keep_read L l t' f (acc ++ [k]) ht' (by simp at hf; omega)]
          simp
    · cases h
theorem brk_nil : Brk [] := .inl rfl
theorem brk_sp (t : List UInt8) : Brk (32 :: t) := .inr ⟨t, rfl⟩
theorem words_ok : ∀ k : Fin 10, 1 ≤ k.val → Wd (stepWord k.val) ∧ kindM (stepWord k.val) = k.val ∧ stepWord k.val ≠ wRepeat ∧ stepWord k.val ≠ wEnd ∧ (stepWord k.val).head? ≠ some 35 := by
  have : ∀ k : Fin 10, 1 ≤ k.val → (stepWord k.val ≠ [] ∧ (stepWord k.val).all (fun c => c != 32 && c != 10) = true) ∧ kindM (stepWord k.val) = k.val ∧ stepWord k.val ≠ wRepeat ∧ stepWord k.val ≠ wEnd ∧ (stepWord k.val).head? ≠ some 35 := by decide
  intro k hk
  obtain ⟨⟨h1, h2⟩, h3⟩ := this k hk
  refine ⟨⟨h1, fun c hc => ?_⟩, h3⟩
  have := List.all_eq_true.1 h2 c hc
  simpa using this
theorem arm_wd : Wd wArm := ⟨by decide, by decide⟩
theorem after_wd : Wd wAfter := ⟨by decide, by decide⟩
theorem numText_brk (c : Bool) (a : Int) : Brk (numText c a) := by
  unfold numText
  split
  · exact brk_sp _
  · exact brk_nil
theorem itoa_not_arm (n : Int) : Lib.itoa n ≠ wArm := by
  intro e
  have : (97 : UInt8) ∈ Lib.itoa n := by rw [e]; decide
  unfold Lib.itoa at this
  split at this
  · rcases List.mem_cons.1 this with h | h
    · cases h
    · have := dec_mem _ _ (Nat.lt_succ_self _) _ h
      simp at this
  · have := dec_mem _ _ (Nat.lt_succ_self _) _ this
    simp at this
theorem keep_mem {l : List Int} {t : List UInt8} (h : keepText l = some t) : ∀ c ∈ t, c ≠ 10 := by
  induction l generalizing t with
  | nil => cases h; intro c hc; cases hc
  | cons k l ih =>
    unfold keepText at h
    split at h
    · split at h
      · cases h
      · rename_i t' ht'
        cases h
        intro c hc
        rcases List.mem_cons.1 hc with rfl | hc
        · decide
        · rcases List.mem_append.1 hc with hc | hc
          · exact ((itoa_wd k).2 c hc).2
          · exact ih ht' c hc
    · cases h
/-- What stands behind a step's word is read as the step. -/
theorem step_read {o : OpM} {line : List UInt8} (h : stepLineM o = some line) : ∃ k : Nat, o.kind = k ∧ 1 ≤ k ∧ k ≤ 9 ∧ ∃ r, line = stepWord k ++ r ∧ Brk r ∧ ∀ L, opM L k r = .ok o := by
  obtain ⟨kd, a, b, keep⟩ := o
  unfold stepLineM at h
  dsimp only at h
  split at h
  · cases h
  rename_i hk
  obtain ⟨k, rfl⟩ : ∃ k : Nat, kd = k := ⟨kd.toNat, by omega⟩
  refine ⟨k, rfl, by omega, by omega, ?_⟩
  split at h
  · rename_i h9
    obtain rfl : k = 9 := by omega
    split at h
    · cases h
    rename_i hab
    split at h
    · cases h
    rename_i t ht
    cases h
    have hb := keep_brk ht
    obtain rfl : b = 0 := by omega
    refine ⟨_, rfl, ?_, ?_⟩
    · unfold armText
      split
      · exact brk_sp _
      · exact hb
    · intro L
      unfold opM
      rw [if_pos rfl]
      unfold recoverM armText
      by_cases ha : a > 0
      · rw [if_pos ha]
        have e : 32 :: (wArm ++ 32 :: Lib.itoa (a - 1)) ++ t = 32 :: (wArm ++ (32 :: (Lib.itoa (a - 1) ++ t))) := by simp
        have k1 := tok arm_wd (brk_sp (Lib.itoa (a - 1) ++ t))
        rw [e, k1.2.1, if_pos rfl, k1.2.2]
        unfold numberM
        rw [(tok (itoa_wd (a - 1)) hb).2.1, num_nat (a - 1) (by omega) (by omega), (tok (itoa_wd (a - 1)) hb).2.2]
        dsimp only
        rw [keep_read L keep t _ [] ht (by omega)]
        simp
      · rw [if_neg ha, List.nil_append]
        obtain rfl : a = 0 := by omega
        have hne : wordS t ≠ wArm := by
          cases keep with
          | nil => cases ht; decide
          | cons k l =>
            unfold keepText at ht
            split at ht
            · split at ht
              · cases ht
              · rename_i t' ht'
                cases ht
                rw [(tok (itoa_wd k) (keep_brk ht')).2.1]
                exact itoa_not_arm k
            · cases ht
        rw [if_neg hne, keep_read L keep t _ [] ht (by omega)]
        simp
  rename_i h9
  split at h
  · cases h
  rename_i hkp
  have hkp : keep = [] := Decidable.byContradiction hkp
  subst hkp
  split at h
  · rename_i h7
    obtain rfl : k = 7 := by omega
    split at h
    · cases h
    rename_i hw
    have ha : Within a := Decidable.byContradiction fun h => hw (.inl h)
    have hb : Within b := Decidable.byContradiction fun h => hw (.inr h)
    cases h
    refine ⟨_, rfl, brk_sp _, fun L => ?_⟩
    unfold opM
    rw [if_neg (by decide), if_pos rfl]
    unfold failM afterText
    by_cases hb0 : b = 0
    · subst hb0
      rw [if_neg (by simp), numberM_tok L a ha brk_nil]
      dsimp only
      rw [if_neg (by decide), if_pos (by rfl)]
      rfl
    · rw [if_pos hb0, numberM_tok L a ha (brk_sp _)]
      dsimp only
      have k1 := tok after_wd (brk_sp (Lib.itoa b))
      rw [k1.2.1, if_pos rfl, k1.2.2]
      have := numberM_tok L b hb brk_nil
      rw [List.append_nil] at this
      rw [this]
      rfl
  · rename_i h7
    split at h
    · cases h
    rename_i hw
    have ha : Within a := Decidable.byContradiction fun h => hw (.inr (.inl h))
    have hb : Within b := Decidable.byContradiction fun h => hw (.inr (.inr (.inr h)))
    have h0 : numbersM k ≤ 0 → a = 0 := fun h => Decidable.byContradiction fun h' => hw (.inl ⟨h, h'⟩)
    have h1 : numbersM k ≤ 1 → b = 0 := fun h => Decidable.byContradiction fun h' => hw (.inr (.inr (.inl ⟨h, h'⟩)))
    rw [show ((k : Int)).toNat = k from Int.toNat_natCast k] at h
    cases h
    refine ⟨_, rfl, ?_, ?_⟩
    · unfold numText
      split
      · exact brk_sp _
      · exact numText_brk _ _
    · intro L
      unfold opM
      rw [if_neg (by omega), if_neg (by omega)]
      unfold plainM
      by_cases hn0 : numbersM k ≤ 0
      · obtain rfl := h0 hn0
        obtain rfl := h1 (by omega)
        rw [if_pos hn0, decide_eq_false (by omega), decide_eq_false (by omega)]
        rfl
      · rw [if_neg hn0, decide_eq_true (by omega)]
        have hbk := numText_brk (decide (1 < numbersM k)) b
        show (match numberM L true (32 :: Lib.itoa a ++ _) with
          | .error e => (.error e : PRes OpM)
          | .ok (n, r1) => _) = _
        rw [List.cons_append, numberM_tok L a ha hbk]
        dsimp only
        by_cases hn1 : numbersM k ≤ 1
        · obtain rfl := h1 hn1
          rw [if_pos hn1, decide_eq_false (by omega)]
          rfl
        · rw [if_neg hn1, decide_eq_true (by omega)]
          have := numberM_tok L b hb brk_nil
          rw [List.append_nil] at this
          show (match numberM L true (32 :: Lib.itoa b) with
            | .error e => (.error e : PRes OpM)
            | .ok (m, r2) => _) = _
          rw [this]
          rfl
theorem line_mem {o : OpM} {line : List UInt8} (h : stepLineM o = some line) : ∀ c ∈ line, c ≠ 10 := by
  obtain ⟨k, hk, k1, k9, r, rfl, hb, _⟩ := step_read h
  have hw := (words_ok ⟨k, by omega⟩ k1).1
  intro c hcl
  rcases List.mem_append.1 hcl with hc | hc
  · exact (hw.2 c hc).2
  clear hcl
  have it : ∀ n : Int, ∀ c ∈ Lib.itoa n, c ≠ 10 := fun n c hc => ((itoa_wd n).2 c hc).2
  unfold stepLineM at h
  split at h
  · cases h
  split at h
  · rename_i h9
    obtain rfl : k = 9 := by omega
    split at h
    · cases h
    split at h
    · cases h
    rename_i t ht
    have e := List.append_cancel_left (Option.some.inj h)
    rw [← e] at hc
    unfold armText at hc
    rcases List.mem_append.1 hc with hc | hc
    · split at hc
      · rcases List.mem_cons.1 hc with rfl | hc
        · decide
        · rcases List.mem_append.1 hc with hc | hc
          · exact (arm_wd.2 c hc).2
          · rcases List.mem_cons.1 hc with rfl | hc
            · decide
            · exact it _ c hc
      · cases hc
    · exact keep_mem ht c hc
  split at h
  · cases h
  split at h
  · rename_i h7
    obtain rfl : k = 7 := by omega
    split at h
    · cases h
    have e := List.append_cancel_left (Option.some.inj h)
    rw [← e] at hc
    rcases List.mem_cons.1 hc with rfl | hc
    · decide
    · rcases List.mem_append.1 hc with hc | hc
      · exact it _ c hc
      · unfold afterText at hc
        split at hc
        · rcases List.mem_cons.1 hc with rfl | hc
          · decide
          · rcases List.mem_append.1 hc with hc | hc
            · exact (after_wd.2 c hc).2
            · rcases List.mem_cons.1 hc with rfl | hc
              · decide
              · exact it _ c hc
        · cases hc
  · split at h
    · cases h
    rw [hk, show ((k : Int)).toNat = k from Int.toNat_natCast k] at h
    have e := List.append_cancel_left (Option.some.inj h)
    rw [← e] at hc
    have nt : ∀ b a, ∀ c ∈ numText b a, c ≠ 10 := fun b a c hc => by
      unfold numText at hc
      split at hc
      · rcases List.mem_cons.1 hc with rfl | hc
        · decide
        · exact it _ c hc
      · cases hc
    rcases List.mem_append.1 hc with hc | hc
    · exact nt _ _ c hc
    · exact nt _ _ c hc
/-- A step's line, read. -/
theorem line_read {o : OpM} {line : List UInt8} (h : stepLineM o = some line) (no : Nat) (top : BlkM) (below : List BlkM) :
    passed line = false ∧ lineM no line (top :: below) = if top.ops.length = 2000 then .error (0, 65) else .ok ({ top with ops := top.ops ++ [o] } :: below) := by
  obtain ⟨k, hk, k1, k9, r, rfl, hb, ho⟩ := step_read h
  obtain ⟨hw, hkd, h1, h2, h3⟩ := words_ok ⟨k, by omega⟩ k1
  dsimp only at hw hkd h1 h2 h3
  obtain ⟨t0, t1, t2⟩ := tok0 hw hb
  constructor
  · unfold passed
    rw [t0]
    cases hs : stepWord k with
    | nil => exact absurd hs hw.1
    | cons c t =>
      rw [hs] at h3
      show (c == 35) = false
      simp only [List.head?_cons, ne_eq, Option.some.injEq] at h3
      simpa using h3
  · unfold lineM
    dsimp only
    rw [t1, if_neg h1, if_neg h2, hkd, if_neg (by omega), t2, ho, t0, Nat.sub_self]
/-- Equal lines are of equal steps. -/
theorem line_inj {o o' : OpM} {line : List UInt8} (h : stepLineM o = some line) (h' : stepLineM o' = some line) : o = o' := by
  have h1 := (line_read h 0 ⟨[], 0, 0, 0⟩ []).2
  have h2 := (line_read h' 0 ⟨[], 0, 0, 0⟩ []).2
  rw [h1] at h2
  rw [if_neg (by simp), if_neg (by simp)] at h2
  have h3 := Except.ok.inj h2
  simp only [List.nil_append, List.cons.injEq, BlkM.mk.injEq, and_true] at h3
  exact h3
/-! ### A script's text -/
def stepText (o : OpM) : Option (List UInt8) := (stepLineM o).map (· ++ [10])
def opEq (o o' : OpM) : Bool := o.kind == o'.kind && o.a == o'.a && o.b == o'.b && o.keep == o'.keep
theorem opEq_iff (o o' : OpM) : opEq o o' = true ↔ o = o' := by
  cases o; cases o'
  simp [opEq, and_assoc]
/-- So many of these at the beginning. -/
def runLen (p : OpM → Bool) : List OpM → Nat
  | [] => 0
  | x :: l => if p x then runLen p l + 1 else 0
theorem runLen_le (p : OpM → Bool) : ∀ l, runLen p l ≤ l.length
  | [] => Nat.le_refl _
  | x :: l => by
    unfold runLen
    have := runLen_le p l
    split
    · simp only [List.length_cons]; omega
    · exact Nat.zero_le _
def runText (n : Nat) (s : List UInt8) : List UInt8 := if n ≥ 3 then (wRepeat ++ 32 :: (Lib.itoa n ++ [10])) ++ (s ++ (wEnd ++ [10])) else (List.replicate n s).flatten
def printOps : Nat → List OpM → Option (List UInt8)
  | 0, _ => some []
  | _, [] => some []
  | f + 1, o :: l => match stepText o with
    | none => none
    | some s => match printOps f (l.drop (runLen (opEq o) l)) with
      | none => none
      | some t => some (runText (runLen (opEq o) l + 1) s ++ t)
/-- What PrintScript tells; none: it can't be written. -/
def printSc (l : List OpM) : Option (List UInt8) :=
  if 2000 < l.length then none
  else match printOps l.length l with
    | none => none
    | some t => if 8000 < t.length then none else some t
theorem run_take {o : OpM} : ∀ l : List OpM, l = List.replicate (runLen (opEq o) l) o ++ l.drop (runLen (opEq o) l)
  | [] => rfl
  | x :: l => by
    unfold runLen
    split
    · rename_i hx
      have := (opEq_iff o x).1 hx
      subst this
      have ih := run_take (o := o) l
      rw [List.replicate_succ, List.drop_succ_cons, List.cons_append, ← ih]
    · simp
end Go.Proofs.YtjlmkahagcojcaaGreatDoor
