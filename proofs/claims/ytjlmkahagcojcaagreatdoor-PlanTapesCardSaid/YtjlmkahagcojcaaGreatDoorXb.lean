/- The document's answer: a rune of valid UTF-8, quoted texts, decimal numerals, Print. -/
import Derived.Test.YtjlmkahagcojcaaGreatDoorXa
namespace Go.Proofs.YtjlmkahagcojcaaGreatDoor.V
open Go Tr
open Go.Lib (decodeL)
set_option maxRecDepth 100000
/-- The rune from U+0080 on at the beginning, and its length; or 0 and 0. -/
def runeM (l : List UInt8) : Nat × Nat := if 2 ≤ (decodeL l).2 then decodeL l else (0, 0)
def headM (b : Nat) : Nat × Nat × Nat := if 192 ≤ b ∧ b < 224 then (2, b - 192, 128) else if 224 ≤ b ∧ b < 240 then (3, b - 224, 2048) else if 240 ≤ b ∧ b < 248 then (4, b - 240, 65536) else (0, 0, 0)
def accM : Nat → Nat → List UInt8 → Option Nat
  | v, 0, _ => some v
  | _, _ + 1, [] => none
  | v, k + 1, c :: l => if 128 ≤ c.toNat ∧ c.toNat < 192 then accM (v * 64 + c.toNat - 128) k l else none
def runeR (l : List UInt8) : Nat × Nat :=
  if (headM (pk l)).1 = 0 ∨ (headM (pk l)).1 > l.length then (0, 0) else match accM (headM (pk l)).2.1 ((headM (pk l)).1 - 1) l.tail with
    | none => (0, 0)
    | some v => if v < (headM (pk l)).2.2 ∨ v > 1114111 ∨ (55296 ≤ v ∧ v < 57344) then (0, 0) else (v, (headM (pk l)).1)
theorem runeR_is (l : List UInt8) : runeR l = runeM l := by
  unfold runeM
  rw [Lib.decodeL_N]
  cases l with
  | nil => rfl
  | cons c0 t0 =>
    have h0 : c0.toNat < 256 := c0.toNat_lt
    have e0 : ((c0 :: t0).getD 0 0).toNat = c0.toNat := rfl
    have hp : pk (c0 :: t0) = c0.toNat := rfl
    unfold runeR
    rw [hp, e0]
    have sh := Lib.decodeN_shape (c0 :: t0).length c0.toNat ((c0 :: t0).getD 1 0).toNat ((c0 :: t0).getD 2 0).toNat ((c0 :: t0).getD 3 0).toNat
    -- no rune there
    have none_ : ¬ 2 ≤ (Lib.decodeN (c0 :: t0).length c0.toNat ((c0 :: t0).getD 1 0).toNat ((c0 :: t0).getD 2 0).toNat ((c0 :: t0).getD 3 0).toNat).2 → (if 2 ≤ (Lib.decodeN (c0 :: t0).length c0.toNat ((c0 :: t0).getD 1 0).toNat ((c0 :: t0).getD 2 0).toNat ((c0 :: t0).getD 3 0).toNat).2 then Lib.decodeN (c0 :: t0).length c0.toNat ((c0 :: t0).getD 1 0).toNat ((c0 :: t0).getD 2 0).toNat ((c0 :: t0).getD 3 0).toNat else (0, 0)) = (0, 0) := fun h => if_neg h
    by_cases r2 : 192 ≤ c0.toNat ∧ c0.toNat < 224
    · have hh : headM c0.toNat = (2, c0.toNat - 192, 128) := if_pos r2
      rw [hh]
      dsimp only
      cases t0 with
      | nil =>
        rw [if_pos (.inr (by simp)), none_]
        rcases sh with ⟨c, e⟩ | ⟨c1, c2, _, _, e⟩ | ⟨c1, c2, _, _, _, _, e⟩ | ⟨c1, c2, _, _, _, _, _, e⟩ | e <;> rw [e] <;> simp at * <;> omega
      | cons c1 t1 =>
        have h1 : c1.toNat < 256 := c1.toNat_lt
        have e1 : ((c0 :: c1 :: t1).getD 1 0).toNat = c1.toNat := rfl
        rw [if_neg (by simp), show (c0 :: c1 :: t1).tail = c1 :: t1 from rfl, e1]
        have hn : 1 < (c0 :: c1 :: t1).length := by simp
        have ev : (c0.toNat - 192) * 64 + c1.toNat - 128 = c0.toNat % 32 * 64 + c1.toNat % 64 ∨ ¬ (128 ≤ c1.toNat ∧ c1.toNat < 192) := by omega
        have hA : accM (c0.toNat - 192) (2 - 1) (c1 :: t1) = if 128 ≤ c1.toNat ∧ c1.toNat < 192 then some ((c0.toNat - 192) * 64 + c1.toNat - 128) else none := by simp only [accM]
        have hD : ∀ n b2 b3, 1 < n → Lib.decodeN n c0.toNat c1.toNat b2 b3 = if 128 ≤ c1.toNat ∧ c1.toNat < 192 then (if c0.toNat % 32 * 64 + c1.toNat % 64 ≥ 128 then (c0.toNat % 32 * 64 + c1.toNat % 64, 2) else (65533, 1)) else (65533, 1) := fun n b2 b3 hn => by
          unfold Lib.decodeN
          rw [if_neg (by omega)]
          by_cases k1 : 128 ≤ c1.toNat ∧ c1.toNat < 192
          · rw [if_pos k1, if_pos ⟨by omega, hn, by omega⟩]
          · rw [if_neg k1, if_neg (by omega), if_neg (by omega), if_neg (by omega)]
        rw [hA, hD _ _ _ hn]
        by_cases k1 : 128 ≤ c1.toNat ∧ c1.toNat < 192
        · rw [if_pos k1, if_pos k1, ev.resolve_right (fun h => h k1)]
          dsimp only
          by_cases k2 : c0.toNat % 32 * 64 + c1.toNat % 64 ≥ 128
          · rw [if_neg (by omega), if_pos k2, if_pos (by simp)]
          · rw [if_pos (by omega), if_neg k2, if_neg (by simp)]
        · rw [if_neg k1, if_neg k1, if_neg (by simp)]
    by_cases r3 : 224 ≤ c0.toNat ∧ c0.toNat < 240
    · have hh : headM c0.toNat = (3, c0.toNat - 224, 2048) := by unfold headM; rw [if_neg r2, if_pos r3]
      rw [hh]
      dsimp only
      by_cases hl : 3 > (c0 :: t0).length
      · rw [if_pos (.inr hl), none_]
        rcases sh with ⟨c, e⟩ | ⟨c1, c2, _, _, e⟩ | ⟨c1, c2, _, _, _, _, e⟩ | ⟨c1, c2, _, _, _, _, _, e⟩ | e <;> rw [e] <;> simp at * <;> omega
      rw [if_neg (by omega)]
      match t0, hl with
      | [], hl => simp at hl
      | [_], hl => simp at hl
      | c1 :: c2 :: t2, hl =>
        have h1 : c1.toNat < 256 := c1.toNat_lt
        have h2 : c2.toNat < 256 := c2.toNat_lt
        have e1 : ((c0 :: c1 :: c2 :: t2).getD 1 0).toNat = c1.toNat := rfl
        have e2 : ((c0 :: c1 :: c2 :: t2).getD 2 0).toNat = c2.toNat := rfl
        have hn : 2 < (c0 :: c1 :: c2 :: t2).length := by simp
        rw [show (c0 :: c1 :: c2 :: t2).tail = c1 :: c2 :: t2 from rfl, e1, e2]
        have hA : accM (c0.toNat - 224) (3 - 1) (c1 :: c2 :: t2) = if 128 ≤ c1.toNat ∧ c1.toNat < 192 then (if 128 ≤ c2.toNat ∧ c2.toNat < 192 then some (((c0.toNat - 224) * 64 + c1.toNat - 128) * 64 + c2.toNat - 128) else none) else none := by simp only [accM]
        have hD : ∀ n b3, 2 < n → Lib.decodeN n c0.toNat c1.toNat c2.toNat b3 = if 128 ≤ c1.toNat ∧ c1.toNat < 192 then (if 128 ≤ c2.toNat ∧ c2.toNat < 192 then (if c0.toNat % 16 * 4096 + c1.toNat % 64 * 64 + c2.toNat % 64 ≥ 2048 ∧ (c0.toNat % 16 * 4096 + c1.toNat % 64 * 64 + c2.toNat % 64 < 55296 ∨ (57344 ≤ c0.toNat % 16 * 4096 + c1.toNat % 64 * 64 + c2.toNat % 64 ∧ c0.toNat % 16 * 4096 + c1.toNat % 64 * 64 + c2.toNat % 64 ≤ 1114111)) then (c0.toNat % 16 * 4096 + c1.toNat % 64 * 64 + c2.toNat % 64, 3) else (65533, 1)) else (65533, 1)) else (65533, 1) := fun n b3 hn => by
          unfold Lib.decodeN
          rw [if_neg (by omega), if_neg (by omega)]
          by_cases k1 : 128 ≤ c1.toNat ∧ c1.toNat < 192
          · by_cases k2 : 128 ≤ c2.toNat ∧ c2.toNat < 192
            · rw [if_pos k1, if_pos k2, if_pos ⟨by omega, ⟨by omega, by omega⟩, hn, by omega⟩]
            · rw [if_pos k1, if_neg k2, if_neg (by omega), if_neg (by omega)]
          · rw [if_neg k1, if_neg (by omega), if_neg (by omega)]
        rw [hA, hD _ _ hn]
        by_cases k1 : 128 ≤ c1.toNat ∧ c1.toNat < 192
        · by_cases k2 : 128 ≤ c2.toNat ∧ c2.toNat < 192
          · have ev : ((c0.toNat - 224) * 64 + c1.toNat - 128) * 64 + c2.toNat - 128 = c0.toNat % 16 * 4096 + c1.toNat % 64 * 64 + c2.toNat % 64 := by omega
            rw [if_pos k1, if_pos k1, if_pos k2, if_pos k2, ev]
            dsimp only
            generalize c0.toNat % 16 * 4096 + c1.toNat % 64 * 64 + c2.toNat % 64 = v
            by_cases k3 : v ≥ 2048 ∧ (v < 55296 ∨ (57344 ≤ v ∧ v ≤ 1114111))
            · rw [if_neg (by omega), if_pos k3, if_pos (by simp)]
            · rw [if_pos (by omega), if_neg k3, if_neg (by simp)]
          · rw [if_pos k1, if_pos k1, if_neg k2, if_neg k2, if_neg (by simp)]
        · rw [if_neg k1, if_neg k1, if_neg (by simp)]
    by_cases r4 : 240 ≤ c0.toNat ∧ c0.toNat < 248
    · have hh : headM c0.toNat = (4, c0.toNat - 240, 65536) := by unfold headM; rw [if_neg r2, if_neg r3, if_pos r4]
      rw [hh]
      dsimp only
      by_cases hl : 4 > (c0 :: t0).length
      · rw [if_pos (.inr hl), none_]
        rcases sh with ⟨c, e⟩ | ⟨c1, c2, _, _, e⟩ | ⟨c1, c2, _, _, _, _, e⟩ | ⟨c1, c2, _, _, _, _, _, e⟩ | e <;> rw [e] <;> simp at * <;> omega
      rw [if_neg (by omega)]
      match t0, hl with
      | [], hl => simp at hl
      | [_], hl => simp at hl
      | [_, _], hl => simp at hl
      | c1 :: c2 :: c3 :: t3, hl =>
        have h1 : c1.toNat < 256 := c1.toNat_lt
        have h2 : c2.toNat < 256 := c2.toNat_lt
        have h3 : c3.toNat < 256 := c3.toNat_lt
        have e1 : ((c0 :: c1 :: c2 :: c3 :: t3).getD 1 0).toNat = c1.toNat := rfl
        have e2 : ((c0 :: c1 :: c2 :: c3 :: t3).getD 2 0).toNat = c2.toNat := rfl
        have e3 : ((c0 :: c1 :: c2 :: c3 :: t3).getD 3 0).toNat = c3.toNat := rfl
        have hn : 3 < (c0 :: c1 :: c2 :: c3 :: t3).length := by simp
        rw [show (c0 :: c1 :: c2 :: c3 :: t3).tail = c1 :: c2 :: c3 :: t3 from rfl, e1, e2, e3]
        have hA : accM (c0.toNat - 240) (4 - 1) (c1 :: c2 :: c3 :: t3) = if 128 ≤ c1.toNat ∧ c1.toNat < 192 then (if 128 ≤ c2.toNat ∧ c2.toNat < 192 then (if 128 ≤ c3.toNat ∧ c3.toNat < 192 then some ((((c0.toNat - 240) * 64 + c1.toNat - 128) * 64 + c2.toNat - 128) * 64 + c3.toNat - 128) else none) else none) else none := by simp only [accM]
        have hD : ∀ n, 3 < n → Lib.decodeN n c0.toNat c1.toNat c2.toNat c3.toNat = if 128 ≤ c1.toNat ∧ c1.toNat < 192 then (if 128 ≤ c2.toNat ∧ c2.toNat < 192 then (if 128 ≤ c3.toNat ∧ c3.toNat < 192 then (if c0.toNat % 8 * 262144 + c1.toNat % 64 * 4096 + c2.toNat % 64 * 64 + c3.toNat % 64 ≥ 65536 ∧ (c0.toNat % 8 * 262144 + c1.toNat % 64 * 4096 + c2.toNat % 64 * 64 + c3.toNat % 64 < 55296 ∨ (57344 ≤ c0.toNat % 8 * 262144 + c1.toNat % 64 * 4096 + c2.toNat % 64 * 64 + c3.toNat % 64 ∧ c0.toNat % 8 * 262144 + c1.toNat % 64 * 4096 + c2.toNat % 64 * 64 + c3.toNat % 64 ≤ 1114111)) then (c0.toNat % 8 * 262144 + c1.toNat % 64 * 4096 + c2.toNat % 64 * 64 + c3.toNat % 64, 4) else (65533, 1)) else (65533, 1)) else (65533, 1)) else (65533, 1) := fun n hn => by
          unfold Lib.decodeN
          rw [if_neg (by omega), if_neg (by omega), if_neg (by omega)]
          by_cases k1 : 128 ≤ c1.toNat ∧ c1.toNat < 192
          · by_cases k2 : 128 ≤ c2.toNat ∧ c2.toNat < 192
            · by_cases k3 : 128 ≤ c3.toNat ∧ c3.toNat < 192
              · rw [if_pos k1, if_pos k2, if_pos k3, if_pos ⟨by omega, ⟨by omega, by omega⟩, ⟨by omega, by omega⟩, hn, by omega⟩]
              · rw [if_pos k1, if_pos k2, if_neg k3, if_neg (by omega)]
            · rw [if_pos k1, if_neg k2, if_neg (by omega)]
          · rw [if_neg k1, if_neg (by omega)]
        rw [hA, hD _ hn]
        by_cases k1 : 128 ≤ c1.toNat ∧ c1.toNat < 192
        · by_cases k2 : 128 ≤ c2.toNat ∧ c2.toNat < 192
          · by_cases k3 : 128 ≤ c3.toNat ∧ c3.toNat < 192
            · have ev : (((c0.toNat - 240) * 64 + c1.toNat - 128) * 64 + c2.toNat - 128) * 64 + c3.toNat - 128 = c0.toNat % 8 * 262144 + c1.toNat % 64 * 4096 + c2.toNat % 64 * 64 + c3.toNat % 64 := by omega
              rw [if_pos k1, if_pos k1, if_pos k2, if_pos k2, if_pos k3, if_pos k3, ev]
              dsimp only
              generalize c0.toNat % 8 * 262144 + c1.toNat % 64 * 4096 + c2.toNat % 64 * 64 + c3.toNat % 64 = v
              by_cases k4 : v ≥ 65536 ∧ (v < 55296 ∨ (57344 ≤ v ∧ v ≤ 1114111))
              · rw [if_neg (by omega), if_pos k4, if_pos (by simp)]
              · rw [if_pos (by omega), if_neg k4, if_neg (by simp)]
            · rw [if_pos k1, if_pos k1, if_pos k2, if_pos k2, if_neg k3, if_neg k3, if_neg (by simp)]
          · rw [if_pos k1, if_pos k1, if_neg k2, if_neg k2, if_neg (by simp)]
        · rw [if_neg k1, if_neg k1, if_neg (by simp)]
    have hh : headM c0.toNat = (0, 0, 0) := by unfold headM; rw [if_neg r2, if_neg r3, if_neg r4]
    rw [hh, if_pos (.inl rfl), none_]
    rcases sh with ⟨c, e⟩ | ⟨c1, c2, _, _, e⟩ | ⟨c1, c2, _, _, _, _, e⟩ | ⟨c1, c2, _, _, _, _, _, e⟩ | e <;> rw [e] <;> simp at * <;> omega
/-- A quoted text's body, byte by byte. -/
def qR : Nat → List UInt8 → List UInt8
  | 0, _ => []
  | _ + 1, [] => []
  | k + 1, c :: t =>
    if c.toNat = 34 ∨ c.toNat = 92 then 92 :: c :: qR k t
    else if c.toNat = 10 then 92 :: 110 :: qR k t
    else if c.toNat = 9 then 92 :: 116 :: qR k t
    else if 32 ≤ c.toNat ∧ c.toNat < 127 then c :: qR k t
    else if 160 ≤ (runeM (c :: t)).1 then (c :: t).take (runeM (c :: t)).2 ++ qR k ((c :: t).drop (runeM (c :: t)).2)
    else hexB c ++ qR k t
theorem runeM_len (l : List UInt8) : (runeM l).2 ≤ l.length ∧ (0 < (runeM l).1 → 2 ≤ (runeM l).2) := by
  unfold runeM
  by_cases h : 2 ≤ (decodeL l).2
  · rw [if_pos h]
    refine ⟨?_, fun _ => h⟩
    cases l with
    | nil =>
      exfalso
      revert h
      rw [Lib.decodeL_N]
      decide
    | cons c t =>
      have := Lib.decodeN_width_le (c :: t).length ((c :: t).getD 0 0).toNat ((c :: t).getD 1 0).toNat ((c :: t).getD 2 0).toNat ((c :: t).getD 3 0).toNat (by simp)
      rwa [← Lib.decodeL_N] at this
  · rw [if_neg h]
    exact ⟨by simp, fun h => by simp at h⟩
theorem qR_up : ∀ (k : Nat) (l : List UInt8), l.length ≤ k → qR (k + 1) l = qR k l
  | 0, [], _ => rfl
  | 0, _ :: _, h => by simp at h
  | _ + 1, [], _ => rfl
  | k + 1, c :: t, h => by
    have ih := qR_up k
    have hl : t.length ≤ k := by simpa using h
    rw [qR, qR]
    have hr := runeM_len (c :: t)
    simp only [List.length_cons] at hr
    by_cases h5 : 160 ≤ (runeM (c :: t)).1
    · rw [if_pos h5, if_pos h5, ih t hl, ih ((c :: t).drop (runeM (c :: t)).2) (by rw [List.length_drop, List.length_cons]; have := hr.2 (by omega); omega)]
    · rw [if_neg h5, if_neg h5, ih t hl]
theorem qR_any (k j : Nat) (l : List UInt8) (h : l.length ≤ k) : qR (k + j) l = qR k l := by
  induction j with
  | zero => rfl
  | succ j ih => rw [← ih, ← Nat.add_assoc]; exact qR_up _ _ (by omega)
theorem qR_eq {k j : Nat} {l : List UInt8} (h : l.length ≤ k) (h' : l.length ≤ j) : qR k l = qR j l := by
  obtain ⟨a, rfl⟩ : ∃ a, k = l.length + a := ⟨k - l.length, by omega⟩
  obtain ⟨b, rfl⟩ : ∃ b, j = l.length + b := ⟨j - l.length, by omega⟩
  rw [qR_any _ _ _ (Nat.le_refl _), qR_any _ _ _ (Nat.le_refl _)]
theorem runeM_cont {c : UInt8} {t : List UInt8} (h : 128 ≤ c.toNat ∧ c.toNat < 192) : runeM (c :: t) = (0, 0) := by
  rw [← runeR_is]
  unfold runeR
  have hh : headM (pk (c :: t)) = (0, 0, 0) := by
    show headM c.toNat = _
    unfold headM
    rw [if_neg (by omega), if_neg (by omega), if_neg (by omega)]
  rw [hh, if_pos (.inl rfl)]
/-- It is the text that Print writes. -/
theorem qR_is (s : ByteArray) : ∀ (n pos : Nat), s.size - pos = n → pos ≤ s.size → qR n (rest s pos) = quoteF s s.size pos := by
  intro n
  induction n using Nat.strongRecOn with
  | _ n ih =>
    intro pos hn hpos
    by_cases hp : pos < s.size
    · have h1 := Lib.decode_width_pos s pos hp
      have h2 := (decode_in s pos hp).2
      rw [quoteF_step s pos hp]
      have hi := ih (s.size - (pos + (Utf8.decode s pos).2)) (by omega) (pos + (Utf8.decode s pos).2) rfl h2
      have hg : s.data.toList.getD pos 0 = (rest s pos).getD 0 0 := by simp [List.getD_eq_getElem?_getD, List.getElem?_drop, rest]
      have hL := pk_rest hp
      have hdr : ∀ m, (rest s pos).drop m = rest s (pos + m) := fun m => by show List.drop m (List.drop pos _) = _; rw [List.drop_drop]
      unfold pieceQ
      rw [drop_decode] at h1 h2 hi ⊢
      change pos + (decodeL (rest s pos)).2 ≤ s.size at h2
      change 0 < (decodeL (rest s pos)).2 at h1
      rw [hg]
      have hne : rest s pos ≠ [] := by rw [hL]; simp
      have hcs := decode_cases (rest s pos) hne
      have henc := Lib.encode_decode (rest s pos) hne
      have hlen : (rest s pos).length = n := by rw [restL]; exact hn
      show qR n (rest s pos) = (if (decodeL (rest s pos)).1 = 34 ∨ (decodeL (rest s pos)).1 = 92 then [92, (rest s pos).getD 0 0] else if (decodeL (rest s pos)).1 = 10 then [92, 110] else if (decodeL (rest s pos)).1 = 9 then [92, 116] else if plainR (decodeL (rest s pos)).1 (decodeL (rest s pos)).2 then Lib.encodeRune (decodeL (rest s pos)).1 else ((rest s pos).take (decodeL (rest s pos)).2).flatMap hexB) ++ quoteF s s.size (pos + (decodeL (rest s pos)).2)
      change qR (s.size - (pos + (decodeL (rest s pos)).2)) (rest s (pos + (decodeL (rest s pos)).2)) = quoteF s s.size (pos + (decodeL (rest s pos)).2) at hi
      have hd2 : 2 ≤ (decodeL (rest s pos)).2 → runeM (rest s pos) = decodeL (rest s pos) := fun h => if_pos h
      have hd1 : ¬ 2 ≤ (decodeL (rest s pos)).2 → runeM (rest s pos) = (0, 0) := fun h => if_neg h
      have hsh := Lib.decodeN_shape (rest s pos).length ((rest s pos).getD 0 0).toNat ((rest s pos).getD 1 0).toNat ((rest s pos).getD 2 0).toNat ((rest s pos).getD 3 0).toNat
      rw [← Lib.decodeL_N] at hsh
      have h0 : (rest s pos).getD 0 0 = s[pos]'hp := by rw [hL]; rfl
      obtain ⟨n, rfl⟩ : ∃ m, n = m + 1 := ⟨n - 1, by omega⟩
      have hr1 : (rest s pos).drop 1 = rest s (pos + 1) := hdr 1
      generalize hq : rest s pos = l at *
      subst hL
      rw [h0] at hcs ⊢
      generalize s[pos]'hp = c at *
      rw [qR]
      have hrl : (rest s (pos + 1)).length = n := by simpa using hlen
      rcases hcs with ⟨e1, e2, e3⟩ | ⟨e1, e2, e3⟩ | ⟨e1, e2⟩
      · rw [e2] at hi ⊢
        rw [← hi, show s.size - (pos + 1) = n by omega, e1]
        have ht : (c :: rest s (pos + 1)).take 1 = [c] := rfl
        have hen : Lib.encodeRune ((decodeL (c :: rest s (pos + 1))).1 : Int) = [c] := by rw [henc (by rw [e1]; omega), e2]; rfl
        rw [e1] at hen
        by_cases q1 : c.toNat = 34 ∨ c.toNat = 92
        · rw [if_pos q1, if_pos q1]; rfl
        rw [if_neg q1, if_neg q1]
        by_cases q2 : c.toNat = 10
        · rw [if_pos q2, if_pos q2]; rfl
        rw [if_neg q2, if_neg q2]
        by_cases q3 : c.toNat = 9
        · rw [if_pos q3, if_pos q3]; rfl
        rw [if_neg q3, if_neg q3]
        by_cases q4 : 32 ≤ c.toNat ∧ c.toNat < 127
        · have : plainR c.toNat 1 = true := by
            unfold plainR
            rw [decide_eq_true q4.1, decide_eq_true (by omega : c.toNat ≤ 126)]; rfl
          rw [if_pos q4, if_pos this, hen]; rfl
        · have : plainR c.toNat 1 = false := by
            unfold plainR
            rw [Bool.or_eq_false_iff, Bool.and_eq_false_iff, Bool.and_eq_false_iff, decide_eq_false_iff_not, decide_eq_false_iff_not, decide_eq_false_iff_not, decide_eq_false_iff_not]
            exact ⟨by omega, .inr (by omega)⟩
          rw [if_neg q4, hd1 (by omega), if_neg (by decide), this, if_neg (by decide), ht]
          simp
      · have hdl : decodeL (c :: rest s (pos + 1)) = runeM (c :: rest s (pos + 1)) := (hd2 e2).symm
        have n1 : ¬ ((decodeL (c :: rest s (pos + 1))).1 = 34 ∨ (decodeL (c :: rest s (pos + 1))).1 = 92) := by omega
        have n2 : ¬ (decodeL (c :: rest s (pos + 1))).1 = 10 := by omega
        have n3 : ¬ (decodeL (c :: rest s (pos + 1))).1 = 9 := by omega
        rw [if_neg (by omega), if_neg (by omega), if_neg (by omega), if_neg (by omega), if_neg n1, if_neg n2, if_neg n3, hd2 e2]
        by_cases q4 : 160 ≤ (decodeL (c :: rest s (pos + 1))).1
        · have : plainR (decodeL (c :: rest s (pos + 1))).1 (decodeL (c :: rest s (pos + 1))).2 = true := by
            unfold plainR
            rw [decide_eq_true q4, decide_eq_true (by omega : 1 < (decodeL (c :: rest s (pos + 1))).2)]
            simp
          rw [if_pos q4, if_pos this, henc (by omega), hdr, ← hi]
          congr 1
          refine qR_eq ?_ ?_ <;> rw [restL] <;> omega
        · have : plainR (decodeL (c :: rest s (pos + 1))).1 (decodeL (c :: rest s (pos + 1))).2 = false := by
            unfold plainR
            rw [Bool.or_eq_false_iff, Bool.and_eq_false_iff, Bool.and_eq_false_iff, decide_eq_false_iff_not, decide_eq_false_iff_not, decide_eq_false_iff_not, decide_eq_false_iff_not]
            exact ⟨by omega, .inl (by omega)⟩
          rw [if_neg q4, this, if_neg (by decide), ← hi]
          rcases hsh with ⟨_, e⟩ | ⟨c1, c2, c3, c4, e⟩ | ⟨c1, c2, c3, c4, c5, c6, e⟩ | ⟨c1, c2, c3, c4, c5, c6, c7, e⟩ | e
          · rw [e] at e2; simp at e2
          · have e22 : (decodeL (c :: rest s (pos + 1))).2 = 2 := by rw [e]
            rw [e22] at h2 ⊢
            have hp1 : pos + 1 < s.size := by omega
            have hL1 := pk_rest hp1
            rw [hL1]
            rw [hL1] at c3
            have hc1 : 128 ≤ (s[pos + 1]'hp1).toNat ∧ (s[pos + 1]'hp1).toNat < 192 := by
              have : ((c :: s[pos + 1]'hp1 :: rest s (pos + 1 + 1)).getD 1 0) = s[pos + 1]'hp1 := rfl
              rw [this] at c3
              omega
            obtain ⟨n, rfl⟩ : ∃ m, n = m + 1 := ⟨n - 1, by omega⟩
            rw [qR, if_neg (by omega), if_neg (by omega), if_neg (by omega), if_neg (by omega), runeM_cont hc1, if_neg (by decide)]
            rw [show s.size - (pos + 2) = n by omega]
            simp [List.take_succ_cons]
          · rw [e] at q4; dsimp only at q4; omega
          · rw [e] at q4; dsimp only at q4; omega
          · rw [e] at e2; simp at e2
      · rw [e2] at hi ⊢
        have hb : 128 ≤ c.toNat := by
          rcases hsh with ⟨_, e⟩ | ⟨c1, c2, c3, c4, e⟩ | ⟨c1, c2, c3, c4, c5, c6, e⟩ | ⟨c1, c2, c3, c4, c5, c6, c7, e⟩ | e
          · rw [e] at e1
            have : ((c :: rest s (pos + 1)).getD 0 0) = c := rfl
            rw [this] at e1
            dsimp only at e1
            have := c.toNat_lt
            omega
          · rw [e] at e2; simp at e2
          · rw [e] at e2; simp at e2
          · rw [e] at e2; simp at e2
          · refine Decidable.byContradiction fun hlt => ?_
            rw [Lib.decodeL_N] at e
            have : ((c :: rest s (pos + 1)).getD 0 0) = c := rfl
            rw [this] at e
            unfold Lib.decodeN at e
            rw [if_pos (by omega)] at e
            have := congrArg Prod.fst e
            dsimp only at this
            omega
        rw [← hi, show s.size - (pos + 1) = n by omega, if_neg (by omega), if_neg (by omega), if_neg (by omega), if_neg (by omega), hd1 (by omega), if_neg (by decide), e1, if_neg (by decide), if_neg (by decide), if_neg (by decide), if_neg (by decide)]
        simp
    · have hf : quoteF s s.size pos = [] := by
        cases hz : s.size with
        | zero => rfl
        | succ j => rw [quoteF, if_neg hp]
      have hd : rest s pos = [] := List.drop_of_length_le (by have := sizeB s; omega)
      rw [hf, hd]
      cases n <;> rfl
end Go.Proofs.YtjlmkahagcojcaaGreatDoor.V
