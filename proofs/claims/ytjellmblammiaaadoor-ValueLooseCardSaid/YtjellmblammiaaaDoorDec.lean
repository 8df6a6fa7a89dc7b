/- Plain law: a decimal numeral tells its number. -/
import Derived.Test.YtjellmblammiaaaDoorInj
namespace Go.Proofs.YtjellmblammiaaaDoor
open Go
def dval (l : List UInt8) : Nat := l.foldl (fun a c => a * 10 + (c.toNat - 48)) 0
theorem dval_snoc (l : List UInt8) (c : UInt8) : dval (l ++ [c]) = dval l * 10 + (c.toNat - 48) := by simp [dval]
theorem dval_dec : ∀ (k u : Nat), u < k → dval (Lib.decDigits u) = u := by
  intro k
  induction k with
  | zero => intro u h; omega
  | succ k ih =>
    intro u hk
    rw [Lib.decDigits]
    by_cases h : u < 10
    · rw [dif_pos h]
      have : (UInt8.ofNat (48 + u)).toNat = 48 + u := by rw [UInt8.toNat_ofNat']; omega
      simp [dval]
      omega
    · rw [dif_neg h, dval_snoc, ih (u / 10) (by omega)]
      have : (UInt8.ofNat (48 + u % 10)).toNat = 48 + u % 10 := by rw [UInt8.toNat_ofNat']; omega
      rw [this]; omega
theorem dec_digit : ∀ (k u : Nat), u < k → ∀ c ∈ Lib.decDigits u, 48 ≤ c.toNat ∧ c.toNat ≤ 57 := by
  intro k
  induction k with
  | zero => intro u h; omega
  | succ k ih =>
    intro u hk c hc
    rw [Lib.decDigits] at hc
    by_cases h : u < 10
    · rw [dif_pos h] at hc
      have : (UInt8.ofNat (48 + u)).toNat = 48 + u := by rw [UInt8.toNat_ofNat']; omega
      simp only [List.mem_singleton] at hc
      subst hc
      omega
    · rw [dif_neg h] at hc
      rcases List.mem_append.1 hc with hc | hc
      · exact ih (u / 10) (by omega) c hc
      · have : (UInt8.ofNat (48 + u % 10)).toNat = 48 + u % 10 := by rw [UInt8.toNat_ofNat']; omega
        simp only [List.mem_singleton] at hc
        subst hc
        omega
theorem dec_inj {u v : Nat} (h : Lib.decDigits u = Lib.decDigits v) : u = v := by
  rw [← dval_dec _ u (Nat.lt_succ_self _), ← dval_dec _ v (Nat.lt_succ_self _), h]
end Go.Proofs.YtjellmblammiaaaDoor
