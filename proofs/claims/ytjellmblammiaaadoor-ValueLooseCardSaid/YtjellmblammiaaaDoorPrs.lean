/- Plain law: a lawful text between blanks is parsed. -/
import Derived.Test.YtjellmblammiaaaDoorFrm
import Derived.Test.YtjellmblammiaaaDoorRdz
namespace Go.Proofs.YtjellmblammiaaaDoor
open Go Tr
set_option maxRecDepth 100000
theorem bl_not {b : List UInt8} (h : Bl b) : ¬ (48 ≤ pk b ∧ pk b ≤ 57) := by
  have := bl_pk (z := []) h (by decide)
  rwa [List.append_nil] at this
theorem parse_form {x : VT} {t b0 b1 : List UInt8} (hf : Fit x) (hc : checkV x = 0) (hfm : Fm x t) (h0 : Bl b0) (h1 : Bl b1) : parseM (b0 ++ (t ++ b1)) = some (x, (partV 0 0 x).2) := by
  obtain ⟨c, t', e, hb⟩ := Fm_first hfm
  have hst : blanksM (b0 ++ (t ++ b1)) = t ++ b1 := by
    rw [blanks_app _ h0, e]
    exact blanks_stop (begs_not hb).1
  have hend : blanksM b1 = [] := by
    have := blanks_app [] h1
    rw [List.append_nil] at this
    exact this
  unfold parseM
  rw [hst, lead_form hf hc hfm b1 (bl_not h1)]
  dsimp only
  rw [if_pos hend]
end Go.Proofs.YtjellmblammiaaaDoor
