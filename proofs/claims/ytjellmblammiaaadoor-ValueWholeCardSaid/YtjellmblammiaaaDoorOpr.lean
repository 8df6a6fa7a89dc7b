/- Bytes opened, with their number; the walk of ValueWhole beside them. -/
import Derived.Test.YtjellmblammiaaaDoorOpq
import Derived.Test.YtjellmblammiaaaDoorWhl
namespace Go.Proofs.YtjellmblammiaaaDoor
open Go
set_option maxRecDepth 100000
theorem bytes5 : Tryd.prog.bytesOf 5 = 1 := by kernel_rfl
section
variable {H : Type} {enc : TypeId × Value → H} {w : World} {base : Nat} {sp : Nat → Bool} {held : Bool}
theorem open_bytes_len {r : Reach} {b0 : Nat} {v : Value} {d : DataW H} {ps : List MemPlace} (hv : Value.okWide Tryd.prog w r b0 29 v) (h : DataW.Trod enc Tryd.prog w base sp held 29 v d ps) :
    ∃ p n c bs, v = .slice p n c ∧ AtB w p n bs ∧ (p = none → c = 0) ∧ (n = 0 ∨ ∃ el sp, d = .slice el sp ∧ el.length = n) := by
  obtain ⟨p, n, c, rfl⟩ := cells_slice Tryd.underlying29 hv
  obtain ⟨fuel, h⟩ := h
  obtain ⟨p', n', c', bs, e, h1, h2, h3⟩ := bytes_cells h
  have e : [Value.slice p n c] = [.slice p' n' c'] := e
  cases e
  refine ⟨_, _, _, bs, rfl, h1, ?_⟩
  rcases DataW.trod_slice Tryd.underlying29 h with ⟨e3, -⟩ | ⟨a, len, cap, el, rs, m, -, e3, e4, -, -, -, hel, -, -⟩
  · have e3 : [Value.slice p n c] = [.slice none 0 0] := e3
    cases e3
    exact ⟨fun _ => rfl, .inl rfl⟩
  · have e3 : [Value.slice p n c] = [.slice (some a) len cap] := e3
    cases e3
    refine ⟨fun h => (by cases h), .inr ⟨_, _, congrArg Prod.fst e4, ?_⟩⟩
    simp [hel]
end
end Go.Proofs.YtjellmblammiaaaDoor
