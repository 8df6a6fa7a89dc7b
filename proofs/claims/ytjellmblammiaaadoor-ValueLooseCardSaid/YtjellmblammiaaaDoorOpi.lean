/- Ints opened; the walk of ValueLoose beside them. -/
import Derived.Test.YtjellmblammiaaaDoorOpq
import Derived.Test.YtjellmblammiaaaDoorLse
namespace Go.Proofs.YtjellmblammiaaaDoor
open Go
set_option maxRecDepth 100000
theorem cellsInt : Tryd.prog.cellsOf 3 = 1 := by kernel_rfl
section
variable {H : Type} {enc : TypeId × Value → H} {w : World} {base : Nat} {sp : Nat → Bool} {held : Bool}
theorem open_ints {r : Reach} {b0 : Nat} {v : Value} {d : DataW H} {ps : List MemPlace} (hv : Value.okWide Tryd.prog w r b0 39 v) (h : DataW.Trod enc Tryd.prog w base sp held 39 v d ps) :
    ∃ p n c, v = .slice p n c ∧ AtI w p n := by
  obtain ⟨p, n, c, rfl⟩ := cells_slice Tryd.underlying39 hv
  obtain ⟨fuel, h⟩ := h
  refine ⟨_, _, _, rfl, ?_⟩
  rcases DataW.trod_slice Tryd.underlying39 h with ⟨e3, -⟩ | ⟨a, len, cap, el, rs, m, rfl, e3, -, -, hlc, hcap, hel, hget, -, -⟩
  · have e3 : [Value.slice p n c] = [.slice none 0 0] := e3
    cases e3
    intro h; omega
  · have e3 : [Value.slice p n c] = [.slice (some a) len cap] := e3
    cases e3
    refine fun _ => ⟨a, rfl, fun i hi => ?_⟩
    have h1 := hget i hi
    rw [cellsInt, List.getElem?_eq_getElem (by omega), Nat.mul_one] at h1
    obtain ⟨cs', hc', ht'⟩ := Option.bind_eq_some_iff.1 h1
    obtain ⟨z, rfl, -, wz⟩ := DataW.trod_int Tryd.underlying3 ht'
    obtain ⟨_, _, hcc⟩ := World.cells?_some hc'
    have hz := Go.bounds_i64 wz
    have := hcc 0 (by omega)
    rw [show (a.add i).add 0 = a.add i by rw [add_add, Nat.add_zero]] at this
    exact ⟨z, this, by unfold Rng; omega⟩
end
end Go.Proofs.YtjellmblammiaaaDoor
