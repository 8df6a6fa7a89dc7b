/- More arguments opened: bytes, ints, a text; the error that the row lists. -/
import Derived.Test.YtjellmblammiaaaDoorOpn
import Derived.Test.YtjellmblammiaaaDoorRdi
import Derived.Deep.DeepWitnessRowRef
import Derived.SizedLaws
import Derived.ChangeMaps5
namespace Go.Proofs.YtjellmblammiaaaDoor
open Go
set_option maxRecDepth 100000
theorem cells5 : Tryd.prog.cellsOf 5 = 1 := by kernel_rfl
section
variable {H : Type} {enc : TypeId × Value → H} {w : World} {base : Nat} {sp : Nat → Bool} {held : Bool}
theorem bytes_cells {fuel : Nat} {cs : List Value} {x : DataW H × List MemPlace} (h : DataW.trod enc Tryd.prog w base sp held fuel 29 cs = some x) : ∃ p n c bs, cs = [.slice p n c] ∧ AtB w p n bs ∧ n ≤ c ∧ c ≤ 9223372036854775807 := by
  have hm : maxLen = 9223372036854775807 := by decide
  rcases DataW.trod_slice Tryd.underlying29 h with ⟨e3, -⟩ | ⟨a, len, cap, el, rs, m, rfl, e3, -, -, hlc, hcap, hel, hget, -, -⟩
  · exact ⟨none, 0, 0, [], e3, ⟨rfl, fun h => by omega⟩, by omega, by omega⟩
  · have each : ∀ i, ∃ u : UInt8, i < len → w.cell? (a.add i) = some (.int .u8 (u.toNat : Int)) := by
      intro i
      by_cases hi : i < len
      · have h1 := hget i hi
        rw [cells5, List.getElem?_eq_getElem (by omega), Nat.mul_one] at h1
        obtain ⟨cs', hc', ht'⟩ := Option.bind_eq_some_iff.1 h1
        obtain ⟨z, rfl, -, wz⟩ := DataW.trod_int Tryd.underlying5 ht'
        obtain ⟨_, _, hcc⟩ := World.cells?_some hc'
        have hz := Go.bounds_u8 wz
        refine ⟨UInt8.ofNat z.toNat, fun _ => ?_⟩
        have := hcc 0 (by omega)
        rw [show (a.add i).add 0 = a.add i by rw [add_add, Nat.add_zero]] at this
        rw [toNat_of _ (by omega), this]
        show some (Value.int .u8 z) = _
        rw [show ((z.toNat : Nat) : Int) = z by omega]
      · exact ⟨0, fun h => absurd h hi⟩
    let F : Nat → UInt8 := fun i => (each i).choose
    have hF : ∀ i, i < len → w.cell? (a.add i) = some (.int .u8 ((F i).toNat : Int)) := fun i => (each i).choose_spec
    refine ⟨some a, len, cap, (List.range len).map F, e3, ⟨by simp, fun _ => ⟨a, rfl, fun j u hu => ?_⟩⟩, hlc, by omega⟩
    simp only [List.getElem?_map, Option.map_eq_some_iff] at hu
    obtain ⟨j', hj, rfl⟩ := hu
    have hi : j < len := by
      have := (List.getElem?_eq_some_iff.1 hj).1
      simpa using this
    rw [List.getElem?_range hi] at hj
    cases hj
    exact hF j hi
theorem cells_slice {r : Reach} {b0 : Nat} {t e : TypeId} {v : Value} (ht : Tryd.prog.underlying t = some (.slice e)) (hv : Value.okWide Tryd.prog w r b0 t v) : ∃ p n c, v = .slice p n c := by
  unfold Value.okWide at hv
  rw [ht] at hv
  unfold Cell.okWide at hv
  rw [ht] at hv
  cases v <;> simp [Cell.ok, ht] at hv
  exact ⟨_, _, _, rfl⟩
theorem open_bytes {r : Reach} {b0 : Nat} {v : Value} {d : DataW H} {ps : List MemPlace} (hv : Value.okWide Tryd.prog w r b0 29 v) (h : DataW.Trod enc Tryd.prog w base sp held 29 v d ps) :
    ∃ p n c bs, v = .slice p n c ∧ AtB w p n bs ∧ n ≤ c ∧ c ≤ 9223372036854775807 := by
  obtain ⟨p, n, c, rfl⟩ := cells_slice Tryd.underlying29 hv
  obtain ⟨fuel, h⟩ := h
  obtain ⟨p', n', c', bs, e, h1, h2, h3⟩ := bytes_cells h
  have e : [Value.slice p n c] = [.slice p' n' c'] := e
  cases e
  exact ⟨_, _, _, bs, rfl, h1, h2, h3⟩
end
theorem gRange : Tryd.prog.globalNamed "strconv.ErrRange" = some 4 := by kernel_rfl
theorem gRangeT : (Tryd.prog.globals[4]?).map (·.type) = some 92 := by kernel_rfl
theorem ev_of {w : World} {d : DataW Unit} (h : Lib.VarReads Tryd.prog w "strconv.ErrRange" (.iface "*errors.errorString" d)) : Ev w := by
  obtain ⟨g, t, cs, fuel, p, hg, hty, hvar, hd⟩ := h
  obtain rfl := Option.some.inj (gRange.symm.trans hg)
  obtain rfl := Option.some.inj (gRangeT.symm.trans hty)
  have hc0 := World.var?_cell hg hvar 0
  rw [← Array.getElem?_toList] at hc0
  cases fuel with
  | zero => simp [DataW.trod] at hd
  | succ fuel =>
    simp only [DataW.trod, Tryd.underlying92] at hd
    split at hd <;> simp_all
    exact ⟨_, _, hc0⟩
end Go.Proofs.YtjellmblammiaaaDoor
