/- Ints and steps compared, of the same; no fault told. -/
import Derived.Test.YtjlmkahagcojcaaGreatDoorOpb
namespace Go.Proofs.YtjlmkahagcojcaaGreatDoor
open Go Tr
set_option maxRecDepth 100000
theorem sameInts_up (w : World) (p q : Option Addr) (n m c d : Nat) (l : List Int) (ha : AtI w p n l) (hb : AtI w q m l) (hn : n ≤ 2000000) :
    Calls Tryz.prog 31 #[.slice p n c, .slice q m d] w fun e w' => e = .returned (.bool true) ∧ Ch No w w' := by
  have hm : n = m := by have := ha.1; have := hb.1; omega
  subst hm
  refine calls_of_fnT mixed Tryz.func31 (s := s31) ?_
  rw [t31]
  refine br_false (by simp) ?_
  refine loop_i mixed m31_1 s31_1 (by kernel_rfl) (by kernel_rfl)
    (fun (v : Int × Unit) w' => 0 ≤ v.1 ∧ v.1 ≤ n ∧ Ch No w w') (fun (v : Int × Unit) _ => n - v.1.toNat) (0, ()) rfl ⟨by simp, by simp, Ch.refl _ _⟩ ?_
  rintro ⟨(i : Int), ⟨⟩⟩ g w1 ⟨(i0 : 0 ≤ i), (i1 : i ≤ n), h1⟩
  rw [t31_1]
  refine br_both (fun e => ?_) fun e => ?_
  · have hi : i < n := lt_t e
    have hl := ha.1
    obtain ⟨x, hx⟩ : ∃ u, l[i.toNat]? = some u := ⟨_, List.getElem?_eq_getElem (by omega)⟩
    obtain ⟨g1, o1, rfl, hc1⟩ := (ha.no h1.drew).2 (by omega)
    obtain ⟨g2, o2, rfl, hc2⟩ := (hb.no h1.drew).2 (by omega)
    refine dr_eq (ix_i i0 hi ?_)
    rw [addr_add, Nat.mul_one]
    refine lq_int (hc1 _ _ hx) (ix_i i0 hi ?_)
    rw [addr_add, Nat.mul_one]
    refine lq_int (hc2 _ _ hx) (un_eq (br_false (by simp) ?_))
    refine ⟨(i + 1, ()), ?_, ⟨by dsimp only; omega, by dsimp only; omega, h1.drew⟩, by dsimp only; omega⟩
    rw [wrap_succ i0 (by omega)]; rfl
  · exact ⟨rfl, (), rfl, fun g => ⟨rfl, h1⟩⟩
theorem sameOps_up (w : World) (p q : Option Addr) (n m c d : Nat) (l : List OpM) (ha : AtOps w p n l) (hb : AtOps w q m l) (hn : n ≤ 2000000) (hk : ∀ o ∈ l, o.keep.length ≤ 2000000) :
    Calls Tryz.prog 9 #[.slice p n c, .slice q m d] w fun e w' => e = .returned (.bool true) ∧ Ch No w w' := by
  have hm : n = m := by have := ha.1; have := hb.1; omega
  subst hm
  refine calls_of_fnT mixed Tryz.func9 (s := s9) ?_
  rw [t9]
  refine br_false (by simp) ?_
  refine loop_i mixed m9_1 s9_1 (by kernel_rfl) (by kernel_rfl)
    (fun (v : Int × Unit) w' => 0 ≤ v.1 ∧ v.1 ≤ n ∧ Ch No w w') (fun (v : Int × Unit) _ => n - v.1.toNat) (0, ()) rfl ⟨by simp, by simp, Ch.refl _ _⟩ ?_
  rintro ⟨(i : Int), ⟨⟩⟩ g w1 ⟨(i0 : 0 ≤ i), (i1 : i ≤ n), h1⟩
  rw [t9_1]
  refine br_both (fun e => ?_) fun e => ?_
  · have hi : i < n := lt_t e
    have hl := ha.1
    obtain ⟨x, hx⟩ : ∃ u, l[i.toNat]? = some u := ⟨_, List.getElem?_eq_getElem (by omega)⟩
    obtain ⟨g1, o1, rfl, hc1⟩ := ha.2 (by omega)
    obtain ⟨g2, o2, rfl, hc2⟩ := hb.2 (by omega)
    obtain ⟨kp, kn, kc, a0, a1, a2, a3, a4⟩ := hc1 _ _ hx
    obtain ⟨kp', kn', kc', b0, b1, b2, b3, b4⟩ := hc2 _ _ hx
    refine ⟨fun w' => Ch No w w', h1.drew, ?_⟩
    have rd : ∀ {a : Addr} {v : Value}, w.cell? a = some v → ∀ w', Ch No w w' → w'.cell? a = some v := fun h w' hc => hc.cellv h (fun h => h)
    refine ix_i i0 hi ?_
    rw [addr_add]
    refine ⟨_, rd a1, ix_i i0 hi ?_⟩
    rw [addr_add]
    refine ⟨_, rd b1, br_false (by simp) (ix_i i0 hi ?_)⟩
    rw [addr_add, addr_add]
    refine ⟨_, rd a2, ix_i i0 hi ?_⟩
    rw [addr_add, addr_add]
    refine ⟨_, rd b2, br_false (by simp) (ix_i i0 hi ?_)⟩
    rw [addr_add, addr_add]
    refine ⟨_, rd a3, ix_i i0 hi ?_⟩
    rw [addr_add, addr_add]
    refine ⟨_, rd b3, br_false (by simp) (ix_i i0 hi ?_)⟩
    rw [addr_add, addr_add]
    refine ⟨(kp, kn, kc), rd a4, ix_i i0 hi ?_⟩
    rw [addr_add, addr_add]
    refine ⟨(kp', kn', kc'), rd b4, ?_⟩
    have hkl : kn ≤ 2000000 := by
      have h1 := a0.1
      have := hk x (List.mem_of_getElem? hx)
      omega
    refine ⟨true, fun w2 h2 => (sameInts_up w2 kp kp' kn kn' kc kc' x.keep (a0.no h2) (b0.no h2) hkl).mono fun e w3 ⟨he, h3⟩ => ⟨he, h2.trans h3⟩, ?_⟩
    intro w3 h3
    refine br_false rfl ?_
    refine ⟨(i + 1, ()), ?_, ⟨by dsimp only; omega, by dsimp only; omega, h3⟩, by dsimp only; omega⟩
    rw [wrap_succ i0 (by omega)]; rfl
  · exact ⟨rfl, (), rfl, fun g => ⟨rfl, h1⟩⟩
theorem agrees_nil (w : World) : Calls Tryz.prog 8 #[.nilIface, .int .i64 0, .int .i64 0, .int .i64 0] w fun e w' => e = .returned (.bool true) ∧ Ch No w w' := by
  refine calls_of_fnT mixed Tryz.func8 (s := s8) ?_
  rw [t8]
  refine cl_i (told_nil w) ?_
  rintro e w1 ⟨rfl, rfl⟩
  exact ⟨(0, 0, 0, ()), rfl, br_true rfl (br_true rfl ⟨rfl, Ch.refl _ _⟩)⟩
end Go.Proofs.YtjlmkahagcojcaaGreatDoor
