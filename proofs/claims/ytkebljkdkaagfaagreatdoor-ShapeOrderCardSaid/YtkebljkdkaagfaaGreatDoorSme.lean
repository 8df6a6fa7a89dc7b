/- Plain law (no program in sight): of a good plan each port has its one edge; what stands before a task. -/
import Derived.Test.YtkebljkdkaagfaaGreatDoorSmd
namespace Go.Proofs.YtkebljkdkaagfaaGreatDoor.S
open Go
set_option maxRecDepth 100000
abbrev inTo (t : Nat) (e : EM) : Bool := decide (e.to = ((t : Nat) : Int))
abbrev outOf (t : Nat) (e : EM) : Bool := decide (e.frm = ((t : Nat) : Int))
theorem port_uniq {l : List EM} {q : EM → Bool} {f : EM → Int} (h : ((l.filter q).map f).Nodup) {i j : Nat} {a b : EM} (hi : l[i]? = some a) (hj : l[j]? = some b) (ha : q a = true) (hb : q b = true) (hf : f a = f b) : i = j := by
  unfold List.Nodup at h
  rw [List.pairwise_map, List.pairwise_filter, List.pairwise_iff_getElem] at h
  obtain ⟨hil, rfl⟩ := List.getElem?_eq_some_iff.1 hi
  obtain ⟨hjl, rfl⟩ := List.getElem?_eq_some_iff.1 hj
  rcases Nat.lt_trichotomy i j with hlt | heq | hlt
  · exact absurd hf (h i j hil hjl hlt ha hb)
  · exact heq
  · exact absurd hf.symm (h j i hjl hil hlt hb ha)
def portAt (l : List EM) (q : EM → Bool) (f : EM → Int) (j : Nat) : Nat := (l.findIdx? fun e => q e && decide (f e = ((j : Nat) : Int))).getD 0
theorem port_there {l : List EM} {q : EM → Bool} {f : EM → Int} {lo hi : Int} (h : Linked ((l.filter q).map f) lo hi) (h0 : ∀ x ∈ (l.filter q).map f, 0 ≤ x) {j : Nat} (hj : j < ((l.filter q).map f).length) :
    ∃ e, l[portAt l q f j]? = some e ∧ q e = true ∧ f e = ((j : Nat) : Int) := by
  obtain ⟨e, he, hf⟩ := List.mem_map.1 (h.all h0 hj)
  obtain ⟨hm, hq⟩ := List.mem_filter.1 he
  cases hx : l.findIdx? (fun e => q e && decide (f e = ((j : Nat) : Int))) with
  | none =>
    rw [List.findIdx?_eq_none_iff] at hx
    have := hx e hm
    rw [hq, hf, decide_eq_true rfl] at this
    cases this
  | some i =>
    unfold portAt
    rw [hx, Option.getD_some]
    obtain ⟨hi, hp, -⟩ := List.findIdx?_eq_some_iff_getElem.1 hx
    rw [Bool.and_eq_true, decide_eq_true_eq] at hp
    exact ⟨_, List.getElem?_eq_getElem hi, hp.1, hp.2⟩
theorem port_is {l : List EM} {q : EM → Bool} {f : EM → Int} {lo hi : Int} (h : Linked ((l.filter q).map f) lo hi) {i : Nat} {e : EM} (hi : l[i]? = some e) (hq : q e = true) (h0 : 0 ≤ f e) :
    (f e).toNat < ((l.filter q).map f).length ∧ portAt l q f (f e).toNat = i := by
  have hm : f e ∈ (l.filter q).map f := List.mem_map.2 ⟨e, List.mem_filter.2 ⟨List.mem_of_getElem? hi, hq⟩, rfl⟩
  have hlt := h.lt _ hm
  refine ⟨by omega, ?_⟩
  cases hx : l.findIdx? (fun e' => q e' && decide (f e' = (((f e).toNat : Nat) : Int))) with
  | none =>
    rw [List.findIdx?_eq_none_iff] at hx
    have := hx e (List.mem_of_getElem? hi)
    rw [hq, decide_eq_true (by omega)] at this
    cases this
  | some k =>
    unfold portAt
    rw [hx, Option.getD_some]
    obtain ⟨hk, hp, -⟩ := List.findIdx?_eq_some_iff_getElem.1 hx
    rw [Bool.and_eq_true, decide_eq_true_eq] at hp
    exact port_uniq h.nodup (List.getElem?_eq_getElem hk) hi hp.1 hq (by omega)
section
variable {p : PM} (h : Good p)
include h
theorem in_nn {t : Nat} : ∀ x ∈ insP p t, 0 ≤ x := fun x hx => by
  obtain ⟨e, he, rfl⟩ := List.mem_map.1 hx
  exact (h.edges e (List.mem_filter.1 he).1).2.2.2.1
theorem in_there {t j : Nat} (ht : t < p.tasks.length) (hj : j < (insP p t).length) : ∃ e, p.edges[inAt p t j]? = some e ∧ e.to = ((t : Nat) : Int) ∧ e.inn = ((j : Nat) : Int) := by
  obtain ⟨e, h1, h2, h3⟩ := port_there (q := inTo t) (f := (·.inn)) (h.ports t ht).1 (in_nn h) hj
  exact ⟨e, h1, of_decide_eq_true h2, h3⟩
theorem in_is {i : Nat} {e : EM} (hi : p.edges[i]? = some e) : e.inn.toNat < (insP p e.to.toNat).length ∧ inAt p e.to.toNat e.inn.toNat = i := by
  obtain ⟨h1, ⟨h2, h3⟩, -, h4, -⟩ := h.edges e (List.mem_of_getElem? hi)
  exact port_is (q := inTo e.to.toNat) (f := (·.inn)) (h.ports e.to.toNat (by omega)).1 hi (decide_eq_true (by omega)) h4
theorem out_is {i : Nat} {e : EM} (hi : p.edges[i]? = some e) : e.out.toNat < (outsP p e.frm.toNat).length ∧ outAt p e.frm.toNat e.out.toNat = i := by
  obtain ⟨⟨h2, h3⟩, -, ⟨h4, -⟩, -⟩ := h.edges e (List.mem_of_getElem? hi)
  exact port_is (q := outOf e.frm.toNat) (f := (·.out)) (h.ports e.frm.toNat (by omega)).2 hi (decide_eq_true (by omega)) h4
theorem ins_mem {t i : Nat} (ht : t < p.tasks.length) (hi : i ∈ insM p t) : ∃ e, p.edges[i]? = some e ∧ e.to = ((t : Nat) : Int) := by
  obtain ⟨j, hj, rfl⟩ := List.mem_map.1 hi
  obtain ⟨e, h1, h2, -⟩ := in_there h ht (List.mem_range.1 hj)
  exact ⟨e, h1, h2⟩
theorem mem_ins {i : Nat} {e : EM} (hi : p.edges[i]? = some e) : i ∈ insM p e.to.toNat := by
  obtain ⟨h1, h2⟩ := in_is h hi
  exact List.mem_map.2 ⟨_, List.mem_range.2 h1, h2⟩
end
/-- No edge but back edges leads to t from a task that isn't laid. -/
def freeE (p : PM) (o : List Nat) (i : Nat) : Bool := match p.edges[i]? with
  | some e => loopsM p e || o.contains e.frm.toNat
  | none => true
theorem free_is {p : PM} (h : Good p) (o : List Nat) {t : Nat} (ht : t < p.tasks.length) : freeB (grOf p false) o t = (!o.contains t && (insM p t).all (freeE p o)) := by
  unfold freeB
  congr 1
  rw [Bool.eq_iff_iff, List.all_eq_true, List.all_eq_true]
  constructor
  · intro hg i hi
    obtain ⟨e, h1, h2⟩ := ins_mem h ht hi
    unfold freeE
    rw [h1]
    show (loopsM p e || o.contains e.frm.toNat) = true
    cases hl : loopsM p e with
    | true => rfl
    | false =>
      have := hg (e.frm.toNat, e.to.toNat) (List.mem_map.2 ⟨e, List.mem_filter.2 ⟨List.mem_of_getElem? h1, by rw [hl]; rfl⟩, rfl⟩)
      rw [Bool.or_eq_true] at this
      rcases this with h3 | h3
      · have : e.to.toNat = t := by omega
        rw [this] at h3
        simp at h3
      · rw [Bool.false_or]
        exact h3
  · intro hi g hg
    obtain ⟨e, he, rfl⟩ := List.mem_map.1 hg
    obtain ⟨hm, hl⟩ := List.mem_filter.1 he
    obtain ⟨i, hil, hie⟩ := List.getElem_of_mem hm
    have h1 : p.edges[i]? = some e := by rw [List.getElem?_eq_getElem hil, hie]
    by_cases hto : e.to.toNat = t
    · have := hi i (hto ▸ mem_ins h h1)
      unfold freeE at this
      rw [h1] at this
      rw [Bool.or_eq_true]
      right
      dsimp only at this ⊢
      rw [Bool.false_or] at hl
      have hl' : loopsM p e = false := by simpa using hl
      rw [hl', Bool.false_or] at this
      exact this
    · rw [Bool.or_eq_true]
      exact .inl (by simpa using hto)
end Go.Proofs.YtkebljkdkaagfaaGreatDoor.S
