/- Plain law (no program in sight): what Build answers, as plain functions: the seven checks, the shape. -/
import Derived.Test.YtkebljkdkaagfaaGreatDoorSmc
import Derived.Test.YtkebljkdkaagfaaGreatDoorPmd
namespace Go.Proofs.YtkebljkdkaagfaaGreatDoor.S
open Go
set_option maxRecDepth 100000
/-! ### The first that is bad -/
def firstM (n : Nat) (bad : Nat → Bool) : Option Nat := (List.range n).find? bad
theorem firstM_none {n : Nat} {bad : Nat → Bool} (h : ∀ i, i < n → bad i = false) : firstM n bad = none := by
  unfold firstM
  rw [List.find?_eq_none]
  intro x hx
  rw [h x (List.mem_range.1 hx)]
  decide
theorem firstM_some {n i : Nat} {bad : Nat → Bool} (hi : i < n) (hb : bad i = true) (h : ∀ j, j < i → bad j = false) : firstM n bad = some i := by
  unfold firstM
  rw [List.find?_range_eq_some]
  exact ⟨hb, List.mem_range.2 hi, fun j hj => by rw [h j hj]; rfl⟩
theorem firstM_all {n : Nat} {bad : Nat → Bool} (h : firstM n bad = none) : ∀ i, i < n → bad i = false := by
  intro i hi
  unfold firstM at h
  rw [List.find?_eq_none] at h
  have := h i (List.mem_range.2 hi)
  simpa using this
/-- The number that the check tells. -/
def atI : Option Nat → Int
  | none => -1
  | some i => (i : Nat)
/-! ### What the tasks are -/
def nameAt (p : PM) (i : Nat) : List UInt8 := ((p.tasks[i]?).map (·.name)).getD []
def numAt (p : PM) (i : Nat) : Int := ((p.tasks[i]?).map (·.num)).getD 0
def exprsAt (p : PM) (i : Nat) : List (List UInt8) := ((p.tasks[i]?).map (·.exprs)).getD []
def needsT : List (List Int) := [[0, 0, 0, 0, 0, 0, 0], [0, 0, 1, 1, 0, 3, 0], [1, 1, 1, 1, 0, 0, 2], [1, 1, 1, 1, 0, 0, 1], [1, 1, 1, 1, 0, 0, 2], [1, 4, 1, 1, 0, 0, 0], [1, 1, 1, 4, 0, 0, 1], [1, 1, 1, 4, 0, 0, 0], [2, 2, 1, 1, 0, 0, 0], [1, 1, 1, 1, 1, 6, 0], [1, 1, 1, 1, 0, 0, 0], [2, 2, 1, 1, 0, 0, 0], [1, 1, 2, 2, 0, 9, 1], [1, 1, 0, 0, 0, 0, 0]]
def needOf (k : Int) (j : Nat) : Int := (needsT.getD k.toNat []).getD j 0
theorem kind_cases {k : Int} (h0 : 1 ≤ k) (h1 : k ≤ 13) : k = 1 ∨ k = 2 ∨ k = 3 ∨ k = 4 ∨ k = 5 ∨ k = 6 ∨ k = 7 ∨ k = 8 ∨ k = 9 ∨ k = 10 ∨ k = 11 ∨ k = 12 ∨ k = 13 := by omega
theorem need_ports {k : Int} (h0 : 1 ≤ k) (h1 : k ≤ 13) : portsOf k = (needOf k 0, needOf k 1, needOf k 2, needOf k 3) := by
  rcases kind_cases h0 h1 with rfl | rfl | rfl | rfl | rfl | rfl | rfl | rfl | rfl | rfl | rfl | rfl | rfl <;> decide
/-! ### The checks -/
def lowB (c : UInt8) : Bool := decide (97 ≤ c.toNat) && decide (c.toNat ≤ 122)
def digB (c : UInt8) : Bool := decide (48 ≤ c.toNat) && decide (c.toNat ≤ 57)
def plainAt (s : List UInt8) (i : Nat) : Bool := match s[i]? with
  | some c => lowB c || (decide (0 < i) && digB c)
  | none => true
def plainB (s : List UInt8) : Bool := decide (s ≠ []) && decide (s.length ≤ 8) && (List.range s.length).all (plainAt s)
def nameBad (p : PM) (i : Nat) : Bool := !plainB (nameAt p i) || (List.range i).any fun j => nameAt p j == nameAt p i
def knownB (k : Int) : Bool := decide (1 ≤ k) && decide (k ≤ 13)
def kindBad (p : PM) (i : Nat) : Bool := !knownB (kindAt p i) || decide (numAt p i < needOf (kindAt p i) 4) || decide (numAt p i > needOf (kindAt p i) 5)
def checkB (s : List UInt8) : Bool := match E.parseE s with
  | .ok _ => true
  | .error _ => false
def exprBad (p : PM) (i : Nat) : Bool := decide (((exprsAt p i).length : Int) ≠ needOf (kindAt p i) 6) || (exprsAt p i).any fun x => !checkB x
def edgeBad (p : PM) (i : Nat) : Bool := match p.edges[i]? with
  | some e => decide (e.frm < 0) || decide (e.frm ≥ p.tasks.length) || decide (e.to < 0) || decide (e.to ≥ p.tasks.length) || decide (e.out < 0) || decide (e.out ≥ 4) || decide (e.inn < 0) || decide (e.inn ≥ 4)
  | none => false
def linkedB (l : List Int) (low high : Int) : Bool := decide (low ≤ l.length) && decide ((l.length : Int) ≤ high) && l.all (fun x => decide (x < l.length)) && decide l.Nodup
def portBad (p : PM) (i : Nat) : Bool := !linkedB (insP p i) (needOf (kindAt p i) 0) (needOf (kindAt p i) 1) || !linkedB (outsP p i) (needOf (kindAt p i) 2) (needOf (kindAt p i) 3)
def pairBad (p : PM) (i : Nat) : Bool := match p.edges[i]? with
  | some e => loopsM p e != decide (kindAt p e.frm.toNat = 12 ∧ e.out = 0)
  | none => false
/-- What a spread gives, pair by pair: the task, how far. -/
def roundM (G : Gr) (n t d : Nat) : List (Nat × Nat) := ((List.range n).filter fun x => (farAt G n t d)[x]? == some (d : Int)).map fun x => (x, d)
def spreadM (G : Gr) (n t : Nat) : List (Nat × Nat) := (List.range n).flatMap (roundM G n t)
def cycBad (p : PM) (t : Nat) : Bool := (spreadM (grOf p false) p.tasks.length t).any fun y => (grOf p false).contains (y.1, t)
def sizeBad (p : PM) : Bool := decide (p.tasks.length < 1) || decide (p.tasks.length > 12) || decide (p.edges.length > 24) || decide (p.cap < 1) || decide (p.cap > 8)
def checkList (p : PM) : List (Nat × Option Nat) :=
  [(71, firstM p.tasks.length (nameBad p)), (72, firstM p.tasks.length (kindBad p)), (73, firstM p.tasks.length (exprBad p)), (74, firstM p.edges.length (edgeBad p)),
   (75, firstM p.tasks.length (portBad p)), (76, firstM p.edges.length (pairBad p)), (77, firstM p.tasks.length (cycBad p))]
/-- The place and the number of the first fault. -/
def faultM (p : PM) : Option (Nat × Nat) := if sizeBad p then some (0, 70) else (checkList p).findSome? fun c => c.2.map fun i => (i, c.1)
/-! ### The shape -/
structure SM where
  ins : List (List Nat)
  outs : List (List Nat)
  back : List Bool
  order : List Nat
  sources : List Nat
  sinks : List Nat
  mate : List Int
  depth : List Int
def inAt (p : PM) (t j : Nat) : Nat := (p.edges.findIdx? fun e => decide (e.to = ((t : Nat) : Int)) && decide (e.inn = ((j : Nat) : Int))).getD 0
def outAt (p : PM) (t j : Nat) : Nat := (p.edges.findIdx? fun e => decide (e.frm = ((t : Nat) : Int)) && decide (e.out = ((j : Nat) : Int))).getD 0
def insM (p : PM) (t : Nat) : List Nat := (List.range (insP p t).length).map (inAt p t)
def outsM (p : PM) (t : Nat) : List Nat := (List.range (outsP p t).length).map (outAt p t)
def kindsAre (p : PM) (k : Int) : List Nat := (List.range p.tasks.length).filter fun i => kindAt p i == k
def mateStep (p : PM) (l : List Int) (e : EM) : List Int := if loopsM p e then (l.set e.to.toNat e.frm).set e.frm.toNat e.to else l
def mateM (p : PM) : List Int := p.edges.foldl (mateStep p) (List.replicate p.tasks.length (-1))
def depthEdge (p : PM) (t : Nat) (l : List Int) (i : Nat) : List Int := match p.edges[i]? with
  | some e => if loopsM p e then l else l.set t (max (l.getD t 0) (l.getD e.frm.toNat 0 + 1))
  | none => l
def depthStep (p : PM) (l : List Int) (t : Nat) : List Int := (insM p t).foldl (depthEdge p t) l
def ordM (p : PM) : List Nat := orderM (grOf p false) p.tasks.length p.tasks.length
def depthM (p : PM) : List Int := (ordM p).foldl (depthStep p) (List.replicate p.tasks.length 0)
def shapeM (p : PM) : SM where
  ins := (List.range p.tasks.length).map (insM p)
  outs := (List.range p.tasks.length).map (outsM p)
  back := p.edges.map (loopsM p)
  order := ordM p
  sources := kindsAre p 1
  sinks := kindsAre p 13
  mate := mateM p
  depth := depthM p
def noShape : SM := ⟨[], [], [], [], [], [], [], []⟩
/-! ### What the checks tell -/
theorem linkedB_iff {l : List Int} {low high : Int} (h : linkedB l low high = true) : Linked l low high := by
  unfold linkedB at h
  simp only [Bool.and_eq_true, decide_eq_true_eq, List.all_eq_true] at h
  exact ⟨h.1.1.1, h.1.1.2, h.1.2, h.2⟩
theorem spread_mem {G : Gr} {n t x d : Nat} (hx : (farAt G n t d)[x]? = some (d : Int)) (hd : d < n) : (x, d) ∈ spreadM G n t := by
  have hl : x < n := by
    have := (List.getElem?_eq_some_iff.1 hx).1
    rwa [farAt_len] at this
  refine List.mem_flatMap.2 ⟨d, List.mem_range.2 hd, List.mem_map.2 ⟨x, List.mem_filter.2 ⟨List.mem_range.2 hl, ?_⟩, rfl⟩⟩
  rw [hx]
  exact beq_self_eq_true _
theorem mem_spread {G : Gr} {n t : Nat} {y : Nat × Nat} (h : y ∈ spreadM G n t) : y.2 < n ∧ y.1 < n ∧ (farAt G n t y.2)[y.1]? = some (y.2 : Int) := by
  obtain ⟨d, hd, hy⟩ := List.mem_flatMap.1 h
  obtain ⟨x, hx, rfl⟩ := List.mem_map.1 hy
  obtain ⟨h1, h2⟩ := List.mem_filter.1 hx
  exact ⟨List.mem_range.1 hd, List.mem_range.1 h1, by simpa using h2⟩
theorem faultM_parts {p : PM} (h : faultM p = none) : sizeBad p = false ∧ firstM p.tasks.length (nameBad p) = none ∧ firstM p.tasks.length (kindBad p) = none ∧ firstM p.tasks.length (exprBad p) = none ∧ firstM p.edges.length (edgeBad p) = none ∧
    firstM p.tasks.length (portBad p) = none ∧ firstM p.edges.length (pairBad p) = none ∧ firstM p.tasks.length (cycBad p) = none := by
  unfold faultM at h
  split at h
  · cases h
  · rename_i hs
    rw [List.findSome?_eq_none_iff] at h
    have key : ∀ c ∈ checkList p, c.2 = none := fun c hc => by simpa using h c hc
    unfold checkList at key
    simp only [List.mem_cons, List.not_mem_nil, or_false, forall_eq_or_imp, forall_eq] at key
    exact ⟨by simpa using hs, key⟩
theorem edge_ok {p : PM} (h : firstM p.edges.length (edgeBad p) = none) : ∀ e ∈ p.edges, (0 ≤ e.frm ∧ e.frm < p.tasks.length) ∧ (0 ≤ e.to ∧ e.to < p.tasks.length) ∧ (0 ≤ e.out ∧ e.out < 4) ∧ 0 ≤ e.inn ∧ e.inn < 4 := by
  intro e he
  obtain ⟨i, hi, rfl⟩ := List.getElem_of_mem he
  have := firstM_all h i hi
  unfold edgeBad at this
  rw [List.getElem?_eq_getElem hi] at this
  simp only [Bool.or_eq_false_iff, decide_eq_false_iff_not] at this
  omega
theorem kind_ok {p : PM} (h : firstM p.tasks.length (kindBad p) = none) : ∀ t ∈ p.tasks, 1 ≤ t.kind ∧ t.kind ≤ 13 := by
  intro t ht
  obtain ⟨i, hi, rfl⟩ := List.getElem_of_mem ht
  have := firstM_all h i hi
  unfold kindBad kindAt knownB at this
  rw [List.getElem?_eq_getElem hi] at this
  simp only [Bool.or_eq_false_iff, Bool.not_eq_false', Bool.and_eq_true, decide_eq_true_eq, Option.map_some, Option.getD_some] at this
  exact this.1.1
theorem port_ok {p : PM} (hk : ∀ t ∈ p.tasks, 1 ≤ t.kind ∧ t.kind ≤ 13) (h : firstM p.tasks.length (portBad p) = none) (t : Nat) (ht : t < p.tasks.length) :
    Linked (insP p t) (portsOf (kindAt p t)).1 (portsOf (kindAt p t)).2.1 ∧ Linked (outsP p t) (portsOf (kindAt p t)).2.2.1 (portsOf (kindAt p t)).2.2.2 := by
  have := firstM_all h t ht
  unfold portBad at this
  simp only [Bool.or_eq_false_iff, Bool.not_eq_false'] at this
  have hkt : 1 ≤ kindAt p t ∧ kindAt p t ≤ 13 := by
    unfold kindAt
    rw [List.getElem?_eq_getElem ht]
    exact hk _ (List.getElem_mem ht)
  rw [need_ports hkt.1 hkt.2]
  exact ⟨linkedB_iff this.1, linkedB_iff this.2⟩
theorem good_of {p : PM} (h : faultM p = none) : Good p := by
  obtain ⟨-, -, h2, -, h4, h5, h6, h7⟩ := faultM_parts h
  have hk := kind_ok h2
  refine ⟨hk, edge_ok h4, port_ok hk h5, fun e he => ?_, ?_⟩
  · obtain ⟨i, hi, rfl⟩ := List.getElem_of_mem he
    have := firstM_all h6 i hi
    unfold pairBad at this
    rw [List.getElem?_eq_getElem hi] at this
    simpa using this
  · intro t ht d hd x hx hmem
    have := firstM_all h7 t ht
    unfold cycBad at this
    rw [List.any_eq_false] at this
    exact this _ (spread_mem hx hd) (by simpa using hmem)
end Go.Proofs.YtkebljkdkaagfaaGreatDoor.S
