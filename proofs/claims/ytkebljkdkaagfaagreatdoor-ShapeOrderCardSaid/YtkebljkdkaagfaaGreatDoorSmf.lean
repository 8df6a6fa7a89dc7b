/- Plain law (no program in sight): the ports' rows, edge by edge; the mates, task by task. -/
import Derived.Test.YtkebljkdkaagfaaGreatDoorSme
namespace Go.Proofs.YtkebljkdkaagfaaGreatDoor.S
open Go
set_option maxRecDepth 100000
/-- A row of ports when i edges have been laid. -/
def portRow (l : List EM) (q : EM → Bool) (g : EM → Int) (len i : Nat) : List Int := (List.range len).map fun j => ((portAt (l.take i) q g j : Nat) : Int)
theorem portRow_zero (l : List EM) (q : EM → Bool) (g : EM → Int) (len : Nat) : portRow l q g len 0 = List.replicate len 0 := by
  unfold portRow
  rw [List.take_zero]
  apply List.ext_getElem?
  intro k
  rw [List.getElem?_map, List.getElem?_replicate]
  by_cases hk : k < len
  · rw [List.getElem?_range hk, if_pos hk]
    simp [portAt]
  · rw [List.getElem?_eq_none (by simpa using hk), if_neg hk]
    rfl
theorem portRow_len (l : List EM) (q : EM → Bool) (g : EM → Int) (len i : Nat) : (portRow l q g len i).length = len := by unfold portRow; simp
theorem portAt_step {l : List EM} {q : EM → Bool} {g : EM → Int} {i j : Nat} {e : EM} (h : l[i]? = some e) (hno : (q e && decide (g e = ((j : Nat) : Int))) = false) : portAt (l.take (i + 1)) q g j = portAt (l.take i) q g j := by
  unfold portAt
  rw [List.take_add_one, h, Option.toList_some, List.findIdx?_append]
  cases hf : (l.take i).findIdx? (fun e => q e && decide (g e = ((j : Nat) : Int))) with
  | some k => rfl
  | none => simp [hno]
theorem portRow_same {l : List EM} {q : EM → Bool} {g : EM → Int} {len i : Nat} {e : EM} (h : l[i]? = some e) (hq : q e = false) : portRow l q g len (i + 1) = portRow l q g len i := by
  unfold portRow
  refine List.map_congr_left fun j _ => ?_
  rw [portAt_step h (by rw [hq, Bool.false_and])]
theorem portRow_set {l : List EM} {q : EM → Bool} {g : EM → Int} {lo hi : Int} {i : Nat} {e : EM} (hL : Linked ((l.filter q).map g) lo hi) (h : l[i]? = some e) (hq : q e = true) (h0 : 0 ≤ g e) :
    portRow l q g ((l.filter q).map g).length (i + 1) = (portRow l q g ((l.filter q).map g).length i).set (g e).toNat ((i : Nat) : Int) := by
  have hlt := (port_is hL h hq h0).1
  generalize hlen : ((l.filter q).map g).length = len at *
  apply List.ext_getElem?
  intro k
  by_cases hk : k < len
  · have e1 : (portRow l q g len (i + 1))[k]? = some ((portAt (l.take (i + 1)) q g k : Nat) : Int) := by unfold portRow; rw [List.getElem?_map, List.getElem?_range hk]; rfl
    have e2 : (portRow l q g len i)[k]? = some ((portAt (l.take i) q g k : Nat) : Int) := by unfold portRow; rw [List.getElem?_map, List.getElem?_range hk]; rfl
    rw [e1]
    by_cases hg : (g e).toNat = k
    · subst hg
      rw [List.getElem?_set_self (by rw [portRow_len]; exact hk)]
      congr 2
      unfold portAt
      rw [List.take_add_one, h, Option.toList_some, List.findIdx?_append]
      have hil := (List.getElem?_eq_some_iff.1 h).1
      cases hf : (l.take i).findIdx? (fun e' => q e' && decide (g e' = (((g e).toNat : Nat) : Int))) with
      | some k =>
        exfalso
        obtain ⟨hk2, hp, -⟩ := List.findIdx?_eq_some_iff_getElem.1 hf
        rw [Bool.and_eq_true, decide_eq_true_eq, List.getElem_take] at hp
        have hk3 : k < i := by rw [List.length_take] at hk2; omega
        have := port_uniq hL.nodup (List.getElem?_eq_getElem (show k < l.length by omega)) h hp.1 hq (by omega)
        omega
      | none =>
        have : decide (g e = (((g e).toNat : Nat) : Int)) = true := decide_eq_true (by omega)
        have h1 : List.findIdx? (fun e' => q e' && decide (g e' = (((g e).toNat : Nat) : Int))) [e] = some 0 := by
          rw [List.findIdx?_cons, hq, this]
          rfl
        rw [h1, List.length_take, Nat.min_eq_left (by omega)]
        simp
    · rw [List.getElem?_set_ne hg, e2, portAt_step h (by rw [decide_eq_false (by omega), Bool.and_false])]
  · rw [List.getElem?_eq_none (by rw [portRow_len]; omega), List.getElem?_eq_none (by rw [List.length_set, portRow_len]; omega)]
theorem portRow_all (l : List EM) (q : EM → Bool) (g : EM → Int) (len : Nat) : portRow l q g len l.length = ((List.range len).map (portAt l q g)).map Int.ofNat := by
  unfold portRow
  rw [List.take_length, List.map_map]
  rfl
/-- How many places have been laid. -/
def cntQ (p : PM) (q : EM → Bool) (i : Nat) : Nat := ((p.edges.take i).filter q).length
theorem cntQ_step {p : PM} {q : EM → Bool} {i : Nat} {e : EM} (h : p.edges[i]? = some e) : cntQ p q (i + 1) = cntQ p q i + (if q e then 1 else 0) := by
  unfold cntQ
  rw [List.take_add_one, h, Option.toList_some, List.filter_append, List.length_append]
  cases hq : q e <;> simp [List.filter, hq]
theorem cntQ_all (p : PM) (q : EM → Bool) : cntQ p q p.edges.length = (p.edges.filter q).length := by unfold cntQ; rw [List.take_length]
theorem cntQ_le (p : PM) (q : EM → Bool) (i : Nat) : cntQ p q i ≤ i := by
  unfold cntQ
  refine Nat.le_trans (List.length_filter_le _ _) ?_
  rw [List.length_take]
  omega
/-! ### Mates -/
theorem mate_len (p : PM) : ∀ (es : List EM) (l : List Int), (es.foldl (mateStep p) l).length = l.length
  | [], l => rfl
  | e :: es, l => by
    rw [List.foldl_cons, mate_len p es]
    unfold mateStep
    split <;> simp
end Go.Proofs.YtkebljkdkaagfaaGreatDoor.S
