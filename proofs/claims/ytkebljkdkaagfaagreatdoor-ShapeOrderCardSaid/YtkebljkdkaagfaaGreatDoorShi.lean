/- lay's first region: five rows and the shape itself are made, in whatever order. -/
import Derived.Test.YtkebljkdkaagfaaGreatDoorShh
namespace Go.Proofs.YtkebljkdkaagfaaGreatDoor.S
open Go Tr
set_option maxRecDepth 100000
set_option maxHeartbeats 4000000
/-! ### A region that draws its order: what holds whichever operations have been done -/
section
variable {P : Program} {ops : Array Oper} {Q : Exit → Act → World → Prop} {md : Region.Mode}
def unl (l : Array Bool) : Nat := (l.toList.filter (! ·)).length
theorem unl_list : ∀ (L : List Bool) (i : Nat), L[i]? = some false → ((L.set i true).filter (! ·)).length + 1 = (L.filter (! ·)).length
  | [], i, h => by simp at h
  | x :: L, 0, h => by
    obtain rfl : x = false := by simpa using h
    simp
  | x :: L, i + 1, h => by
    have := unl_list L i (by simpa using h)
    rw [List.set_cons_succ]
    cases x <;> simp <;> omega
theorem unl_set {l : Array Bool} {i : Nat} (h : l.getD i true = false) : unl (l.setIfInBounds i true) + 1 = unl l := by
  unfold unl
  rw [Array.toList_setIfInBounds]
  refine unl_list _ _ ?_
  rw [Array.getD_eq_getD_getElem?] at h
  rw [Array.getElem?_toList]
  cases hx : l[i]? with
  | none => rw [hx] at h; cases h
  | some b => rw [hx] at h; simp only [Option.getD_some] at h; rw [h]
theorem ready_nil {l : Array Bool} (h : unl l = 0) : Region.ready md ops l = [] := by
  cases hr : Region.ready md ops l with
  | nil => rfl
  | cons j r =>
    have hj : j ∈ Region.ready md ops l := by rw [hr]; exact .head _
    have := unl_set (mem_ready.1 hj).1
    omega
theorem wpAny_inv (I : Array Bool → Act → World → Prop) (step : ∀ l a w i, I l a w → i ∈ Region.ready md ops l → wpOp P ops Q i (fun a' w' => I (l.setIfInBounds i true) a' w') a w)
    (done : ∀ l a w, I l a w → Region.ready md ops l = [] → Q .normal a w) : ∀ (fuel : Nat) (l : Array Bool) (a : Act) (w : World), unl l ≤ fuel → I l a w → wpAny P md ops Q fuel l a w
  | 0, l, a, w, hu, hI => ⟨ready_nil (by omega), done l a w hI (ready_nil (by omega))⟩
  | fuel + 1, l, a, w, hu, hI => ⟨fun hr => done l a w hI hr, fun i hi => wpOp_mono (fun a' w' h' => wpAny_inv I step done fuel _ a' w' (by have := unl_set (mem_ready.1 hi).1; omega) h') (step l a w i hI hi)⟩
theorem wpOp_value {i : Nat} {o : Oper} {v : Value} {a : Act} {w w' : World} {K : Act → World → Prop} (hi : ops[i]? = some o) (hg : o.guard = none) (hr : (execOp a.eval o).run P w = .ok (.value v) w') (hK : K (a.put o.dst v) w') : wpOp P ops Q i K a w := by
  unfold wpOp
  simp only [hi]
  rw [if_pos (by simp [Region.wanted, hg])]
  left
  unfold Oper.wp
  rw [hr]
  exact hK
theorem wpOp_skip {i : Nat} {o : Oper} {a : Act} {w w' : World} {K : Act → World → Prop} (hi : ops[i]? = some o) (hg : o.guard = none) (hr : (execOp a.eval o).run P w = .ok .skip w') (hK : K (a.put o.dst undef) w') : wpOp P ops Q i K a w := by
  unfold wpOp
  simp only [hi]
  rw [if_pos (by simp [Region.wanted, hg])]
  left
  unfold Oper.wp
  rw [hr]
  exact hK
/-- One instruction, by its tree. -/
def oneT (P : Program) (m : Sem Next) (s : Script) : T := ofSem P m s (fun _ n => match n with | .value v => .fin .normal [(0, v)] | .skip => .fin .ret [] | _ => .stuck) (fun _ _ => .stuck)
theorem run_one {m : Sem Next} {s : Script} {w : World} {φ : Value → World → Prop} (h : wpT P (fun _ _ => False) (fun e L w' => e = .normal ∧ ∃ v, L = [(0, v)] ∧ φ v w') (oneT P m s) .pl w) : ∃ v w', m.run P w = .ok (.value v) w' ∧ φ v w' := by
  rcases ofSem_sound (md := .pl) m s _ _ w h with ⟨n, s', w', hr, h⟩ | ⟨v, s', w', hr, h⟩
  · cases n with
    | value v =>
      obtain ⟨-, u, hu, h⟩ := h
      simp only [List.cons.injEq, Prod.mk.injEq, true_and, and_true] at hu
      subst hu
      exact ⟨v, w', hr, h⟩
    | skip => exact absurd h.1 (by simp)
    | _ => exact h.elim
  · exact h.elim
theorem run_oneS {m : Sem Next} {s : Script} {w : World} {φ : World → Prop} (h : wpT P (fun _ _ => False) (fun e _ w' => e = .ret ∧ φ w') (oneT P m s) .pl w) : ∃ w', m.run P w = .ok .skip w' ∧ φ w' := by
  rcases ofSem_sound (md := .pl) m s _ _ w h with ⟨n, s', w', hr, h⟩ | ⟨v, s', w', hr, h⟩
  · cases n with
    | value v => exact absurd h.1 (by simp)
    | skip => exact ⟨w', hr, h.2⟩
    | _ => exact h.elim
  · exact h.elim
end
/-! ### The region -/
def regOps : Code → Array Oper
  | .region _ ops _ => ops
  | _ => #[]
theorem lay_reg : at_ Tryz.f24 [1, 1, 0] = .region 2 (regOps (at_ Tryz.f24 [1, 1, 0])) true := by kernel_rfl
theorem lay_ops : ((regOps (at_ Tryz.f24 [1, 1, 0])).toList.map fun o => (o.dst, o.op, o.guard)) =
    [(some 13, .move (.tmp 3), none), (some 14, .makeSlice 27 (.tmp 13) (.tmp 13), none), (some 15, .move (.tmp 3), none), (some 16, .makeSlice 27 (.tmp 15) (.tmp 15), none),
     (some 17, .fieldAddr tPlan (.tmp 1) 2, none), (some 18, .load 23 (.tmp 17), none), (some 19, .call { callee := .builtin .len, args := #[.tmp 18], argTypes := #[23] }, none), (some 20, .makeSlice tBools (.tmp 19) (.tmp 19), none),
     (some 21, .move (.tmp 3), none), (some 22, .makeSlice tInts (.tmp 21) (.tmp 21), none), (some 23, .move (.tmp 3), none), (some 24, .makeSlice tInts (.tmp 23) (.tmp 23), none),
     (some 25, .build tShape #[(0, .tmp 14), (1, .tmp 16), (2, .tmp 20), (6, .tmp 22), (7, .tmp 24)], none), (some 4, .alloc tShape, none), (none, .store tShape (.tmp 4) (.tmp 25), none)] := by kernel_rfl
theorem lay_deps : ((regOps (at_ Tryz.f24 [1, 1, 0])).toList.map fun o => (o.after.toList.filter (Region.binds .any)).map (·.on)) =
    [[], [0, 0], [], [2, 2], [], [4], [5], [6, 6], [], [8, 8], [], [10, 10], [1, 3, 7, 9, 11], [], [13, 12, 0, 1, 2, 3, 4, 5, 6, 7, 8, 9, 10, 11, 12, 13]] := by kernel_rfl
/-- What is made by operation i: its slot, its value and its block's cells, n and m the lengths. -/
def mkSlot : Nat → Nat
  | 1 => 14 | 3 => 16 | 7 => 20 | 9 => 22 | 11 => 24 | _ => 4
def mkLen (n m : Nat) : Nat → Nat
  | 7 => m | _ => n
def mkVal (n m i b : Nat) : Value := if i = 13 then .pointer (some ⟨b, 0, none⟩) else .slice (some ⟨b, 0, none⟩) (mkLen n m i) (mkLen n m i)
abbrev nilS : Value := .slice none 0 0
def mkCells (n m : Nat) : Nat → List Value
  | 1 => List.replicate n nilS | 3 => List.replicate n nilS | 7 => List.replicate m (.bool false) | 9 => List.replicate n (intC 0) | 11 => List.replicate n (intC 0) | _ => List.replicate 8 nilS
def mkTy : Nat → TypeId
  | 1 => tInts | 3 => tInts | 7 => tBool | 9 => tInt | 11 => tInt | _ => tShape
def mkI : List Nat := [1, 3, 7, 9, 11, 13]
abbrev shC (n m b1 b3 b7 b9 b11 : Nat) (q s t : Value) : List Value := [.slice (some ⟨b1, 0, none⟩) n n, .slice (some ⟨b3, 0, none⟩) n n, .slice (some ⟨b7, 0, none⟩) m m, q, s, t, .slice (some ⟨b9, 0, none⟩) n n, .slice (some ⟨b11, 0, none⟩) n n]
/-- The slots that the region writes by a value known ahead. -/
def pureL (n m n1 : Nat) (ep : Option Addr) (ec : Nat) : List (Nat × Nat × Value) :=
  [(0, 13, intC n), (2, 15, intC n), (4, 17, .pointer (some ⟨n1, 2, none⟩)), (5, 18, .slice ep m ec), (6, 19, intC m), (8, 21, intC n), (10, 23, intC n)]
abbrev regW : List Nat := [13, 14, 15, 16, 17, 18, 19, 20, 21, 22, 23, 24, 25, 4]
def did (l : Array Bool) (i : Nat) : Prop := l.getD i false = true
structure RI (n m n1 : Nat) (ep : Option Addr) (ec : Nat) (a0 : Act) (w0 : World) (f : Nat → Nat) (l : Array Bool) (a : Act) (w : World) : Prop where
  sz : l.size = 15
  asz : a.tmps.size = a0.tmps.size
  df : a.defers = []
  keep : ∀ t, t ∉ regW → a.tmps[t]? = a0.tmps[t]?
  ch : Ch No w0 w
  pure_ : ∀ x ∈ pureL n m n1 ep ec, did l x.1 → a.tmps[x.2.1]? = some x.2.2
  made : ∀ i ∈ mkI, did l i → a.tmps[mkSlot i]? = some (mkVal n m i (f i)) ∧ w0.heap.size ≤ f i ∧ (¬ did l 14 ∨ i ≠ 13 → Blk w (f i) (mkCells n m i) (mkTy i))
  apart : ∀ i ∈ mkI, ∀ j ∈ mkI, i ≠ j → did l i → did l j → f i ≠ f j
  built : did l 12 → a.tmps[25]? = some (.agg (shC n m (f 1) (f 3) (f 7) (f 9) (f 11) nilS nilS nilS).toArray) ∧ did l 1 ∧ did l 3 ∧ did l 7 ∧ did l 9 ∧ did l 11
  stored : did l 14 → Blk w (f 13) (shC n m (f 1) (f 3) (f 7) (f 9) (f 11) nilS nilS nilS) tShape ∧ ∀ i, i < 15 → did l i
theorem did_set {l : Array Bool} {i j : Nat} (h : did (l.setIfInBounds i true) j) (hi : i < l.size) : j = i ∨ did l j := by
  by_cases e : j = i
  · exact .inl e
  · right
    unfold did at *
    rw [Array.getD_eq_getD_getElem?, Array.getElem?_setIfInBounds_ne (fun h => e h.symm)] at h
    rw [Array.getD_eq_getD_getElem?]
    exact h
theorem did_same {l : Array Bool} {i : Nat} (hi : i < l.size) : did (l.setIfInBounds i true) i := by
  unfold did
  rw [Array.getD_eq_getD_getElem?, Array.getElem?_setIfInBounds_self_of_lt hi]
  rfl
theorem did_keep {l : Array Bool} {i j : Nat} (h : did l j) : did (l.setIfInBounds i true) j := by
  by_cases e : j = i
  · subst e
    have hl : j < l.size := Classical.byContradiction fun hh => by
      unfold did at h
      rw [Array.getD_eq_getD_getElem?, Array.getElem?_eq_none (by omega)] at h
      cases h
    exact did_same hl
  · unfold did at *
    rw [Array.getD_eq_getD_getElem?, Array.getElem?_setIfInBounds_ne (fun h => e h.symm)]
    rwa [Array.getD_eq_getD_getElem?] at h
theorem undone {l : Array Bool} {i : Nat} (h : l.getD i true = false) : ¬ did l i := fun hd => by
  unfold did at hd
  rw [Array.getD_eq_getD_getElem?] at h hd
  cases hx : l[i]? with
  | none => rw [hx] at h; cases h
  | some b => rw [hx] at h hd; simp only [Option.getD_some] at h hd; rw [h] at hd; cases hd
theorem put_at {a : Act} {d t : Nat} (v : Value) (h : d ≠ t) : (a.put (some d) v).tmps[t]? = a.tmps[t]? := by
  simp [Act.put, h]
theorem put_self {a : Act} {d : Nat} (v : Value) (h : d < a.tmps.size) : (a.put (some d) v).tmps[d]? = some v := by
  simp [Act.put, h]
theorem eval_at {a : Act} {t : Nat} {v : Value} (h : a.tmps[t]? = some v) : a.eval (.tmp t) = v := by
  show a.tmps.getD t undef = v
  rw [Array.getD_eq_getD_getElem?, h]
  rfl
section
variable {n m n1 : Nat} {ep : Option Addr} {ec : Nat} {a0 : Act} {w0 w : World} {f : Nat → Nat} {l : Array Bool} {a : Act}
theorem RI.slot_lt (h : RI n m n1 ep ec a0 w0 f l a w) (hz : a0.tmps.size = 149) {d : Nat} (hd : d < 26) : d < a.tmps.size := by rw [h.asz, hz]; omega
/-- An operation whose value is known ahead. -/
theorem RI.pureStep (h : RI n m n1 ep ec a0 w0 f l a w) (hz : a0.tmps.size = 149) {i d : Nat} {v : Value} (hi : i < 15) (hu : ¬ did l i) (hd : d < 26) (hW : d ∈ regW) (hm : (i, d, v) ∈ pureL n m n1 ep ec) (hx : ∀ x ∈ pureL n m n1 ep ec, x.1 ≠ i → x.2.1 ≠ d) (hx2 : ∀ x ∈ pureL n m n1 ep ec, x.1 = i → x = (i, d, v))
    (hk : ∀ j ∈ mkI, mkSlot j ≠ d) (h25 : d ≠ 25) (hi1 : i ∉ mkI) (hi2 : i ≠ 12) (hi3 : i ≠ 14) : RI n m n1 ep ec a0 w0 f (l.setIfInBounds i true) (a.put (some d) v) w := by
  have hl : i < l.size := by rw [h.sz]; exact hi
  refine ⟨by simp [h.sz], by simp [Act.put, h.asz], h.df, fun t ht => ?_, h.ch, fun x hxm hdx => ?_, fun j hj hdj => ?_, fun j hj k hk2 hjk hdj hdk => ?_, fun h12 => ?_, fun h14 => ?_⟩
  · rw [put_at v (show d ≠ t from fun e => ht (e ▸ hW))]
    exact h.keep t ht
  · rcases did_set hdx hl with e | e
    · have e2 := hx2 x hxm e
      subst e2
      exact put_self v (h.slot_lt hz hd)
    · by_cases e3 : x.1 = i
      · exact absurd (e3 ▸ e) hu
      · rw [put_at v (fun e => hx x hxm e3 e.symm)]
        exact h.pure_ x hxm e
  · have hdj := (did_set hdj hl).resolve_left (fun e => hi1 (e ▸ hj))
    obtain ⟨h1, h2, h3⟩ := h.made j hj hdj
    exact ⟨by rw [put_at v (fun e => hk j hj e.symm)]; exact h1, h2, fun hh => h3 (hh.imp (fun g g2 => g (did_keep g2)) id)⟩
  · exact h.apart j hj k hk2 hjk ((did_set hdj hl).resolve_left (fun e => hi1 (e ▸ hj))) ((did_set hdk hl).resolve_left (fun e => hi1 (e ▸ hk2)))
  · obtain ⟨h1, h2, h3, h4, h5, h6⟩ := h.built ((did_set h12 hl).resolve_left (fun e => hi2 e.symm))
    exact ⟨by rw [put_at v h25]; exact h1, did_keep h2, did_keep h3, did_keep h4, did_keep h5, did_keep h6⟩
  · exact absurd ((h.stored ((did_set h14 hl).resolve_left (fun e => hi3 e.symm))).2 i hi) hu
/-- A row, or the shape, is made. -/
theorem RI.mkStep (h : RI n m n1 ep ec a0 w0 f l a w) (hz : a0.tmps.size = 149) {i : Nat} (hm : i ∈ mkI) (hu : ¬ did l i) {w' : World} (hc : Ch No w w') (hb : Blk w' w.heap.size (mkCells n m i) (mkTy i)) :
    RI n m n1 ep ec a0 w0 (fun k => if k = i then w.heap.size else f k) (l.setIfInBounds i true) (a.put (some (mkSlot i)) (mkVal n m i w.heap.size)) w' := by
  have hi : i < 15 := by
    have : ∀ j ∈ mkI, j < 15 := by decide
    exact this i hm
  have hl : i < l.size := by rw [h.sz]; exact hi
  have hd : mkSlot i < 26 := by
    have : ∀ j ∈ mkI, mkSlot j < 26 := by decide
    exact this i hm
  have hW : mkSlot i ∈ regW := by
    have : ∀ j ∈ mkI, mkSlot j ∈ regW := by decide
    exact this i hm
  have hinj : ∀ j ∈ mkI, j ≠ i → mkSlot j ≠ mkSlot i := by
    have : ∀ j ∈ mkI, ∀ i ∈ mkI, j ≠ i → mkSlot j ≠ mkSlot i := by decide
    exact fun j hj => this j hj i hm
  have hpu : ∀ x ∈ pureL n m n1 ep ec, x.2.1 ≠ mkSlot i ∧ x.1 ≠ i := by
    have : ∀ i ∈ mkI, 13 ≠ mkSlot i ∧ 15 ≠ mkSlot i ∧ 17 ≠ mkSlot i ∧ 18 ≠ mkSlot i ∧ 19 ≠ mkSlot i ∧ 21 ≠ mkSlot i ∧ 23 ≠ mkSlot i ∧ 0 ≠ i ∧ 2 ≠ i ∧ 4 ≠ i ∧ 5 ≠ i ∧ 6 ≠ i ∧ 8 ≠ i ∧ 10 ≠ i := by decide
    obtain ⟨g1, g2, g3, g4, g5, g6, g7, g8, g9, g10, g11, g12, g13, g14⟩ := this i hm
    intro x hx
    simp only [pureL, List.mem_cons, List.not_mem_nil, or_false] at hx
    rcases hx with rfl | rfl | rfl | rfl | rfl | rfl | rfl <;> exact ⟨by assumption, by assumption⟩
  have h25 : mkSlot i ≠ 25 := by
    have : ∀ j ∈ mkI, mkSlot j ≠ 25 := by decide
    exact this i hm
  have hne : i ≠ 12 ∧ i ≠ 14 := by
    have : ∀ j ∈ mkI, j ≠ 12 ∧ j ≠ 14 := by decide
    exact this i hm
  have h14n : ¬ did l 14 := fun h14 => hu ((h.stored h14).2 i hi)
  have hwb := h.ch.size
  refine ⟨by simp [h.sz], by simp [Act.put, h.asz], h.df, fun t ht => ?_, h.ch.trans hc, fun x hxm hdx => ?_, fun j hj hdj => ?_, fun j hj k hk2 hjk hdj hdk => ?_, fun h12 => ?_, fun h14 => ?_⟩
  · rw [put_at _ (show mkSlot i ≠ t from fun e => ht (e ▸ hW))]
    exact h.keep t ht
  · obtain ⟨g1, g2⟩ := hpu x hxm
    rw [put_at _ (fun e => g1 e.symm)]
    exact h.pure_ x hxm ((did_set hdx hl).resolve_left g2)
  · by_cases e : j = i
    · subst e
      simp only [if_true]
      exact ⟨put_self _ (h.slot_lt hz hd), hwb, fun _ => hb⟩
    · simp only [if_neg e]
      obtain ⟨h1, h2, h3⟩ := h.made j hj ((did_set hdj hl).resolve_left e)
      exact ⟨by rw [put_at _ (fun e2 => hinj j hj e e2.symm)]; exact h1, h2, fun hh => (h3 (.inl h14n)).ch hc (fun h => h)⟩
  · have old : ∀ j ∈ mkI, j ≠ i → did (l.setIfInBounds i true) j → f j < w.heap.size := fun j hj e hdj => ((h.made j hj ((did_set hdj hl).resolve_left e)).2.2 (.inl h14n)).lt
    show (if j = i then w.heap.size else f j) ≠ (if k = i then w.heap.size else f k)
    by_cases e : j = i
    · subst e
      rw [if_pos rfl, if_neg (fun e => hjk e.symm)]
      have := old k hk2 (fun e => hjk e.symm) hdk
      omega
    · rw [if_neg e]
      by_cases e2 : k = i
      · subst e2
        rw [if_pos rfl]
        have := old j hj e hdj
        omega
      · rw [if_neg e2]
        exact h.apart j hj k hk2 hjk ((did_set hdj hl).resolve_left e) ((did_set hdk hl).resolve_left e2)
  · obtain ⟨h1, h2, h3, h4, h5, h6⟩ := h.built ((did_set h12 hl).resolve_left (fun e => hne.1 e.symm))
    have n1' : (1 : Nat) ≠ i := fun e => hu (e ▸ h2)
    have n3' : (3 : Nat) ≠ i := fun e => hu (e ▸ h3)
    have n7' : (7 : Nat) ≠ i := fun e => hu (e ▸ h4)
    have n9' : (9 : Nat) ≠ i := fun e => hu (e ▸ h5)
    have n11' : (11 : Nat) ≠ i := fun e => hu (e ▸ h6)
    refine ⟨?_, did_keep h2, did_keep h3, did_keep h4, did_keep h5, did_keep h6⟩
    rw [put_at _ h25]
    simp only [if_neg n1', if_neg n3', if_neg n7', if_neg n9', if_neg n11']
    exact h1
  · exact absurd ((did_set h14 hl).resolve_left (fun e => hne.2 e.symm)) h14n
end
theorem ev_int {a : Act} {t : Nat} {x : Int} (h : a.tmps[t]? = some (intC x)) : a.eval (.tmp t) = intC x := eval_at h
theorem infoInts : (Tryz.prog.info? tInts).map (fun i => (i.zero, i.size, i.bytes)) = some (some (.slice none 0 0), 1, 24) := by kernel_rfl
theorem op_at {i : Nat} {o : Oper} {x : Option Tmp × Op × Option (Nat × Bool)} (hx : ((regOps (at_ Tryz.f24 [1, 1, 0])).toList.map fun o => (o.dst, o.op, o.guard))[i]? = some x) (ho : (regOps (at_ Tryz.f24 [1, 1, 0]))[i]? = some o) : o.dst = x.1 ∧ o.op = x.2.1 ∧ o.guard = x.2.2 := by
  rw [List.getElem?_map, Array.getElem?_toList, ho] at hx
  simp only [Option.map_some, Option.some.injEq] at hx
  subst hx
  exact ⟨rfl, rfl, rfl⟩
theorem deps_at {i : Nat} {o : Oper} {d : List Nat} {l : Array Bool} (hx : ((regOps (at_ Tryz.f24 [1, 1, 0])).toList.map fun o => (o.after.toList.filter (Region.binds .any)).map (·.on))[i]? = some d) (ho : (regOps (at_ Tryz.f24 [1, 1, 0]))[i]? = some o)
    (h : ∀ e ∈ o.after, Region.binds .any e = true → l.getD e.on false = true) : ∀ j ∈ d, did l j := by
  rw [List.getElem?_map, Array.getElem?_toList, ho] at hx
  simp only [Option.map_some, Option.some.injEq] at hx
  subst hx
  intro j hj
  obtain ⟨e, he, rfl⟩ := List.mem_map.1 hj
  obtain ⟨h1, h2⟩ := List.mem_filter.1 he
  exact h e (by simpa using h1) h2
theorem lay_size : (regOps (at_ Tryz.f24 [1, 1, 0])).size = 15 := by
  have := congrArg List.length lay_ops
  rw [List.length_map, Array.length_toList] at this
  exact this
theorem fld_run (n1 : Nat) (w : World) : (vNext (Instr.fieldAt tPlan (.pointer (some ⟨n1, 0, none⟩)) 2)).run Tryz.prog w = .ok (.value (.pointer (some ⟨n1, 2, none⟩))) w := by kernel_rfl
theorem build_run (n m b1 b3 b7 b9 b11 : Nat) (w : World) : (vNext (Instr.build tShape #[(0, .slice (some ⟨b1, 0, none⟩) n n), (1, .slice (some ⟨b3, 0, none⟩) n n), (2, .slice (some ⟨b7, 0, none⟩) m m), (6, .slice (some ⟨b9, 0, none⟩) n n), (7, .slice (some ⟨b11, 0, none⟩) n n)])).run Tryz.prog w =
    .ok (.value (.agg (shC n m b1 b3 b7 b9 b11 nilS nilS nilS).toArray)) w := by kernel_rfl
theorem len_run (ep : Option Addr) (m ec : Nat) (w : World) : (Builtin.len_ #[23] tInt #[.slice ep m ec]).run Tryz.prog w = .ok (intC m) w := by kernel_rfl
theorem lay_len : ((regOps (at_ Tryz.f24 [1, 1, 0]))[6]?).map (·.type) = some tInt := by kernel_rfl
theorem region_step {n m n1 : Nat} {ep : Option Addr} {ec : Nat} {cs1 : List Value} {a0 : Act} {w0 : World} (hz : a0.tmps.size = 149) (hn : n ≤ 12) (hm : m ≤ 24) (h1 : a0.tmps[1]? = some (.pointer (some ⟨n1, 0, none⟩))) (h3 : a0.tmps[3]? = some (intC n)) (hb : Blk w0 n1 cs1 tPlan) (hc2 : cs1[2]? = some (.slice ep m ec))
    {Q : Exit → Act → World → Prop} (l : Array Bool) (a : Act) (w : World) (i : Nat) (hI : ∃ f, RI n m n1 ep ec a0 w0 f l a w) (hr : i ∈ Region.ready .any (regOps (at_ Tryz.f24 [1, 1, 0])) l) :
    wpOp Tryz.prog (regOps (at_ Tryz.f24 [1, 1, 0])) Q i (fun a' w' => ∃ f, RI n m n1 ep ec a0 w0 f (l.setIfInBounds i true) a' w') a w := by
  obtain ⟨f, h⟩ := hI
  obtain ⟨hu0, o, ho, hdep⟩ := mem_ready.1 hr
  have hu := undone hu0
  have hi : i < 15 := by have := (Array.getElem?_eq_some_iff.1 ho).1; rw [lay_size] at this; exact this
  have k1 : a.tmps[1]? = some (.pointer (some ⟨n1, 0, none⟩)) := (h.keep 1 (by decide)).trans h1
  have k3 : a.tmps[3]? = some (intC n) := (h.keep 3 (by decide)).trans h3
  have hops := fun x hx => op_at (i := i) (x := x) (by rw [lay_ops]; exact hx) ho
  have hdeps := fun d hx => deps_at (i := i) (d := d) (by rw [lay_deps]; exact hx) ho hdep
  have pureGo : ∀ (d : Nat) (v : Value), o.dst = some d → o.guard = none → (execOp a.eval o).run Tryz.prog w = .ok (.value v) w → d < 26 → d ∈ regW → (i, d, v) ∈ pureL n m n1 ep ec → (∀ x ∈ pureL n m n1 ep ec, x.1 ≠ i → x.2.1 ≠ d) → (∀ x ∈ pureL n m n1 ep ec, x.1 = i → x = (i, d, v)) →
      (∀ j ∈ mkI, mkSlot j ≠ d) → d ≠ 25 → i ∉ mkI → i ≠ 12 → i ≠ 14 → wpOp Tryz.prog (regOps (at_ Tryz.f24 [1, 1, 0])) Q i (fun a' w' => ∃ f, RI n m n1 ep ec a0 w0 f (l.setIfInBounds i true) a' w') a w := by
    intro d v hd hg hrun g1 g2 g3 g4 g5 g6 g7 g8 g9 g10
    refine wpOp_value ho hg hrun ⟨f, ?_⟩
    rw [hd]
    exact h.pureStep hz hi hu g1 g2 g3 g4 g5 g6 g7 g8 g9 g10
  have mkGo : ∀ (v : Value) (w' : World), i ∈ mkI → o.dst = some (mkSlot i) → o.guard = none → v = mkVal n m i w.heap.size → (execOp a.eval o).run Tryz.prog w = .ok (.value v) w' → Ch No w w' → Blk w' w.heap.size (mkCells n m i) (mkTy i) →
      wpOp Tryz.prog (regOps (at_ Tryz.f24 [1, 1, 0])) Q i (fun a' w' => ∃ f, RI n m n1 ep ec a0 w0 f (l.setIfInBounds i true) a' w') a w := by
    intro v w' g1 hd hg hv hrun hc hbk
    refine wpOp_value ho hg hrun ⟨fun k => if k = i then w.heap.size else f k, ?_⟩
    rw [hd, hv]
    exact h.mkStep hz g1 hu hc hbk
  have slice_run : ∀ (t e s : Nat) (z : Value) (bytes k : Nat), Tryz.prog.underlying t = some (.slice e) → (Tryz.prog.info? e).map (fun i => (i.zero, i.size, i.bytes)) = some (some z, 1, bytes) → z.cells = #[z] → bytes * k ≤ 281474976710656 → k ≤ 9223372036854775807 → a.tmps[s]? = some (intC k) → o.op = .makeSlice t (.tmp s) (.tmp s) →
      (execOp a.eval o).run Tryz.prog w = .ok (.value (.slice (some ⟨w.heap.size, 0, none⟩) k k)) (w.alloc (.cells (List.replicate k z).toArray e (0, 0))) := by
    intro t e s z bytes k g1 g2 g3 g4 g5 g6 g7
    have : execOp a.eval o = vNext (Instr.makeSlice t (intC k) (intC k)) := by
      unfold execOp
      rw [g7]
      simp only [ev_int g6]
      rfl
    rw [this]
    simp only [vNext, Sem.run_bind, run_mks g1 g2 g3 g4 g5, Result.andThen]
    rfl
  have cut15 : i = 0 ∨ i = 1 ∨ i = 2 ∨ i = 3 ∨ i = 4 ∨ i = 5 ∨ i = 6 ∨ i = 7 ∨ i = 8 ∨ i = 9 ∨ i = 10 ∨ i = 11 ∨ i = 12 ∨ i = 13 ∨ i = 14 := by omega
  have mvRun : ∀ (s : Nat), o.op = .move (.tmp s) → (execOp a.eval o).run Tryz.prog w = .ok (.value (a.eval (.tmp s))) w := fun s g => by
    unfold execOp
    rw [g]
    rfl
  rcases cut15 with rfl | rfl | rfl | rfl | rfl | rfl | rfl | rfl | rfl | rfl | rfl | rfl | rfl | rfl | rfl
  · obtain ⟨e1, e2, e3⟩ := hops _ rfl
    exact pureGo 13 (intC n) e1 e3 (by rw [mvRun 3 e2, ev_int k3]) (by decide) (by decide) (by simp [pureL]) (by simp [pureL]) (by simp [pureL]) (by decide) (by decide) (by decide) (by decide) (by decide)
  · obtain ⟨e1, e2, e3⟩ := hops _ rfl
    have d0 := hdeps _ rfl 0 (by simp)
    exact mkGo _ _ (by decide) e1 e3 rfl (slice_run _ tInts 13 _ 24 n (by kernel_rfl) infoInts rfl (by omega) (by omega) (h.pure_ (0, 13, intC n) (by simp [pureL]) d0) e2) ((Ch.refl _ _).alloc _) (blk_new _ _ _)
  · obtain ⟨e1, e2, e3⟩ := hops _ rfl
    exact pureGo 15 (intC n) e1 e3 (by rw [mvRun 3 e2, ev_int k3]) (by decide) (by decide) (by simp [pureL]) (by simp [pureL]) (by simp [pureL]) (by decide) (by decide) (by decide) (by decide) (by decide)
  · obtain ⟨e1, e2, e3⟩ := hops _ rfl
    have d0 := hdeps _ rfl 2 (by simp)
    exact mkGo _ _ (by decide) e1 e3 rfl (slice_run _ tInts 15 _ 24 n (by kernel_rfl) infoInts rfl (by omega) (by omega) (h.pure_ (2, 15, intC n) (by simp [pureL]) d0) e2) ((Ch.refl _ _).alloc _) (blk_new _ _ _)
  · obtain ⟨e1, e2, e3⟩ := hops _ rfl
    refine pureGo 17 (.pointer (some ⟨n1, 2, none⟩)) e1 e3 ?_ (by decide) (by decide) (by simp [pureL]) (by simp [pureL]) (by simp [pureL]) (by decide) (by decide) (by decide) (by decide) (by decide)
    have : execOp a.eval o = vNext (Instr.fieldAt tPlan (.pointer (some ⟨n1, 0, none⟩)) 2) := by
      unfold execOp
      rw [e2]
      simp only [eval_at k1]
      rfl
    rw [this]
    exact fld_run n1 w
  · obtain ⟨e1, e2, e3⟩ := hops _ rfl
    have d0 := hdeps _ rfl 4 (by simp)
    have k17 := h.pure_ (4, 17, .pointer (some ⟨n1, 2, none⟩)) (by simp [pureL]) d0
    refine pureGo 18 (.slice ep m ec) e1 e3 ?_ (by decide) (by decide) (by simp [pureL]) (by simp [pureL]) (by simp [pureL]) (by decide) (by decide) (by decide) (by decide) (by decide)
    have : execOp a.eval o = vNext (Instr.loadAt 23 (.pointer (some ⟨n1, 2, none⟩))) := by
      unfold execOp
      rw [e2]
      simp only [eval_at k17]
      rfl
    rw [this]
    obtain ⟨v, w', hr, rfl, rfl⟩ := run_one (P := Tryz.prog) (m := vNext (Instr.loadAt 23 (.pointer (some ⟨n1, 2, none⟩)))) (s := .ld .sl .nil) (w := w) (φ := fun v w' => v = .slice ep m ec ∧ w' = w) (by
      rw [show oneT Tryz.prog (vNext (Instr.loadAt 23 (.pointer (some ⟨n1, 2, none⟩)))) (.ld .sl .nil) = .load ⟨n1, 2, none⟩ .sl (fun l => .fin .normal [(0, .slice l.1 l.2.1 l.2.2)]) from by kernel_rfl]
      exact ld_sl (((hb.ch h.ch (fun h => h)).cell 2).trans hc2) ⟨rfl, _, rfl, rfl, rfl⟩)
    exact hr
  · obtain ⟨e1, e2, e3⟩ := hops _ rfl
    have d0 := hdeps _ rfl 5 (by simp)
    have k18 := h.pure_ (5, 18, .slice ep m ec) (by simp [pureL]) d0
    refine pureGo 19 (intC m) e1 e3 ?_ (by decide) (by decide) (by simp [pureL]) (by simp [pureL]) (by simp [pureL]) (by decide) (by decide) (by decide) (by decide) (by decide)
    have ht : o.type = tInt := by
      have := lay_len
      rw [ho] at this
      simpa using this
    unfold execOp
    rw [e2]
    have q18 : a.tmps[18]?.getD undef = .slice ep m ec := by rw [k18]; rfl
    simp only [resolve, invoke, Array.map]
    simp [go_sem, builtin, q18, ht, len_run]
  · obtain ⟨e1, e2, e3⟩ := hops _ rfl
    have d0 := hdeps _ rfl 6 (by simp)
    exact mkGo _ _ (by decide) e1 e3 rfl (slice_run _ tBool 19 _ 1 m (by kernel_rfl) infoBool rfl (by omega) (by omega) (h.pure_ (6, 19, intC m) (by simp [pureL]) d0) e2) ((Ch.refl _ _).alloc _) (blk_new _ _ _)
  · obtain ⟨e1, e2, e3⟩ := hops _ rfl
    exact pureGo 21 (intC n) e1 e3 (by rw [mvRun 3 e2, ev_int k3]) (by decide) (by decide) (by simp [pureL]) (by simp [pureL]) (by simp [pureL]) (by decide) (by decide) (by decide) (by decide) (by decide)
  · obtain ⟨e1, e2, e3⟩ := hops _ rfl
    have d0 := hdeps _ rfl 8 (by simp)
    exact mkGo _ _ (by decide) e1 e3 rfl (slice_run _ tInt 21 _ 8 n (by kernel_rfl) infoInt rfl (by omega) (by omega) (h.pure_ (8, 21, intC n) (by simp [pureL]) d0) e2) ((Ch.refl _ _).alloc _) (blk_new _ _ _)
  · obtain ⟨e1, e2, e3⟩ := hops _ rfl
    exact pureGo 23 (intC n) e1 e3 (by rw [mvRun 3 e2, ev_int k3]) (by decide) (by decide) (by simp [pureL]) (by simp [pureL]) (by simp [pureL]) (by decide) (by decide) (by decide) (by decide) (by decide)
  · obtain ⟨e1, e2, e3⟩ := hops _ rfl
    have d0 := hdeps _ rfl 10 (by simp)
    exact mkGo _ _ (by decide) e1 e3 rfl (slice_run _ tInt 23 _ 8 n (by kernel_rfl) infoInt rfl (by omega) (by omega) (h.pure_ (10, 23, intC n) (by simp [pureL]) d0) e2) ((Ch.refl _ _).alloc _) (blk_new _ _ _)
  · -- the five rows are put together
    obtain ⟨e1, e2, e3⟩ := hops _ rfl
    have hd := hdeps _ rfl
    obtain ⟨m1, -, -⟩ := h.made 1 (by decide) (hd 1 (by simp))
    obtain ⟨m3, -, -⟩ := h.made 3 (by decide) (hd 3 (by simp))
    obtain ⟨m7, -, -⟩ := h.made 7 (by decide) (hd 7 (by simp))
    obtain ⟨m9, -, -⟩ := h.made 9 (by decide) (hd 9 (by simp))
    obtain ⟨m11, -, -⟩ := h.made 11 (by decide) (hd 11 (by simp))
    refine wpOp_value (w' := w) (v := .agg (shC n m (f 1) (f 3) (f 7) (f 9) (f 11) nilS nilS nilS).toArray) ho e3 ?_ ⟨f, ?_⟩
    · have : execOp a.eval o = vNext (Instr.build tShape #[(0, .slice (some ⟨f 1, 0, none⟩) n n), (1, .slice (some ⟨f 3, 0, none⟩) n n), (2, .slice (some ⟨f 7, 0, none⟩) m m), (6, .slice (some ⟨f 9, 0, none⟩) n n), (7, .slice (some ⟨f 11, 0, none⟩) n n)]) := by
        unfold execOp
        rw [e2]
        have q1 : a.eval (.tmp 14) = .slice (some ⟨f 1, 0, none⟩) n n := eval_at m1
        have q3 : a.eval (.tmp 16) = .slice (some ⟨f 3, 0, none⟩) n n := eval_at m3
        have q7 : a.eval (.tmp 20) = .slice (some ⟨f 7, 0, none⟩) m m := eval_at m7
        have q9 : a.eval (.tmp 22) = .slice (some ⟨f 9, 0, none⟩) n n := eval_at m9
        have q11 : a.eval (.tmp 24) = .slice (some ⟨f 11, 0, none⟩) n n := eval_at m11
        simp only [List.map_toArray, List.map_cons, List.map_nil, q1, q3, q7, q9, q11]
        rfl
      rw [this]
      exact build_run _ _ _ _ _ _ _ w
    · rw [e1]
      have hl : 12 < l.size := by rw [h.sz]; decide
      refine ⟨by simp [h.sz], by simp [Act.put, h.asz], h.df, fun t ht => ?_, h.ch, fun x hxm hdx => ?_, fun j hj hdj => ?_, fun j hj k hk2 hjk hdj hdk => ?_, fun h12 => ⟨put_self _ (h.slot_lt hz (by decide)), did_keep (hd 1 (by simp)), did_keep (hd 3 (by simp)), did_keep (hd 7 (by simp)), did_keep (hd 9 (by simp)), did_keep (hd 11 (by simp))⟩, fun h14 => ?_⟩
      · rw [put_at _ (show 25 ≠ t from fun e => ht (e ▸ by decide))]
        exact h.keep t ht
      · have hne : x.1 ≠ 12 ∧ x.2.1 ≠ 25 := by
          simp only [pureL, List.mem_cons, List.not_mem_nil, or_false] at hxm
          rcases hxm with rfl | rfl | rfl | rfl | rfl | rfl | rfl <;> exact ⟨by simp, by simp⟩
        rw [put_at _ (fun e => hne.2 e.symm)]
        exact h.pure_ x hxm ((did_set hdx hl).resolve_left hne.1)
      · have hne : ∀ j ∈ mkI, j ≠ 12 ∧ mkSlot j ≠ 25 := by decide
        obtain ⟨g1, g2, g3⟩ := h.made j hj ((did_set hdj hl).resolve_left (hne j hj).1)
        exact ⟨by rw [put_at _ (fun e => (hne j hj).2 e.symm)]; exact g1, g2, fun hh => g3 (hh.imp (fun g g2 => g (did_keep g2)) id)⟩
      · have hne : ∀ j ∈ mkI, j ≠ 12 := by decide
        exact h.apart j hj k hk2 hjk ((did_set hdj hl).resolve_left (hne j hj)) ((did_set hdk hl).resolve_left (hne k hk2))
      · exact absurd ((h.stored ((did_set h14 hl).resolve_left (by decide))).2 12 (by decide)) hu
  · obtain ⟨e1, e2, e3⟩ := hops _ rfl
    obtain ⟨v, w', hr, rfl, hc, hbk⟩ := run_one (P := Tryz.prog) (m := execOp a.eval o) (s := .nil) (w := w) (φ := fun v w' => v = .pointer (some ⟨w.heap.size, 0, none⟩) ∧ Ch No w w' ∧ Blk w' w.heap.size (List.replicate 8 nilS) tShape) (by
      have : execOp a.eval o = vNext (Instr.alloc tShape true (.tuple #[])) := by
        unfold execOp
        rw [e2]
        rfl
      rw [this, show oneT Tryz.prog (vNext (Instr.alloc tShape true (.tuple #[]))) .nil = .new (.cells #[nilS, nilS, nilS, nilS, nilS, nilS, nilS, nilS] tShape (0, 0)) (fun b => .fin .normal [(0, .pointer (some ⟨b, 0, none⟩))]) from by kernel_rfl]
      exact nw (cs := List.replicate 8 nilS) fun w1 c1 s1 b1 => ⟨rfl, _, rfl, rfl, c1, b1⟩)
    exact mkGo _ w' (by decide) e1 e3 rfl hr hc hbk
  · -- the shape is stored
    obtain ⟨e1, e2, e3⟩ := hops _ rfl
    have hd := hdeps _ rfl
    obtain ⟨m13, m13b, m13c⟩ := h.made 13 (by decide) (hd 13 (by simp))
    have m13d := m13c (.inl hu)
    obtain ⟨hb25, -⟩ := h.built (hd 12 (by simp))
    have q4 : a.eval (.tmp 4) = .pointer (some ⟨f 13, 0, none⟩) := eval_at m13
    have q25 : a.eval (.tmp 25) = .agg (shC n m (f 1) (f 3) (f 7) (f 9) (f 11) nilS nilS nilS).toArray := eval_at hb25
    have hx : execOp a.eval o = uNext (Instr.storeAt tShape (.pointer (some ⟨f 13, 0, none⟩)) (.agg (shC n m (f 1) (f 3) (f 7) (f 9) (f 11) nilS nilS nilS).toArray)) := by
      unfold execOp
      rw [e2]
      simp only [q4, q25]
      rfl
    obtain ⟨w', hr, hc, hbk⟩ := run_oneS (P := Tryz.prog) (m := execOp a.eval o) (s := .nil) (w := w) (φ := fun w' => Ch (· = f 13) w w' ∧ Blk w' (f 13) (shC n m (f 1) (f 3) (f 7) (f 9) (f 11) nilS nilS nilS) tShape) (by
      rw [hx, show oneT Tryz.prog (uNext (Instr.storeAt tShape (.pointer (some ⟨f 13, 0, none⟩)) (.agg (shC n m (f 1) (f 3) (f 7) (f 9) (f 11) nilS nilS nilS).toArray))) .nil =
        .store ⟨f 13, 0, none⟩ (.slice (some ⟨f 1, 0, none⟩) n n) (.store ⟨f 13, 1, none⟩ (.slice (some ⟨f 3, 0, none⟩) n n) (.store ⟨f 13, 2, none⟩ (.slice (some ⟨f 7, 0, none⟩) m m) (.store ⟨f 13, 3, none⟩ nilS (.store ⟨f 13, 4, none⟩ nilS (.store ⟨f 13, 5, none⟩ nilS
          (.store ⟨f 13, 6, none⟩ (.slice (some ⟨f 9, 0, none⟩) n n) (.store ⟨f 13, 7, none⟩ (.slice (some ⟨f 11, 0, none⟩) n n) (.fin .ret [])))))))) from by kernel_rfl]
      refine st_blk m13d (by simp [mkCells]) rfl fun w2 c2 s2 b2 => st_blk b2 (by simp [mkCells]) rfl fun w3 c3 s3 b3 => st_blk b3 (by simp [mkCells]) rfl fun w4 c4 s4 b4 => st_blk b4 (by simp [mkCells]) rfl fun w5 c5 s5 b5 => st_blk b5 (by simp [mkCells]) rfl fun w6 c6 s6 b6 => st_blk b6 (by simp [mkCells]) rfl fun w7 c7 s7 b7 => st_blk b7 (by simp [mkCells]) rfl fun w8 c8 s8 b8 => st_blk b8 (by simp [mkCells]) rfl fun w9 c9 s9 b9 => ?_
      exact ⟨rfl, c2.trans (c3.trans (c4.trans (c5.trans (c6.trans (c7.trans (c8.trans c9)))))), b9⟩)
    refine wpOp_skip ho e3 hr ⟨f, ?_⟩
    rw [e1]
    have hl : 14 < l.size := by rw [h.sz]; decide
    refine ⟨by simp [h.sz], h.asz, h.df, h.keep, h.ch.then_ hc (fun k hk (e : k = f 13) => by omega), fun x hxm hdx => ?_, fun j hj hdj => ?_, fun j hj k hk2 hjk hdj hdk => ?_, fun h12 => ?_, fun h14 => ⟨hbk, fun j hj => ?_⟩⟩
    · refine h.pure_ x hxm ((did_set hdx hl).resolve_left ?_)
      simp only [pureL, List.mem_cons, List.not_mem_nil, or_false] at hxm
      rcases hxm with rfl | rfl | rfl | rfl | rfl | rfl | rfl <;> simp
    · have hne : ∀ j ∈ mkI, j ≠ 14 := by decide
      obtain ⟨g1, g2, g3⟩ := h.made j hj ((did_set hdj hl).resolve_left (hne j hj))
      refine ⟨g1, g2, fun hh => ?_⟩
      rcases hh with hh | hh
      · exact absurd (did_same hl) hh
      · exact (g3 (.inr hh)).ch hc (fun e => h.apart j hj 13 (by decide) hh ((did_set hdj hl).resolve_left (hne j hj)) (hd 13 (by simp)) e)
    · have hne : ∀ j ∈ mkI, j ≠ 14 := by decide
      exact h.apart j hj k hk2 hjk ((did_set hdj hl).resolve_left (hne j hj)) ((did_set hdk hl).resolve_left (hne k hk2))
    · obtain ⟨g1, g2, g3, g4, g5, g6⟩ := h.built ((did_set h12 hl).resolve_left (by decide))
      exact ⟨g1, did_keep g2, did_keep g3, did_keep g4, did_keep g5, did_keep g6⟩
    · by_cases e : j = 14
      · subst e; exact did_same hl
      · refine did_keep (hd j ?_)
        simp
        omega
theorem ready_of {i : Nat} {d : List Nat} {l : Array Bool} (hl : l.size = 15) (hi : i < 15) (hx : ((regOps (at_ Tryz.f24 [1, 1, 0])).toList.map fun o => (o.after.toList.filter (Region.binds .any)).map (·.on))[i]? = some d) (hd : ∀ j ∈ d, did l j)
    (hr : Region.ready .any (regOps (at_ Tryz.f24 [1, 1, 0])) l = []) : did l i := by
  apply Classical.byContradiction
  intro hu
  have hio : i < (regOps (at_ Tryz.f24 [1, 1, 0])).size := by rw [lay_size]; exact hi
  have hm : i ∈ Region.ready .any (regOps (at_ Tryz.f24 [1, 1, 0])) l := by
    refine mem_ready.2 ⟨?_, _, Array.getElem?_eq_getElem hio, fun e he hb => ?_⟩
    · have hil : i < l.size := by omega
      unfold did at hu
      rw [Array.getD_eq_getD_getElem?, Array.getElem?_eq_getElem hil] at hu ⊢
      simpa using hu
    · rw [List.getElem?_map, Array.getElem?_toList, Array.getElem?_eq_getElem hio] at hx
      simp only [Option.map_some, Option.some.injEq] at hx
      subst hx
      exact hd e.on (List.mem_map.2 ⟨e, List.mem_filter.2 ⟨by simpa using he, hb⟩, rfl⟩)
  rw [hr] at hm
  cases hm
theorem all_did {l : Array Bool} (hl : l.size = 15) (hr : Region.ready .any (regOps (at_ Tryz.f24 [1, 1, 0])) l = []) : did l 14 ∧ did l 13 := by
  have go := fun i d hi hx => ready_of (i := i) (d := d) hl hi (by rw [lay_deps]; exact hx)
  have d0 := go 0 _ (by decide) rfl (by simp) hr
  have d1 := go 1 _ (by decide) rfl (by simp [d0]) hr
  have d2 := go 2 _ (by decide) rfl (by simp) hr
  have d3 := go 3 _ (by decide) rfl (by simp [d2]) hr
  have d4 := go 4 _ (by decide) rfl (by simp) hr
  have d5 := go 5 _ (by decide) rfl (by simp [d4]) hr
  have d6 := go 6 _ (by decide) rfl (by simp [d5]) hr
  have d7 := go 7 _ (by decide) rfl (by simp [d6]) hr
  have d8 := go 8 _ (by decide) rfl (by simp) hr
  have d9 := go 9 _ (by decide) rfl (by simp [d8]) hr
  have d10 := go 10 _ (by decide) rfl (by simp) hr
  have d11 := go 11 _ (by decide) rfl (by simp [d10]) hr
  have d12 := go 12 _ (by decide) rfl (by simp [d1, d3, d7, d9, d11]) hr
  have d13 := go 13 _ (by decide) rfl (by simp) hr
  exact ⟨go 14 _ (by decide) rfl (by simp [d0, d1, d2, d3, d4, d5, d6, d7, d8, d9, d10, d11, d12, d13]) hr, d13⟩
theorem lay_wr : wr (at_ Tryz.f24 [1, 1, 0]) = regW := by kernel_rfl
/-- What stands in memory behind the region. -/
structure Made (n m s bi bo bb bm bd : Nat) (w0 w : World) : Prop where
  ch : Ch No w0 w
  new : w0.heap.size ≤ s ∧ w0.heap.size ≤ bi ∧ w0.heap.size ≤ bo ∧ w0.heap.size ≤ bb ∧ w0.heap.size ≤ bm ∧ w0.heap.size ≤ bd
  hs : Blk w s (shC n m bi bo bb bm bd nilS nilS nilS) tShape
  hi : Blk w bi (List.replicate n nilS) tInts
  ho : Blk w bo (List.replicate n nilS) tInts
  hb : Blk w bb (List.replicate m (.bool false)) tBool
  hm : Blk w bm (List.replicate n (intC 0)) tInt
  hd : Blk w bd (List.replicate n (intC 0)) tInt
  ne1 : bi ≠ bo
  ne2 : bm ≠ bd
theorem lay_cut {R : Ending → World → Prop} {Q : Exit → List (Tmp × Value) → World → Prop} {n m n1 : Nat} {ep : Option Addr} {ec : Nat} {cs1 : List Value} {w0 : World} {fx : List (Tmp × Value)} {k : MVars [((4 : Tmp), Comp.leaf Leaf.blk)] → (Nat → Value) → T} (hn : n ≤ 12) (hm : m ≤ 24)
    (h1 : lookT fx 1 = some (.pointer (some ⟨n1, 0, none⟩))) (h3 : lookT fx 3 = some (intC n)) (hap : apartL fx (at_ Tryz.f24 [1, 1, 0]) = true) (hb : Blk w0 n1 cs1 tPlan) (hc2 : cs1[2]? = some (.slice ep m ec))
    (h : ∀ s bi bo bb bm bd g w, Made n m s bi bo bb bm bd w0 w → wpT Tryz.prog R Q (k (s, ()) g) .pl w) : wpT Tryz.prog R Q (.cut (at_ Tryz.f24 [1, 1, 0]) 149 fx [(4, .leaf .blk)] k) .pl w0 := by
  rw [wpT_cut]
  intro g
  have hwr := lay_wr
  generalize hc : at_ Tryz.f24 [1, 1, 0] = c at *
  rw [← hc, lay_reg]
  have ha1 : (mkA 149 fx g).tmps[1]? = some (.pointer (some ⟨n1, 0, none⟩)) := by rw [mkA_get (by decide), h1]; rfl
  have ha3 : (mkA 149 fx g).tmps[3]? = some (intC n) := by rw [mkA_get (by decide), h3]; rfl
  refine wp_region_any mixed (wpAny_inv (fun l a w => ∃ f, RI n m n1 ep ec (mkA 149 fx g) w0.drew f l a w) ?_ ?_ _ _ _ _ ?_ ⟨fun _ => 0, ?_⟩)
  · exact fun l a w i hI hr => region_step (mkA_size _ _ _) hn hm ha1 ha3 (show Blk w0.drew n1 cs1 tPlan from hb) hc2 l a w i hI hr
  · rintro l a w ⟨f, hI⟩ hr
    obtain ⟨d14, d13⟩ := all_did hI.sz hr
    obtain ⟨hsb, hall⟩ := hI.stored d14
    have m1 := hI.made 1 (by decide) (hall 1 (by decide))
    have m3 := hI.made 3 (by decide) (hall 3 (by decide))
    have m7 := hI.made 7 (by decide) (hall 7 (by decide))
    have m9 := hI.made 9 (by decide) (hall 9 (by decide))
    have m11 := hI.made 11 (by decide) (hall 11 (by decide))
    have m13 := hI.made 13 (by decide) d13
    have hk' : Keep (wr c) (mkA 149 (fx ++ []) g) a := by
      rw [List.append_nil, hwr]
      exact ⟨hI.asz, fun t ht => hI.keep t ht⟩
    have hv : lives a ([((4 : Tmp), Comp.leaf Leaf.blk)].map (·.1)) = mvals [((4 : Tmp), Comp.leaf Leaf.blk)] (f 13, ()) := by
      have := eval_at m13.1
      show [(4, a.tmps.getD 4 undef)] = [(4, Value.pointer (some ⟨f 13, 0, none⟩))]
      rw [Array.getD_eq_getD_getElem?, show a.tmps[4]? = _ from m13.1]
      rfl
    obtain ⟨g', hg', he⟩ := back (fun _ _ => rfl) hap (L := []) (fun t ht => by cases ht) hk' hI.df hv
    refine ⟨(f 13, ()), g', by rw [← hc] at hg'; rw [lay_reg] at hg'; exact hg', he, h (f 13) (f 1) (f 3) (f 7) (f 9) (f 11) g' w ⟨?_, ?_, hsb, m1.2.2 (.inr (by decide)), m3.2.2 (.inr (by decide)), m7.2.2 (.inr (by decide)), m9.2.2 (.inr (by decide)), m11.2.2 (.inr (by decide)), ?_, ?_⟩⟩
    · exact (Ch.refl No w0).drew.trans hI.ch
    · exact ⟨m13.2.1, m1.2.1, m3.2.1, m7.2.1, m9.2.1, m11.2.1⟩
    · exact hI.apart 1 (by decide) 3 (by decide) (by decide) (hall 1 (by decide)) (hall 3 (by decide))
    · exact hI.apart 9 (by decide) 11 (by decide) (by decide) (hall 9 (by decide)) (hall 11 (by decide))
  · unfold unl
    refine Nat.le_trans (List.length_filter_le _ _) ?_
    simp
  · refine ⟨by simp [lay_size], rfl, rfl, fun _ _ => rfl, Ch.refl _ _, fun x _ hd => ?_, fun i _ hd => ?_, fun i _ j _ _ hd => ?_, fun hd => ?_, fun hd => ?_⟩
    all_goals
      exfalso
      unfold did at hd
      rw [Array.getD_eq_getD_getElem?, Array.getElem?_replicate] at hd
      split at hd <;> cases hd
end Go.Proofs.YtkebljkdkaagfaaGreatDoor.S
