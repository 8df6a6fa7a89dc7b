/- The tree's soundness: what is asked of the tree gives what is asked of the machine's code. -/
import Derived.Test.YtkebljkdkaagfaaGreatDoorTr
import Derived.Scope
import Derived.RangeFuncLeaves
namespace Go.Proofs.YtkebljkdkaagfaaGreatDoor
open Go
namespace Tr
section
variable {P : Program} {R : Ending → World → Prop} {Q : Exit → List (Tmp × Value) → World → Prop}
theorem wp_of_value {o : Oper} {a : Act} {w w' : World} {v : Value} {K : Act → World → Prop} {Q' : Exit → Act → World → Prop}
    (h : (execOp a.eval o).run P w = .ok (.value v) w') (hk : K (a.put o.dst v) w') : o.wp P a w K Q' := by
  unfold Oper.wp
  rw [h]
  exact hk
theorem run_underlying {t : TypeId} {d : TypeDesc} (h : P.underlying t = some d) (w : World) : (underlying t).run P w = .ok d w := by
  simp [underlying, h]
theorem run_sizeOf {t : TypeId} {i : TypeInfo} (h : P.info? t = some i) (w : World) : (sizeOf t).run P w = .ok i.size w := by
  simp [sizeOf, typeInfo, h]
theorem ex_pick {o : Oper} {a : Act} {c x y : Operand} {b : Bool} (ho : o.op = .pick c x y) (hc : a.eval c = .bool b) (w : World) :
    (execOp a.eval o).run P w = .ok (.value (if b then a.eval x else a.eval y)) w := by
  simp [execOp, ho, hc, asBool]
theorem ex_indexAddr {o : Oper} {a : Act} {t e : TypeId} {x i : Operand} {ad : Addr} {len cap : Nat} {k : IntKind} {n : Int} {inf : TypeInfo}
    (ho : o.op = .indexAddr t x i) (hu : P.underlying t = some (.slice e)) (hx : a.eval x = .slice (some ad) len cap) (hi : a.eval i = .int k n) (hf : P.info? e = some inf) (h0 : 0 ≤ n) (h1 : n < len) (w : World) :
    (execOp a.eval o).run P w = .ok (.value (.pointer (some (ad.add (n.toNat * inf.size))))) w := by
  simp [execOp, ho, Instr.indexAt, hx, hi, asIntOf, run_underlying hu, run_sizeOf hf, h0, h1]
theorem ex_indexArr {o : Oper} {a : Act} {t e : TypeId} {x i : Operand} {ad : Addr} {len : Nat} {k : IntKind} {n : Int} {inf : TypeInfo}
    (ho : o.op = .indexAddr t x i) (hu : P.underlying t = some (.array len e)) (hx : a.eval x = .pointer (some ad)) (hi : a.eval i = .int k n) (hf : P.info? e = some inf) (h0 : 0 ≤ n) (h1 : n < len) (w : World) :
    (execOp a.eval o).run P w = .ok (.value (.pointer (some (ad.add (n.toNat * inf.size))))) w := by
  simp [execOp, ho, Instr.indexAt, hx, hi, asIntOf, Instr.sureAddr, run_underlying hu, run_sizeOf hf, h0, h1]
theorem ex_index {o : Oper} {a : Act} {t : TypeId} {x i : Operand} {s : ByteArray} {k : IntKind} {n : Int}
    (ho : o.op = .index t x i) (hu : P.underlying t = some .string) (hx : a.eval x = .string s) (hi : a.eval i = .int k n) (h0 : 0 ≤ n) (h1 : n.toNat < s.size) (w : World) :
    (execOp a.eval o).run P w = .ok (.value (.int .u8 ((s[n.toNat]'h1).toNat : Int))) w := by
  simp [execOp, ho, Instr.index, hx, hi, asIntOf, run_underlying hu, h0, h1]
theorem ex_nilCheck {o : Oper} {a : Act} {x : Operand} {ad : Addr} (ho : o.op = .nilCheck x) (hx : a.eval x = .pointer (some ad)) (w : World) :
    (execOp a.eval o).run P w = .ok (.value (.pointer (some ad))) w := by
  simp [execOp, ho, hx]
theorem bnd_none {a : Act} {d l : Int} (h : bnd a none d = some l) : l = d := by simpa [bnd] using h.symm
theorem bnd_some {a : Act} {x : Operand} {d l : Int} (h : bnd a (some x) d = some l) : ∃ k, a.eval x = .int k l := by
  unfold bnd at h
  dsimp only at h
  cases he : a.eval x <;> rw [he] at h <;> simp at h
  exact ⟨_, by rw [h]⟩
theorem run_sliceBounds {a : Act} {b : Bool} {lo hi : Option Operand} {len cap : Nat} {l h : Int} (hl : bnd a lo 0 = some l) (hh : bnd a hi len = some h) (h0 : 0 ≤ l) (h1 : l ≤ h) (h2 : h ≤ (cap : Int)) (w : World) :
    (Instr.sliceBounds b len cap (lo.map a.eval) (hi.map a.eval) none).run P w = .ok (l.toNat, h.toNat, cap) w := by
  have hh0 : 0 ≤ h := by omega
  cases hi with
  | none =>
    obtain rfl := bnd_none hh
    cases lo with
    | none =>
      obtain rfl := bnd_none hl
      simp [Instr.sliceBounds]
    | some x =>
      obtain ⟨k, hx⟩ := bnd_some hl
      simp [Instr.sliceBounds, Instr.sliceBound, hx, asIntOf, h0, h1]
  | some y =>
    obtain ⟨k', hy⟩ := bnd_some hh
    cases lo with
    | none =>
      obtain rfl := bnd_none hl
      simp [Instr.sliceBounds, Instr.sliceBound, hy, asIntOf, hh0, h2]
    | some x =>
      obtain ⟨k, hx⟩ := bnd_some hl
      have hmx : max h 0 = h := by omega
      simp [Instr.sliceBounds, Instr.sliceBound, hx, hy, asIntOf, h0, h1, hh0, h2, hmx]
theorem ex_slice_str {o : Oper} {a : Act} {t : TypeId} {x : Operand} {lo hi : Option Operand} {s : ByteArray} {l h : Int}
    (ho : o.op = .slice t x lo hi none) (hu : P.underlying t = some .string) (hx : a.eval x = .string s) (hl : bnd a lo 0 = some l) (hh : bnd a hi s.size = some h) (h0 : 0 ≤ l) (h1 : l ≤ h) (h2 : h ≤ (s.size : Int)) (w : World) :
    (execOp a.eval o).run P w = .ok (.value (.string (s.extract l.toNat h.toNat))) w := by
  simp [execOp, ho, Instr.sliceAt, Instr.slice, hx, run_underlying hu, run_sliceBounds hl hh h0 h1 h2]
theorem ex_slice_sl {o : Oper} {a : Act} {t e : TypeId} {x : Operand} {lo hi : Option Operand} {base : Option Addr} {len cap : Nat} {l h : Int} {inf : TypeInfo}
    (ho : o.op = .slice t x lo hi none) (hu : P.underlying t = some (.slice e)) (hx : a.eval x = .slice base len cap) (hf : P.info? e = some inf) (hl : bnd a lo 0 = some l) (hh : bnd a hi len = some h) (h0 : 0 ≤ l) (h1 : l ≤ h) (h2 : h ≤ (cap : Int)) (w : World) :
    (execOp a.eval o).run P w = .ok (.value (.slice (if cap = l.toNat then base else base.map (·.add (l.toNat * inf.size))) (h.toNat - l.toNat) (cap - l.toNat))) w := by
  simp [execOp, ho, Instr.sliceAt, Instr.slice, hx, run_underlying hu, run_sizeOf hf, run_sliceBounds hl hh h0 h1 h2]
theorem ex_add_str {o : Oper} {a : Act} {t t' : TypeId} {x y : Operand} {p q : ByteArray} (ho : o.op = .binOp .add t x y t') (hx : a.eval x = .string p) (hy : a.eval y = .string q) (hs : p.size + q.size ≤ 9223372036854775807) (w : World) :
    (execOp a.eval o).run P w = .ok (.value (.string (p ++ q))) w := by
  have : ¬ (((p.size + q.size : Nat) : Int) > IntKind.i64.max) := by
    have e : IntKind.i64.max = 9223372036854775807 := by decide
    rw [e]; omega
  simp only [execOp, ho, hx, hy, eqGuard, binOp, Op.stringOp, Sem.run_bind, if_neg this]
  rfl
/-! ### What stays -/
def Keep (W : List Tmp) (a a' : Act) : Prop := a'.tmps.size = a.tmps.size ∧ ∀ t, t ∉ W → a'.tmps[t]? = a.tmps[t]?
theorem Keep.refl (W : List Tmp) (a : Act) : Keep W a a := ⟨rfl, fun _ _ => rfl⟩
theorem Keep.trans {W W' : List Tmp} {a b c : Act} (h : Keep W a b) (k : Keep W' b c) : Keep (W ++ W') a c :=
  ⟨k.1.trans h.1, fun t ht => (k.2 t (fun h => ht (List.mem_append_right _ h))).trans (h.2 t (fun h => ht (List.mem_append_left _ h)))⟩
theorem Keep.mono {W W' : List Tmp} {a b : Act} (h : Keep W a b) (hs : ∀ t, t ∈ W → t ∈ W') : Keep W' a b := ⟨h.1, fun t ht => h.2 t (fun k => ht (hs t k))⟩
theorem Keep.put (a : Act) (d : Option Tmp) (v : Value) : Keep d.toList a (a.put d v) := by
  cases d with
  | none => exact Keep.refl _ _
  | some t =>
    refine ⟨by simp [Act.put], fun u hu => ?_⟩
    have : t ≠ u := fun e => hu (by simp [e])
    simp [Act.put, this]
theorem Keep.defers {W : List Tmp} {a b : Act} {d : List Deferred} (h : Keep W { a with defers := d } b) : Keep W a b := h
def dsts (l : List Oper) : List Tmp := l.filterMap (·.dst)
theorem dsts_cons (o : Oper) (l : List Oper) : dsts (o :: l) = o.dst.toList ++ dsts l := by
  unfold dsts
  cases h : o.dst <;> simp [h]
theorem run_run {md : Md} [hm : md.Runs] {w : World} {m : Sem Next} {s : Shape} {k : s.Vars → T} (h : wpT P R Q (.run m s k) md w) : ∃ x w', m.run P w = .ok (.value (s.val x)) w' ∧ wpT P R Q (k x) md w' := by cases hm <;> exact h
theorem act_run {md : Md} [hm : md.Runs] {w : World} {m : Sem Next} {k : T} (h : wpT P R Q (.act m k) md w) : ∃ w', m.run P w = .ok .skip w' ∧ wpT P R Q k md w' := by cases hm <;> exact h
theorem nextT_sound {o : Oper} {a : Act} {s : Script} {k : Script → Act → T} {kp : Script → List PanicEntry → Act → T} {n : Next} {md : Md} [hmd : md.Runs] {w : World} (h : wpT P R Q (nextT o a s k kp n) md w)
    {K : Act → World → Prop} {Q' : Exit → Act → World → Prop} (hK : ∀ s a' w', Keep o.dst.toList a a' → wpT P R Q (k s a') md w' → K a' w') (hP : ∀ s ch w', wpT P R Q (kp s ch a) md w' → Q' (.panic ch) a w') :
    o.upon P a K Q' (.ok n w) := by
  cases n <;> try exact (stuck_no h).elim
  case value v => exact hK _ _ _ (Keep.put _ _ _) h
  case skip => exact hK _ _ _ (Keep.put _ _ _) h
  case defer d =>
    cases hmd with
    | pl => exact hK _ _ _ (Keep.defers (Keep.put { a with defers := d :: a.defers } _ _)) h
    | ef C => exact h.elim
  case enter f args =>
    simp only [nextT] at h
    cases s <;> try exact (stuck_no h).elim
    case cl sh s =>
      dsimp only at h
      rw [wpT_call] at h
      refine Calls.mono h fun e w' he => ?_
      cases e with
      | returned v => obtain ⟨x, rfl, hx⟩ := he; exact hK _ _ _ (Keep.put _ _ _) hx
      | panicked ch => exact he.elim
      | outgrown => exact he.elim
    case clp sh s sp =>
      dsimp only at h
      rw [wpT_callp] at h
      refine Calls.mono h fun e w' he => ?_
      cases e with
      | returned v => obtain ⟨x, rfl, hx⟩ := he; exact hK _ _ _ (Keep.put _ _ _) hx
      | panicked ch => exact hP _ _ _ he
      | outgrown => exact he.elim
    case clx sp =>
      dsimp only at h
      rw [wpT_callx] at h
      refine Calls.mono h fun e w' he => ?_
      cases e with
      | returned v => exact he.elim
      | panicked ch => exact hP _ _ _ he
      | outgrown => exact he.elim
theorem opT_gen {o : Oper} {a : Act} {s : Script} {k : Script → Act → T} {kp : Script → List PanicEntry → Act → T} {md : Md} [hmd : md.Runs] {w : World}
    (h : wpT P R Q (ofSem P (execOp a.eval o) s (fun s n => nextT o a s k kp n) (fun s v => kp s [{ v, recovered := false }] a)) md w)
    {K : Act → World → Prop} {Q' : Exit → Act → World → Prop} (hK : ∀ s a' w', Keep o.dst.toList a a' → wpT P R Q (k s a') md w' → K a' w') (hP : ∀ s ch w', wpT P R Q (kp s ch a) md w' → Q' (.panic ch) a w') :
    o.wp P a w K Q' := by
  unfold Oper.wp
  rcases ofSem_sound _ _ _ _ _ h with ⟨n, s', w', hr, hn⟩ | ⟨v, s', w', hr, hn⟩
  · rw [hr]; exact nextT_sound hn hK hP
  · rw [hr]; exact hP _ _ _ hn
theorem ex_value {o : Oper} {c : Call} {x : Operand} {fn : Fn} {first cap : Array Value} {a : Act} (ho : o.op = .call c) (hc : c.callee = .value x) (hx : a.eval x = .func fn first cap) (w : World) :
    (execOp a.eval o).run P w = (invoke (.fn fn cap) (first ++ c.args.map a.eval)).run P w := by
  simp [execOp, ho, resolve, hc, Deferred.ofValue, hx]
theorem opT_sound {o : Oper} {a : Act} {s : Script} {k : Script → Act → T} {kp : Script → List PanicEntry → Act → T} {md : Md} [hmd : md.Runs] {w : World} (hy : md = .pl → ∀ c s', o.op = .call c → s ≠ .yl s') (h : wpT P R Q (opT P o a s k kp) md w)
    {K : Act → World → Prop} {Q' : Exit → Act → World → Prop} (hK : ∀ s a' w', Keep o.dst.toList a a' → wpT P R Q (k s a') md w' → K a' w') (hP : ∀ s ch w', wpT P R Q (kp s ch a) md w' → Q' (.panic ch) a w') :
    o.wp P a w K Q' := by
  unfold opT at h
  split at h
  · rename_i c x y s ho
    split at h
    · rename_i b hc
      obtain ⟨ht, hf⟩ := exam_sound h
      refine wp_of_value (ex_pick ho hc w) ?_
      cases b
      · obtain ⟨s', h'⟩ := hf rfl
        rw [setO_same hc] at h'
        exact hK _ _ _ (Keep.put _ _ _) h'
      · obtain ⟨s', h'⟩ := ht rfl
        rw [setO_same hc] at h'
        exact hK _ _ _ (Keep.put _ _ _) h'
    · exact (stuck_no h).elim
  · rename_i t x i s ho
    split at h
    · rename_i e base len cap kk n hu hx hi
      split at h
      · rename_i inf hf
        obtain ⟨ad, rfl, h0, h1, h⟩ := h
        exact wp_of_value (ex_indexAddr ho hu hx hi hf h0 h1 w) (hK _ _ _ (Keep.put _ _ _) h)
      · exact (stuck_no h).elim
    · rename_i len e base kk n hu hx hi
      split at h
      · rename_i inf hf
        obtain ⟨ad, rfl, h0, h1, h⟩ := h
        exact wp_of_value (ex_indexArr ho hu hx hi hf h0 h1 w) (hK _ _ _ (Keep.put _ _ _) h)
      · exact (stuck_no h).elim
    · exact (stuck_no h).elim
  · rename_i t x i s ho
    split at h
    · rename_i b kk n hu hx hi
      obtain ⟨h0, h1, h⟩ := h
      exact wp_of_value (ex_index ho hu hx hi h0 h1 w) (hK _ _ _ (Keep.put _ _ _) h)
    · exact (stuck_no h).elim
  · rename_i x s ho
    split at h
    · rename_i p hx
      obtain ⟨h1, h2⟩ := h
      cases p with
      | none => exact (h2 rfl).elim
      | some ad => exact wp_of_value (ex_nilCheck ho hx w) (hK _ _ _ (Keep.put _ _ _) (h1 _ rfl))
    · exact (stuck_no h).elim
  · rename_i t x lo hi s ho
    split at h
    · rename_i b hu hx
      split at h
      · rename_i l hh hl hh'
        obtain ⟨hd, h⟩ := h
        obtain ⟨h0, h1, h2⟩ := of_decide_eq_true hd
        exact wp_of_value (ex_slice_str ho hu hx hl hh' h0 h1 h2 w) (hK _ _ _ (Keep.put _ _ _) h)
      · exact (stuck_no h).elim
    · rename_i e base len cap hu hx
      split at h
      · rename_i l hh inf hl hh' hf
        obtain ⟨hd, h⟩ := h
        obtain ⟨h0, h1, h2⟩ := of_decide_eq_true hd
        exact wp_of_value (ex_slice_sl ho hu hx hf hl hh' h0 h1 h2 w) (hK _ _ _ (Keep.put _ _ _) h)
      · exact (stuck_no h).elim
    · exact (stuck_no h).elim
  · rename_i t x y t' s ho
    split at h
    · rename_i p q hx hy
      obtain ⟨hd, h⟩ := h
      exact wp_of_value (ex_add_str ho hx hy (of_decide_eq_true hd) w) (hK _ _ _ (Keep.put _ _ _) h)
    · exact (stuck_no h).elim
  · rename_i c sh s ho
    split at h
    · rename_i x hc
      split at h
      · rename_i f first cap hx
        cases hmd with
        | pl =>
          rw [wpT_inv] at h
          obtain ⟨he, h⟩ := h
          unfold Oper.wp
          rw [ex_value ho hc hx]
          show Oper.upon P o a K Q' ((callFunc f (first ++ c.args.map a.eval ++ cap)).run P w)
          rw [he]
          refine Calls.mono h fun e w' he => ?_
          cases e with
          | returned v => obtain ⟨x, rfl, hx⟩ := he; exact hK _ _ _ (Keep.put _ _ _) hx
          | panicked ch => exact he.elim
          | outgrown => exact he.elim
        | ef C => exact h.elim
      · exact (stuck_no h).elim
    · exact (stuck_no h).elim
  · rename_i c s ho
    split at h
    · rename_i x hc
      split at h
      · rename_i l first cap hx
        cases hmd with
        | pl => exact (hy rfl _ _ ho rfl).elim
        | ef C => exact h.elim
      · exact (stuck_no h).elim
    · exact (stuck_no h).elim
  · rename_i sh s
    obtain ⟨x, w', hr, h⟩ := run_run h
    exact wp_of_value hr (hK _ _ _ (Keep.put _ _ _) h)
  · rename_i s
    obtain ⟨w', hr, h⟩ := act_run h
    unfold Oper.wp
    rw [hr]
    exact hK _ _ _ (Keep.put _ _ _) h
  · rename_i cs s1 s2
    cases hmd with
    | pl =>
      rcases h with ⟨x, w', hr, h⟩ | ⟨w', hr, h⟩
      · exact wp_of_value hr (hK _ _ _ (Keep.put _ _ _) h)
      · exact wp_of_value hr (hK _ _ _ (Keep.put _ _ _) h)
    | ef C => exact h.elim
  · exact opT_gen h hK hP
  · exact opT_gen h hK hP
theorem rowsIn_wide {row : String} {args : Array Value} {w : World} {n : Nat} {R : Value → World → Prop} (h : Rows P row args w R) : RowsIn Fence.wide n P row args w R :=
  fun c cs _ => let ⟨v, w', r, s⟩ := h c cs; ⟨v, w', r, stepsIn_wide.2 s⟩
theorem wpIn_of_wp {o : Oper} {a : Act} {w : World} {K : Act → World → Prop} {Q' : Exit → Act → World → Prop} (h : o.wp P a w K Q') : o.wpIn Fence.wide 0 P a w K Q' := by
  refine ⟨fun _ _ => trivial, ?_⟩
  unfold Oper.wp at h
  rw [show Fence.wide.round = none from rfl, Oper.semAt_none]
  revert h
  generalize (execOp a.eval o).run P w = r
  intro h
  cases r with
  | ok n w' =>
    cases n <;> try exact h.elim
    case value v => exact h
    case skip => exact h
    case defer d => exact h
    case enter f args => exact ⟨fun h => by simp [Fence.wide] at h, callsIn_wide.2 (by unfold Oper.upon at h; exact h)⟩
    case row row args => exact ⟨fun h => by simp [Fence.wide] at h, rowsIn_wide (by unfold Oper.upon at h; exact h)⟩
  | halt e w' => cases e <;> first | exact h | exact h.elim
theorem opT_soundIn {o : Oper} {a : Act} {s : Script} {k : Script → Act → T} {kp : Script → List PanicEntry → Act → T} {w : World} (h : wpT P R Q (opT P o a s k kp) .pl w)
    {K : Act → World → Prop} {Q' : Exit → Act → World → Prop} (hK : ∀ s a' w', Keep o.dst.toList a a' → wpT P R Q (k s a') .pl w' → K a' w') (hP : ∀ s ch w', wpT P R Q (kp s ch a) .pl w' → Q' (.panic ch) a w') :
    o.wpIn Fence.wide 0 P a w K Q' := by
  by_cases hy : ∃ c s', o.op = .call c ∧ s = .yl s'
  · obtain ⟨c, s', ho, rfl⟩ := hy
    unfold opT at h
    rw [ho] at h
    dsimp only at h
    split at h
    · rename_i x hc
      split at h
      · rename_i l first cap hx
        rw [wpT_yld] at h
        obtain ⟨fn, tmps, assign, body, hr, hR⟩ := h
        refine ⟨fun _ _ => trivial, ?_⟩
        rw [show Fence.wide.round = none from rfl, Oper.semAt_none, ex_value ho hc hx]
        show Oper.uponIn Fence.wide 0 P o a K Q' ((Instr.yield l (first ++ c.args.map a.eval)).run P w)
        rw [hr]
        refine ⟨fun h => by simp [Fence.wide] at h, hR.mono fun e w' he => ?_⟩
        cases e with
        | returned v =>
          cases v with
          | bool b => exact hK _ _ _ (Keep.put _ _ _) he
          | _ => exact he.elim
        | panicked ch => exact he.elim
        | outgrown => exact he.elim
      · exact (stuck_no h).elim
    · exact (stuck_no h).elim
  · exact wpIn_of_wp (opT_sound (fun _ c s' ho hs => hy ⟨c, s', ho, hs⟩) h hK hP)
/-- One operation, if its guard lets it. -/
theorem gop_sound {ops : Array Oper} {o : Oper} {a : Act} {s : Script} {k : Script → Act → T} {kp : Script → List PanicEntry → Act → T} {CC : World → Prop} {w : World} (h : wpT P R Q (opsT P ops [o] a s k kp)  (.ef CC) w)
    {K : Act → World → Prop} {Q' : Exit → Act → World → Prop} (hK : ∀ s a' w', Keep o.dst.toList a a' → wpT P R Q (k s a')  (.ef CC) w' → K a' w') (hP : ∀ s ch w', wpT P R Q (kp s ch a)  (.ef CC) w' → Q' (.panic ch) a w') :
    if Region.wanted o (yielded ops a.tmps) then o.wp P a w K Q' ∨ (o.asks P a w ∧ LetsOut Q') else K (a.put o.dst undef) w := by
  have go : ∀ (s : Script), wpT P R Q (opT P o a s k kp)  (.ef CC) w → o.wp P a w K Q' := fun s h => opT_sound (md := .ef CC) (fun e => by cases e) h hK hP
  have skip : ∀ (s : Script), wpT P R Q (k s (a.put o.dst undef))  (.ef CC) w → K (a.put o.dst undef) w := fun s h => hK _ _ _ (Keep.put a o.dst undef) h
  simp only [opsT] at h
  cases hg : o.guard with
  | none =>
    rw [hg] at h
    rw [if_pos (by simp [Region.wanted, hg])]
    exact .inl (go _ h)
  | some jw =>
    obtain ⟨j, want⟩ := jw
    rw [hg] at h
    dsimp only at h
    cases hy : yielded ops a.tmps j with
    | none =>
      rw [hy] at h
      rw [if_neg (by simp [Region.wanted, hg, hy])]
      exact skip _ h
    | some b =>
      rw [hy] at h
      dsimp only at h
      obtain ⟨ht, hf⟩ := exam_sound h
      cases b
      · obtain ⟨s', h'⟩ := hf rfl
        rw [yielded_same hy] at h'
        cases want
        · rw [if_pos (by simp [Region.wanted, hg, hy])]
          exact .inl (go _ h')
        · rw [if_neg (by simp [Region.wanted, hg, hy])]
          exact skip _ h'
      · obtain ⟨s', h'⟩ := ht rfl
        rw [yielded_same hy] at h'
        cases want
        · rw [if_neg (by simp [Region.wanted, hg, hy])]
          exact skip _ h'
        · rw [if_pos (by simp [Region.wanted, hg, hy])]
          exact .inl (go _ h')
theorem opsT_sound {ops : Array Oper} {k : Script → Act → T} {kp : Script → List PanicEntry → Act → T} {Q' : Exit → Act → World → Prop} :
    ∀ (l : List Oper) (a : Act) (s : Script) (w : World), (∀ s a' w', Keep (dsts l) a a' → wpT P R Q (k s a') .pl w' → Q' .normal a' w') → (∀ s ch a' w', Keep (dsts l) a a' → wpT P R Q (kp s ch a') .pl w' → Q' (.panic ch) a' w') →
    wpT P R Q (opsT P ops l a s k kp) .pl w → wpListIn Fence.wide 0 P ops Q' l a w := by
  intro l
  induction l with
  | nil => intro a s w hK hP h; exact hK _ _ _ (Keep.refl _ _) h
  | cons o rest ih =>
    intro a s w hK hP h
    rw [dsts_cons] at hK hP
    have go : ∀ (s : Script), wpT P R Q (opT P o a s (fun s a => opsT P ops rest a s k kp) kp) .pl w → o.wpIn Fence.wide 0 P a w (wpListIn Fence.wide 0 P ops Q' rest) Q' := fun s h =>
      opT_soundIn h (fun s a' w' hk h => ih a' s w' (fun s a2 w2 hk2 h2 => hK s a2 w2 (hk.trans hk2) h2) (fun s ch a2 w2 hk2 h2 => hP s ch a2 w2 (hk.trans hk2) h2) h)
        (fun s ch w' h => hP _ _ _ _ (Keep.refl _ _) h)
    have skip : ∀ (s : Script), wpT P R Q (opsT P ops rest (a.put o.dst undef) s k kp) .pl w → wpListIn Fence.wide 0 P ops Q' rest (a.put o.dst undef) w := fun s h =>
      ih _ s w (fun s a2 w2 hk2 h2 => hK s a2 w2 ((Keep.put a o.dst undef).trans hk2) h2) (fun s ch a2 w2 hk2 h2 => hP s ch a2 w2 ((Keep.put a o.dst undef).trans hk2) h2) h
    unfold opsT at h
    unfold wpListIn
    cases hg : o.guard with
    | none =>
      rw [hg] at h
      rw [if_pos (by simp [Region.wanted, hg])]
      exact go _ h
    | some jw =>
      obtain ⟨j, want⟩ := jw
      rw [hg] at h
      dsimp only at h
      cases hy : yielded ops a.tmps j with
      | none =>
        rw [hy] at h
        rw [if_neg (by simp [Region.wanted, hg, hy])]
        exact ⟨fun _ _ => trivial, skip _ h⟩
      | some b =>
        rw [hy] at h
        dsimp only at h
        obtain ⟨ht, hf⟩ := exam_sound h
        cases b
        · obtain ⟨s', h'⟩ := hf rfl
          rw [yielded_same hy] at h'
          cases want
          · rw [if_pos (by simp [Region.wanted, hg, hy])]
            exact go _ h'
          · rw [if_neg (by simp [Region.wanted, hg, hy])]
            exact ⟨fun _ _ => trivial, skip _ h'⟩
        · obtain ⟨s', h'⟩ := ht rfl
          rw [yielded_same hy] at h'
          cases want
          · rw [if_neg (by simp [Region.wanted, hg, hy])]
            exact ⟨fun _ _ => trivial, skip _ h'⟩
          · rw [if_pos (by simp [Region.wanted, hg, hy])]
            exact go _ h'
/-! A region that draws its order -/
theorem quiet_of_value {o : Oper} {a : Act} {C : World → Prop} {v : Value} {K : Act → Prop} (h : ∀ w, C w → (execOp a.eval o).run P w = .ok (.value v) w) (hk : K (a.put o.dst v)) : o.quiet P a C K :=
  ⟨v, fun w hw => by unfold Oper.quietAt; rw [h w hw]; exact ⟨rfl, rfl⟩, hk⟩
theorem opT_qgen {C : World → Prop} {o : Oper} {a : Act} {s : Script} {k : Script → Act → T} {w : World} (h : wpT P R Q (ofSem P (execOp a.eval o) s (fun s n => nextT o a s k (fun _ _ _ => .stuck) n) (fun _ _ => .stuck)) (.qu C) w)
    {K : Act → Prop} (hK : ∀ s a', Keep o.dst.toList a a' → wpT P R Q (k s a') (.qu C) w → K a') : o.quiet P a C K := by
  have kp := fun v => Keep.put a o.dst v
  obtain ⟨n, s', hr, hn⟩ := ofSem_quiet _ _ _ _ h
  cases n <;> try exact hn.elim
  case value v => exact quiet_of_value hr (hK _ _ (kp _) hn)
  case skip => exact ⟨undef, fun w hw => by unfold Oper.quietAt; rw [hr w hw]; exact ⟨rfl, rfl⟩, hK _ _ (kp _) hn⟩
  case enter f args =>
    simp only [nextT] at hn
    cases s' <;> try exact hn.elim
    obtain ⟨x, hc, hn⟩ := hn
    exact ⟨_, fun w hw => by unfold Oper.quietAt; rw [hr w hw]; exact ⟨rfl, hc w hw⟩, hK _ _ (kp _) hn⟩
theorem opT_quiet {C : World → Prop} {o : Oper} {a : Act} {s : Script} {k : Script → Act → T} {w : World} (h : wpT P R Q (opT P o a s k (fun _ _ _ => .stuck)) (.qu C) w)
    {K : Act → Prop} (hK : ∀ s a', Keep o.dst.toList a a' → wpT P R Q (k s a') (.qu C) w → K a') : o.quiet P a C K := by
  have kp := fun v => Keep.put a o.dst v
  unfold opT at h
  split at h
  · rename_i c x y s ho
    split at h
    · rename_i b hc
      obtain ⟨ht, hf⟩ := exam_sound h
      refine quiet_of_value (fun w _ => ex_pick ho hc w) ?_
      cases b
      · obtain ⟨s', h'⟩ := hf rfl
        rw [setO_same hc] at h'
        exact hK _ _ (kp _) h'
      · obtain ⟨s', h'⟩ := ht rfl
        rw [setO_same hc] at h'
        exact hK _ _ (kp _) h'
    · exact h.elim
  · rename_i t x i s ho
    split at h
    · rename_i e base len cap kk n hu hx hi
      split at h
      · rename_i inf hf
        obtain ⟨ad, rfl, h0, h1, h⟩ := h
        exact quiet_of_value (fun w _ => ex_indexAddr ho hu hx hi hf h0 h1 w) (hK _ _ (kp _) h)
      · exact h.elim
    · rename_i len e base kk n hu hx hi
      split at h
      · rename_i inf hf
        obtain ⟨ad, rfl, h0, h1, h⟩ := h
        exact quiet_of_value (fun w _ => ex_indexArr ho hu hx hi hf h0 h1 w) (hK _ _ (kp _) h)
      · exact h.elim
    · exact h.elim
  · rename_i t x i s ho
    split at h
    · rename_i b kk n hu hx hi
      obtain ⟨h0, h1, h⟩ := h
      exact quiet_of_value (fun w _ => ex_index ho hu hx hi h0 h1 w) (hK _ _ (kp _) h)
    · exact h.elim
  · rename_i x s ho
    split at h
    · rename_i p hx
      obtain ⟨h1, h2⟩ := h
      cases p with
      | none => exact (h2 rfl).elim
      | some ad => exact quiet_of_value (fun w _ => ex_nilCheck ho hx w) (hK _ _ (kp _) (h1 _ rfl))
    · exact h.elim
  · rename_i t x lo hi s ho
    split at h
    · rename_i b hu hx
      split at h
      · rename_i l hh hl hh'
        obtain ⟨hd, h⟩ := h
        obtain ⟨h0, h1, h2⟩ := of_decide_eq_true hd
        exact quiet_of_value (fun w _ => ex_slice_str ho hu hx hl hh' h0 h1 h2 w) (hK _ _ (kp _) h)
      · exact h.elim
    · rename_i e base len cap hu hx
      split at h
      · rename_i l hh inf hl hh' hf
        obtain ⟨hd, h⟩ := h
        obtain ⟨h0, h1, h2⟩ := of_decide_eq_true hd
        exact quiet_of_value (fun w _ => ex_slice_sl ho hu hx hf hl hh' h0 h1 h2 w) (hK _ _ (kp _) h)
      · exact h.elim
    · exact h.elim
  · rename_i t x y t' s ho
    split at h
    · rename_i p q hx hy
      obtain ⟨hd, h⟩ := h
      exact quiet_of_value (fun w _ => ex_add_str ho hx hy (of_decide_eq_true hd) w) (hK _ _ (kp _) h)
    · exact h.elim
  · rename_i c sh s ho
    split at h
    · rename_i x hc
      split at h
      · rename_i f first cap hx
        exact h.elim
      · exact h.elim
    · exact h.elim
  · rename_i c s ho
    split at h
    · rename_i x hc
      split at h
      · rename_i l first cap hx
        exact h.elim
      · exact h.elim
    · exact h.elim
  · rename_i sh s
    obtain ⟨x, hr, h⟩ := h
    exact quiet_of_value hr (hK _ _ (kp _) h)
  · exact h.elim
  · exact h.elim
  · exact opT_qgen h hK
  · exact opT_qgen h hK
theorem opsT_quiet {C : World → Prop} {ops : Array Oper} {k : Script → Act → T} {w : World} {K : Act → Prop} :
    ∀ (l : List Oper) (a : Act) (s : Script), (∀ s a', Keep (dsts l) a a' → wpT P R Q (k s a') (.qu C) w → K a') → wpT P R Q (opsT P ops l a s k (fun _ _ _ => .stuck)) (.qu C) w → wpQuiet P ops C K l a := by
  intro l
  induction l with
  | nil => intro a s hK h; exact hK _ _ (Keep.refl _ _) h
  | cons o rest ih =>
    intro a s hK h
    rw [dsts_cons] at hK
    have go : ∀ (s : Script), wpT P R Q (opT P o a s (fun s a => opsT P ops rest a s k (fun _ _ _ => .stuck)) (fun _ _ _ => .stuck)) (.qu C) w → o.quiet P a C (wpQuiet P ops C K rest) := fun s h =>
      opT_quiet h (fun s a' hk h => ih a' s (fun s a2 hk2 h2 => hK s a2 (hk.trans hk2) h2) h)
    have skip : ∀ (s : Script), wpT P R Q (opsT P ops rest (a.put o.dst undef) s k (fun _ _ _ => .stuck)) (.qu C) w → wpQuiet P ops C K rest (a.put o.dst undef) := fun s h =>
      ih _ s (fun s a2 hk2 h2 => hK s a2 ((Keep.put a o.dst undef).trans hk2) h2) h
    unfold opsT at h
    unfold wpQuiet
    cases hg : o.guard with
    | none =>
      rw [hg] at h
      rw [if_pos (by simp [Region.wanted, hg])]
      exact go _ h
    | some jw =>
      obtain ⟨j, want⟩ := jw
      rw [hg] at h
      dsimp only at h
      cases hy : yielded ops a.tmps j with
      | none =>
        rw [hy] at h
        rw [if_neg (by simp [Region.wanted, hg, hy])]
        exact skip _ h
      | some b =>
        rw [hy] at h
        dsimp only at h
        obtain ⟨ht, hf⟩ := exam_sound h
        cases b
        · obtain ⟨s', h'⟩ := hf rfl
          rw [yielded_same hy] at h'
          cases want
          · rw [if_pos (by simp [Region.wanted, hg, hy])]
            exact go _ h'
          · rw [if_neg (by simp [Region.wanted, hg, hy])]
            exact skip _ h'
        · obtain ⟨s', h'⟩ := ht rfl
          rw [yielded_same hy] at h'
          cases want
          · rw [if_neg (by simp [Region.wanted, hg, hy])]
            exact skip _ h'
          · rw [if_pos (by simp [Region.wanted, hg, hy])]
            exact go _ h'
/-- One value in every world of the class, the world left as it is. -/
def Still (P : Program) (o : Oper) (a : Act) (C : World → Prop) (K : Act → Prop) : Prop := ∃ v, (∀ w, C w → (execOp a.eval o).run P w = .ok (.value v) w) ∧ K (a.put o.dst v)
theorem still_of_value {o : Oper} {a : Act} {C : World → Prop} {v : Value} {K : Act → Prop} (h : ∀ w, C w → (execOp a.eval o).run P w = .ok (.value v) w) (hk : K (a.put o.dst v)) : Still P o a C K := ⟨v, h, hk⟩
theorem v_value {s : Sem Value} {w w' : World} {n : Next} (h : (do pure (.value (← s)) : Sem Next).run P w = .ok n w') : n ≠ .skip := by
  simp only [Sem.run_bind] at h
  cases hs : s.run P w with
  | ok x w1 => rw [hs] at h; simp [Result.andThen] at h; rw [← h.1]; simp
  | halt x w1 => rw [hs] at h; simp [Result.andThen] at h
theorem noSkip_spec {o : Oper} (ho : noSkip o.op = true) {ρ : Operand → Value} {w w' : World} {n : Next} (h : (execOp ρ o).run P w = .ok n w') : n ≠ .skip := by
  unfold execOp at h
  split at h <;> rename_i he <;> rw [he] at ho <;> simp only [noSkip] at ho <;> first | exact v_value h | (cases ho; done) | skip
  · simp [Sem.run] at h; rw [← h.1]; simp
  · simp [Sem.run] at h; rw [← h.1]; simp
  · rename_i c x y
    simp only [Sem.run_bind] at h
    cases hs : (asBool (ρ c)).run P w with
    | ok b w1 => rw [hs] at h; simp [Result.andThen] at h; rw [← h.1]; simp
    | halt b w1 => rw [hs] at h; simp [Result.andThen] at h
  · dsimp only at h
    split at h
    · simp [runtimePanic] at h
    · simp [runtimePanic] at h
    · simp [runtimePanic] at h
    · split at h
      · simp [runtimePanic] at h
      · simp only [Sem.run_bind, Result.andThen] at h
        split at h
        · split at h
          · split at h
            · simp [unsupported, Result.andThen] at h
            · simp at h; rw [← h.1]; simp
          · cases h
        · cases h
      · simp at h; rw [← h.1]; simp
    · simp at h; rw [← h.1]; simp
  · rename_i c
    split at ho
    · rename_i hc
      simp only [resolve, hc, Sem.run_bind] at h
      exact v_value h
    · rename_i hc
      simp only [resolve, hc, Sem.run_bind] at h
      exact v_value h
    · cases ho
theorem opT_hgen {C : World → Prop} {o : Oper} (hns : noSkip o.op = true) {a : Act} {s : Script} {k : Script → Act → T} {w wC : World} (hC : C wC) (h : wpT P R Q (ofSem P (execOp a.eval o) s (fun s n => nextT o a s k (fun _ _ _ => .stuck) n) (fun _ _ => .stuck)) (.he C) w)
    {K : Act → Prop} (hK : ∀ s a', Keep o.dst.toList a a' → wpT P R Q (k s a') (.he C) w → K a') : Still P o a C K := by
  have kp := fun v => Keep.put a o.dst v
  obtain ⟨n, s', hr, hn⟩ := ofSem_held _ _ _ _ h
  cases n <;> try exact hn.elim
  case value v => exact still_of_value hr (hK _ _ (kp _) hn)
  case skip => exact absurd rfl (noSkip_spec hns (hr wC hC))
  case enter f args =>
    simp only [nextT] at hn
    cases s' <;> exact hn.elim
theorem opT_held {C : World → Prop} {o : Oper} (hns : noSkip o.op = true) {a : Act} {s : Script} {k : Script → Act → T} {w wC : World} (hC : C wC) (h : wpT P R Q (opT P o a s k (fun _ _ _ => .stuck)) (.he C) w)
    {K : Act → Prop} (hK : ∀ s a', Keep o.dst.toList a a' → wpT P R Q (k s a') (.he C) w → K a') : Still P o a C K := by
  have kp := fun v => Keep.put a o.dst v
  unfold opT at h
  split at h
  · rename_i c x y s ho
    split at h
    · rename_i b hc
      obtain ⟨ht, hf⟩ := exam_sound h
      refine still_of_value (fun w _ => ex_pick ho hc w) ?_
      cases b
      · obtain ⟨s', h'⟩ := hf rfl
        rw [setO_same hc] at h'
        exact hK _ _ (kp _) h'
      · obtain ⟨s', h'⟩ := ht rfl
        rw [setO_same hc] at h'
        exact hK _ _ (kp _) h'
    · exact h.elim
  · rename_i t x i s ho
    split at h
    · rename_i e base len cap kk n hu hx hi
      split at h
      · rename_i inf hf
        obtain ⟨ad, rfl, h0, h1, h⟩ := h
        exact still_of_value (fun w _ => ex_indexAddr ho hu hx hi hf h0 h1 w) (hK _ _ (kp _) h)
      · exact h.elim
    · rename_i len e base kk n hu hx hi
      split at h
      · rename_i inf hf
        obtain ⟨ad, rfl, h0, h1, h⟩ := h
        exact still_of_value (fun w _ => ex_indexArr ho hu hx hi hf h0 h1 w) (hK _ _ (kp _) h)
      · exact h.elim
    · exact h.elim
  · rename_i t x i s ho
    split at h
    · rename_i b kk n hu hx hi
      obtain ⟨h0, h1, h⟩ := h
      exact still_of_value (fun w _ => ex_index ho hu hx hi h0 h1 w) (hK _ _ (kp _) h)
    · exact h.elim
  · rename_i x s ho
    split at h
    · rename_i p hx
      obtain ⟨h1, h2⟩ := h
      cases p with
      | none => exact (h2 rfl).elim
      | some ad => exact still_of_value (fun w _ => ex_nilCheck ho hx w) (hK _ _ (kp _) (h1 _ rfl))
    · exact h.elim
  · rename_i t x lo hi s ho
    split at h
    · rename_i b hu hx
      split at h
      · rename_i l hh hl hh'
        obtain ⟨hd, h⟩ := h
        obtain ⟨h0, h1, h2⟩ := of_decide_eq_true hd
        exact still_of_value (fun w _ => ex_slice_str ho hu hx hl hh' h0 h1 h2 w) (hK _ _ (kp _) h)
      · exact h.elim
    · rename_i e base len cap hu hx
      split at h
      · rename_i l hh inf hl hh' hf
        obtain ⟨hd, h⟩ := h
        obtain ⟨h0, h1, h2⟩ := of_decide_eq_true hd
        exact still_of_value (fun w _ => ex_slice_sl ho hu hx hf hl hh' h0 h1 h2 w) (hK _ _ (kp _) h)
      · exact h.elim
    · exact h.elim
  · rename_i t x y t' s ho
    split at h
    · rename_i p q hx hy
      obtain ⟨hd, h⟩ := h
      exact still_of_value (fun w _ => ex_add_str ho hx hy (of_decide_eq_true hd) w) (hK _ _ (kp _) h)
    · exact h.elim
  · rename_i c sh s ho
    split at h
    · rename_i x hc
      split at h
      · rename_i f first cap hx
        exact h.elim
      · exact h.elim
    · exact h.elim
  · rename_i c s ho
    split at h
    · rename_i x hc
      split at h
      · rename_i l first cap hx
        exact h.elim
      · exact h.elim
    · exact h.elim
  · rename_i sh s
    obtain ⟨x, hr, h⟩ := h
    exact still_of_value hr (hK _ _ (kp _) h)
  · exact h.elim
  · exact h.elim
  · exact opT_hgen hns hC h hK
  · exact opT_hgen hns hC h hK
theorem put_d (a : Act) (d : Option Tmp) (v : Value) : (a.put d v).defers = a.defers := by cases d <;> rfl
theorem gop_held {C : World → Prop} {ops : Array Oper} {o : Oper} (hns : noSkip o.op = true) {wC : World} (hC : C wC) {a : Act} {s : Script} {k : Script → Act → T} {w : World} (h : wpT P R Q (opsT P ops [o] a s k (fun _ _ _ => .stuck)) (.he C) w) :
    ∃ v s', YieldsIf P ops C o v a ∧ Keep o.dst.toList a (a.put o.dst v) ∧ wpT P R Q (k s' (a.put o.dst v)) (.he C) w := by
  have go : ∀ (s : Script), Region.wanted o (yielded ops a.tmps) = true → wpT P R Q (opT P o a s k (fun _ _ _ => .stuck)) (.he C) w → ∃ v s', YieldsIf P ops C o v a ∧ Keep o.dst.toList a (a.put o.dst v) ∧ wpT P R Q (k s' (a.put o.dst v)) (.he C) w := fun s hw h => by
    obtain ⟨v, hv, hk, s', h'⟩ := opT_held hns hC (K := fun a' => Keep o.dst.toList a a' ∧ ∃ s', wpT P R Q (k s' a') (.he C) w) h (fun s a' hk h => ⟨hk, s, h⟩)
    exact ⟨v, s', .inl ⟨hw, hv⟩, hk, h'⟩
  have skip : ∀ (s : Script), Region.wanted o (yielded ops a.tmps) = false → wpT P R Q (k s (a.put o.dst undef)) (.he C) w → ∃ v s', YieldsIf P ops C o v a ∧ Keep o.dst.toList a (a.put o.dst v) ∧ wpT P R Q (k s' (a.put o.dst v)) (.he C) w := fun s hw h =>
    ⟨undef, s, .inr ⟨hw, rfl⟩, Keep.put _ _ _, h⟩
  simp only [opsT] at h
  cases hg : o.guard with
  | none =>
    rw [hg] at h
    exact go _ (by simp [Region.wanted, hg]) h
  | some jw =>
    obtain ⟨j, want⟩ := jw
    rw [hg] at h
    dsimp only at h
    cases hy : yielded ops a.tmps j with
    | none =>
      rw [hy] at h
      exact skip _ (by simp [Region.wanted, hg, hy]) h
    | some b =>
      rw [hy] at h
      dsimp only at h
      obtain ⟨ht, hf⟩ := exam_sound h
      cases b
      · obtain ⟨s', h'⟩ := hf rfl
        rw [yielded_same hy] at h'
        cases want
        · exact go _ (by simp [Region.wanted, hg, hy]) h'
        · exact skip _ (by simp [Region.wanted, hg, hy]) h'
      · obtain ⟨s', h'⟩ := ht rfl
        rw [yielded_same hy] at h'
        cases want
        · exact skip _ (by simp [Region.wanted, hg, hy]) h'
        · exact go _ (by simp [Region.wanted, hg, hy]) h'
/-- What is asked behind a held region. -/
def heldPost (R : Ending → World → Prop) (N : Act → World → Prop) : Exit → Act → World → Prop
  | .normal, a, w => N a w
  | .panic ch, a, w => a.defers = [] ∧ R (.panicked ch) w
  | _, _, _ => False
theorem dsts_mem {ops : Array Oper} {i : Nat} {o : Oper} (hi : ops[i]? = some o) (t : Tmp) (ht : t ∈ o.dst.toList) : t ∈ dsts ops.toList := by
  unfold dsts
  rw [List.mem_filterMap]
  refine ⟨o, ?_, by simpa using ht⟩
  have := List.mem_of_getElem? (l := ops.toList) (i := i) (a := o) (by simpa using hi)
  exact this
theorem heldT_sound {S : World → Prop} {ops : Array Oper} {k : Script → Act → T} {N : Act → World → Prop} (hns : Region.noSelect ops = true) : ∀ (fuel : Nat) (listed : Array Bool) (a : Act) (s : Script) (w : World), S w →
    (∀ s a' w', Keep (dsts ops.toList) a a' → wpT P R Q (k s a') .pl w' → N a' w') → wpT P R Q (heldT P ops k fuel listed a s) (.he S) w → wpAnyH P .any ops (heldPost R N) S fuel listed a w := by
  intro fuel
  induction fuel with
  | zero =>
    intro listed a s w hS hK h
    unfold heldT at h
    split at h
    · rename_i he
      refine ⟨by simpa using he, hK _ _ _ (Keep.refl _ _) h⟩
    · exact h.elim
  | succ fuel ih =>
    intro listed a s w hS hK h
    have eff : ∀ {i : Nat} {o : Oper} {s : Script}, ops[i]? = some o → wpT P R Q (opsT P ops [o] a s (fun s a => .back (heldT P ops k fuel (listed.setIfInBounds i true) a s)) (fun _ ch a => match a.defers with
        | [] => .done (.panicked ch)
        | _ => .stuck)) (.ef S) w → wpOp P ops (heldPost R N) i (fun a' w' => S w' ∧ wpAnyH P .any ops (heldPost R N) S fuel (listed.setIfInBounds i true) a' w') a w := fun {i o s} hi h => by
      unfold wpOp
      rw [hi]
      refine gop_sound h (fun s a' w' hk h => ?_) (fun s ch w' h => ?_)
      · obtain ⟨hS', h⟩ := h
        exact ⟨hS', ih _ _ _ _ hS' (fun s a2 w2 hk2 h2 => hK s a2 w2 ((hk.mono (dsts_mem hi)).trans hk2 |>.mono (fun t ht => by simpa using ht)) h2) h⟩
      · split at h
        · rename_i hd; exact ⟨hd, h⟩
        · exact h.elim
    unfold heldT at h
    split at h
    · rename_i i s
      split at h
      · rename_i o hi hc
        rw [Bool.and_eq_true] at hc
        split at h
        · rename_i hsk
          obtain ⟨v, s', hy, hk, h⟩ := gop_held hsk hS h
          exact wpAnyH_take hi hns hc.1 hc.2 (fun c a' w' h => ⟨(put_d _ _ _).symm.trans h.1, h.2⟩) hy hS (ih _ _ _ _ hS (fun s a2 w2 hk2 h2 => hK s a2 w2 ((hk.mono (dsts_mem hi)).trans hk2 |>.mono (fun t ht => by simpa using ht)) h2) h)
        · exact h.elim
      · exact h.elim
    · rename_i i s
      split at h
      · rename_i o hi hr
        refine wpAnyH_all (rs := [i]) (by simpa using hr) (by simp) fun j hj => ?_
        obtain rfl : j = i := by simpa using hj
        exact eff hi h
      · exact h.elim
    · rename_i i s r
      split at h
      · rename_i hr
        have hr : Region.ready .any ops listed = (alts (.hl i s r)).map (·.1) := by simpa using hr
        refine wpAnyH_all hr (by simp [alts]) ?_
        generalize alts (.hl i s r) = l at h
        induction l with
        | nil => intro j hj; simp at hj
        | cons p l ihl =>
          intro j hj
          obtain ⟨h1, h2⟩ := h
          rcases (by simpa using hj : j = p.1 ∨ j ∈ l.map (·.1)) with rfl | hj
          · split at h1
            · rename_i o hi
              exact eff hi h1
            · exact h1.elim
          · exact ihl h2 j hj
      · exact h.elim
    · exact h.elim
/-! ### Frames -/
theorem mkA_size (n : Nat) (L : List (Tmp × Value)) (g : Nat → Value) : (mkA n L g).tmps.size = n := by simp [mkA]
theorem mkA_get {n : Nat} {L : List (Tmp × Value)} {g : Nat → Value} {i : Nat} (h : i < n) : (mkA n L g).tmps[i]? = some ((lookT L i).getD (g i)) := by
  simp [mkA, h]
theorem lookT_append (L M : List (Tmp × Value)) (i : Nat) : lookT (L ++ M) i = (lookT L i).or (lookT M i) := by
  induction L with
  | nil => rfl
  | cons p r ih =>
    simp only [List.cons_append, lookT]
    cases Nat.beq p.1 i
    · exact ih
    · rfl
theorem lookT_lives (a : Act) (ts : List Tmp) (i : Nat) : lookT (lives a ts) i = if i ∈ ts then some (a.tmps.getD i undef) else none := by
  induction ts with
  | nil => rfl
  | cons t r ih =>
    simp only [lives, List.map_cons, lookT]
    cases hb : Nat.beq t i
    · have hne : i ≠ t := fun e => by subst e; simp at hb
      simp only [List.mem_cons, hne, false_or]
      exact ih
    · have he : t = i := Nat.eq_of_beq_eq_true hb
      simp [he]
theorem lookT_none {L : List (Tmp × Value)} {i : Nat} (h : i ∉ L.map (·.1)) : lookT L i = none := by
  induction L with
  | nil => rfl
  | cons p r ih =>
    simp only [List.map_cons, List.mem_cons, not_or] at h
    simp only [lookT]
    cases hb : Nat.beq p.1 i
    · exact ih h.2
    · exact absurd (Nat.eq_of_beq_eq_true hb).symm h.1
theorem lookT_some {L : List (Tmp × Value)} {i : Nat} (h : i ∈ L.map (·.1)) : ∃ v, lookT L i = some v := by
  induction L with
  | nil => cases h
  | cons p r ih =>
    simp only [lookT]
    cases hb : Nat.beq p.1 i
    · simp only [List.map_cons, List.mem_cons] at h
      refine ih (h.resolve_left fun e => ?_)
      subst e
      simp at hb
    · exact ⟨_, rfl⟩
theorem mvals_keys : ∀ (ms : List (Tmp × Comp)) (v : MVars ms), (mvals ms v).map (·.1) = ms.map (·.1)
  | [], _ => rfl
  | m :: r, v => by simp only [mvals, List.map_cons]; rw [mvals_keys r v.2]
theorem act_ext {a b : Act} (hs : a.tmps.size = b.tmps.size) (hd : a.defers = b.defers) (h : ∀ i, i < a.tmps.size → a.tmps[i]? = b.tmps[i]?) : a = b := by
  cases a with
  | mk t d =>
    cases b with
    | mk t' d' =>
      simp only at hs hd h
      subst hd
      have : t = t' := by
        apply Array.ext_getElem?
        intro i
        rcases Nat.lt_or_ge i t.size with hi | hi
        · exact h i hi
        · rw [Array.getElem?_eq_none hi, Array.getElem?_eq_none (by omega)]
      rw [this]
theorem mkA_self {a : Act} (hd : a.defers = []) (ts us : List Tmp) : mkA a.tmps.size (lives a ts ++ lives a us) (fun t => a.tmps.getD t undef) = a := by
  refine act_ext (mkA_size _ _ _) (by simp [mkA, hd]) fun i hi => ?_
  rw [mkA_size] at hi
  rw [mkA_get hi, lookT_append, lookT_lives, lookT_lives, Array.getElem?_eq_getElem hi]
  have : a.tmps.getD i undef = a.tmps[i] := by simp [Array.getD, hi]
  split <;> (try split) <;> simp [this]
theorem mkA_self1 {a : Act} (hd : a.defers = []) (ts : List Tmp) : mkA a.tmps.size (lives a ts) (fun t => a.tmps.getD t undef) = a := by
  simpa [lives] using mkA_self hd ts []
theorem mkD_self (a : Act) (ts : List Tmp) : mkD a.tmps.size (lives a ts) (fun t => a.tmps.getD t undef) a.defers = a := by
  obtain ⟨tm, ds⟩ := a
  have := mkA_self1 (a := ⟨tm, []⟩) rfl ts
  have h : ((List.range tm.size).map fun i => (lookT (lives ⟨tm, ds⟩ ts) i).getD (tm.getD i undef)).toArray = tm := congrArg Act.tmps this
  show Act.mk _ ds = _
  rw [h]
theorem within_mem {ms : List (Tmp × Comp)} {c : Code} (h : within ms c = true) {t : Tmp} (ht : t ∈ ms.map (·.1)) : t ∈ wr c := by
  obtain ⟨m, hm, rfl⟩ := List.mem_map.1 ht
  have := List.all_eq_true.1 h m hm
  simpa using this
theorem keep_mkA {a : Act} {c : Code} {fx : List Tmp} {mx : List (Tmp × Comp)} (hw : within mx c = true) (v : MVars mx) {g' : Nat → Value} (hg : ∀ j, j ∉ wr c → g' j = a.tmps.getD j undef) :
    Keep (wr c) a (mkA a.tmps.size (lives a fx ++ mvals mx v) g') := by
  refine ⟨mkA_size _ _ _, fun t ht => ?_⟩
  rcases Nat.lt_or_ge t a.tmps.size with hi | hi
  · have h1 : lookT (mvals mx v) t = none := lookT_none (by rw [mvals_keys]; exact fun h => ht (within_mem hw h))
    have h2 : a.tmps.getD t undef = a.tmps[t] := by simp [Array.getD, hi]
    rw [mkA_get hi, lookT_append, lookT_lives, h1, Array.getElem?_eq_getElem hi, hg t ht]
    split <;> simp [h2]
  · rw [Array.getElem?_eq_none hi, Array.getElem?_eq_none (by rw [mkA_size]; exact hi)]
theorem keep_mkD {a : Act} {c : Code} {fx : List Tmp} {mx : List (Tmp × Comp)} (hw : within mx c = true) (v : MVars mx) {g' : Nat → Value} (hg : ∀ j, j ∉ wr c → g' j = a.tmps.getD j undef) (ds : List Deferred) :
    Keep (wr c) a (mkD a.tmps.size (lives a fx ++ mvals mx v) g' ds) := keep_mkA hw v hg
theorem codeT_sound (hm : P.follows .mixedOrders = true) (c : Code) : ∀ {k : Script → Exit → Act → T} {Q' : Exit → Act → World → Prop} (a : Act) (s : Script) (w : World),
    (∀ ch a w, a.defers = [] → R (.panicked ch) w → Q' (.panic ch) a w) →
    (∀ s e a' w', Keep (wr c) a a' → wpT P R Q (k s e a') .pl w' → Q' e a' w') → wpT P R Q (codeT P c a s k) .pl w → c.wp P Q' a w := by
  induction c with
  | skip => intro k Q' a s w HP hK h; exact wp_skip (hK _ _ _ _ (Keep.refl _ _) h)
  | region id ops d =>
    intro k Q' a s w HP hK h
    cases d with
    | false => exact wpIn_wide.1 (wpIn_region_list (opsT_sound _ _ _ _ (fun s a' w' hk h => hK _ _ _ _ hk h) (fun s ch a' w' hk h => hK _ _ _ _ hk h) h))
    | true =>
      unfold codeT at h
      split at h
      · rename_i s
        split at h
        · rename_i hB
          obtain ⟨C, hC, h⟩ := h
          refine wp_region_quiet (C := C) hm hB hC ?_
          refine opsT_quiet (w := w) _ _ _ (fun s a' hk h => ?_) h
          exact fun w' hw' => hK _ _ _ _ hk (h w' hw')
        · exact h.elim
      · rename_i s
        split at h
        · rename_i hns
          obtain ⟨S, hS, h⟩ := h
          refine wp_mono (wp_region_held (S := S) hm (heldT_sound (N := fun a' w' => Q' .normal a' w') hns _ _ _ _ _ hS (fun s a' w' hk h => hK _ _ _ _ hk h) h)) ?_
          intro e a' w' h
          cases e with
          | normal => exact h
          | panic ch => exact HP _ _ _ h.1 h.2
          | _ => exact h.elim
        · exact h.elim
      · exact h.elim
  | seq x y ihx ihy =>
    intro k Q' a s w HP hK h
    have hK' : ∀ s e a' w', Keep (wr x ++ wr y) a a' → wpT P R Q (k s e a') .pl w' → Q' e a' w' := hK
    unfold codeT at h
    split at h
    · refine wp_seq (ihx _ _ _ HP ?_ h)
      intro s e a' w' hk h
      cases e with
      | normal => exact ihy _ _ _ HP (fun s e a2 w2 hk2 h2 => hK' s e a2 w2 (hk.trans hk2) h2) h
      | outgrown => exact h.elim
      | _ => exact hK' _ _ _ _ (hk.mono fun t ht => List.mem_append_left _ ht) h
    · refine wp_seq (ihx _ _ _ HP ?_ h)
      intro s e a' w' hk h
      cases e with
      | normal => exact ihy _ _ _ HP (fun s e a2 w2 hk2 h2 => hK' s e a2 w2 (hk.trans hk2) h2) h
      | outgrown => exact h.elim
      | _ => exact hK' _ _ _ _ (hk.mono fun t ht => List.mem_append_left _ ht) h
    · rename_i fx L mx mr s sr
      split at h
      · rename_i hd hw
        rw [Bool.and_eq_true] at hw
        rw [wpT_cutr] at h
        have h' := h (fun t => a.tmps.getD t undef)
        rw [mkA_self hd] at h'
        refine wp_seq (wp_mono h' ?_)
        intro e a' w' h
        cases e with
        | normal =>
          obtain ⟨v, g', hg, rfl, h⟩ := h
          exact ihy _ _ _ HP (fun s e a2 w2 hk h2 => hK' s e a2 w2 ((keep_mkA hw.1 v hg).trans hk) h2) h
        | ret =>
          obtain ⟨v, g', hg, rfl, h⟩ := h
          cases hr : hasRet x with
          | true => simp only [hr] at h; exact hK' _ _ _ _ ((keep_mkA hw.2 v hg).mono fun t ht => List.mem_append_left _ ht) h
          | false => simp only [hr] at h; exact h.elim
        | panic ch => exact HP _ _ _ h.1 h.2
        | _ => exact h.elim
      · exact h.elim
    · rename_i fx mx s
      split at h
      · rename_i hd hw
        rw [wpT_cut] at h
        have h' := h (fun t => a.tmps.getD t undef)
        rw [mkA_self1 hd] at h'
        refine wp_seq (wp_mono h' ?_)
        intro e a' w' h
        cases e with
        | normal =>
          obtain ⟨v, g', hg, rfl, h⟩ := h
          exact ihy _ _ _ HP (fun s e a2 w2 hk h2 => hK' s e a2 w2 ((keep_mkA hw v hg).trans hk) h2) h
        | panic ch => exact HP _ _ _ h.1 h.2
        | _ => exact h.elim
      · exact h.elim
    · refine wp_seq (ihx _ _ _ HP ?_ h)
      intro s e a' w' hk h
      cases e with
      | normal => exact ihy _ _ _ HP (fun s e a2 w2 hk2 h2 => hK' s e a2 w2 (hk.trans hk2) h2) h
      | outgrown => exact h.elim
      | _ => exact hK' _ _ _ _ (hk.mono fun t ht => List.mem_append_left _ ht) h
  | cond c x y ihx ihy =>
    intro k Q' a s w HP hK h
    have hK' : ∀ s e a' w', Keep (wr x ++ wr y) a a' → wpT P R Q (k s e a') .pl w' → Q' e a' w' := hK
    unfold codeT at h
    split at h
    · rename_i b hc
      obtain ⟨ht, hf⟩ := exam_sound h
      refine wp_cond_split hc (fun hb => ?_) (fun hb => ?_)
      · obtain ⟨s', h'⟩ := ht hb
        subst hb
        rw [setO_same hc] at h'
        exact ihx _ _ _ HP (fun s e a' w' hk h => hK' s e a' w' (hk.mono fun t ht => List.mem_append_left _ ht) h) h'
      · obtain ⟨s', h'⟩ := hf hb
        subst hb
        rw [setO_same hc] at h'
        exact ihy _ _ _ HP (fun s e a' w' hk h => hK' s e a' w' (hk.mono fun t ht => List.mem_append_right _ ht) h) h'
    · exact h.elim
  | block id c ih =>
    intro k Q' a s w HP hK h
    refine wp_block (ih _ _ _ (fun ch a w h1 h2 => HP ch a w h1 h2) ?_ h)
    intro s e a' w' hk h
    cases e with
    | exit i =>
      dsimp only at h
      split at h
      · rename_i hi
        have : i = id := Nat.eq_of_beq_eq_true hi
        simp only [Exit.inBlock, this, if_true]
        exact hK _ _ _ _ hk h
      · rename_i hi
        have : i ≠ id := fun e => by subst e; simp at hi
        simp only [Exit.inBlock, this, if_false]
        exact hK _ _ _ _ hk h
    | outgrown => exact h.elim
    | _ => exact hK _ _ _ _ hk h
  | loop c ih =>
    intro k Q' a s w HP hK h
    cases s <;> try exact h.elim
    case lpg =>
      simp only [codeT] at h
      split at h
      · rename_i hd hw
        rw [Bool.and_eq_true] at hw
        rw [wpT_loopg] at h
        have h' := h (fun t => a.tmps.getD t undef)
        rw [mkA_self hd] at h'
        refine wp_mono h' ?_
        intro e a' w' h
        cases e with
        | exit i => obtain ⟨rfl, v, g', hg, rfl, h⟩ := h; exact hK _ _ _ _ (keep_mkA hw.1 v hg) h
        | goto i => obtain ⟨rfl, v, g', hg, rfl, h⟩ := h; exact hK _ _ _ _ (keep_mkA hw.2 v hg) h
        | panic ch => exact HP _ _ _ h.1 h.2
        | _ => exact h.elim
      · exact h.elim
    case lpd =>
      simp only [codeT] at h
      split at h
      · rename_i hd hw
        rw [Bool.and_eq_true] at hw
        rw [wpT_loopd] at h
        have h' := h (fun t => a.tmps.getD t undef)
        rw [mkA_self hd] at h'
        refine wp_mono h' ?_
        intro e a' w' h
        cases e with
        | exit i => obtain ⟨rfl, v, g', Ds, hg, rfl, h⟩ := h; exact hK _ _ _ _ (keep_mkD hw.1 v hg _) h
        | ret => obtain ⟨v, g', Ds, hg, rfl, h⟩ := h; exact hK _ _ _ _ (keep_mkD hw.2 v hg _) h
        | panic ch => exact HP _ _ _ h.1 h.2
        | _ => exact h.elim
      · exact h.elim
    simp only [codeT] at h
    split at h
    · rename_i hd hw
      rw [Bool.and_eq_true] at hw
      rw [wpT_loop] at h
      have h' := h (fun t => a.tmps.getD t undef)
      rw [mkA_self hd] at h'
      refine wp_mono h' ?_
      intro e a' w' h
      cases e with
      | exit i => obtain ⟨rfl, v, g', hg, rfl, h⟩ := h; exact hK _ _ _ _ (keep_mkA hw.1 v hg) h
      | ret =>
        obtain ⟨v, g', hg, rfl, h⟩ := h
        cases hr : hasRet c with
        | true => simp only [hr] at h; exact hK _ _ _ _ (keep_mkA hw.2 v hg) h
        | false => simp only [hr] at h; exact h.elim
      | panic ch => exact HP _ _ _ h.1 h.2
      | normal => exact h.elim
      | goto l => exact h.elim
      | outgrown => exact h.elim
    · exact h.elim
  | exit i => intro k Q' a s w HP hK h; exact wp_exit (hK _ _ _ _ (Keep.refl _ _) h)
  | ret => intro k Q' a s w HP hK h; exact wp_ret (hK _ _ _ _ (Keep.refl _ _) h)
  | rangeFunc f ps x y ihx ihy =>
    intro k Q' a s w HP hK h
    unfold codeT at h
    split at h
    · rename_i fx mr s sr
      split at h
      · rename_i hd hw
        rw [Bool.and_eq_true] at hw
        rw [wpT_cutr] at h
        have h' := h (fun t => a.tmps.getD t undef)
        rw [mkA_self hd] at h'
        refine wp_mono h' ?_
        intro e a' w' h
        cases e with
        | normal =>
          obtain ⟨v, g', hg, rfl, h⟩ := h
          exact hK _ _ _ _ (keep_mkA hw.1 v hg) h
        | ret =>
          obtain ⟨v, g', hg, rfl, h⟩ := h
          exact hK _ _ _ _ (keep_mkA hw.2 v hg) h
        | panic ch => exact HP _ _ _ h.1 h.2
        | _ => exact h.elim
      · exact h.elim
    · rename_i fx s sr
      rw [wpT_rfd] at h
      have h' := h (fun t => a.tmps.getD t undef)
      rw [mkD_self] at h'
      refine wp_mono h' ?_
      have hs : ∀ D, mkD a.tmps.size (lives a fx) (fun t => a.tmps.getD t undef) (collD D :: a.defers) = { a with defers := collD D :: a.defers } := fun D => by
        have := mkD_self { a with defers := collD D :: a.defers } fx
        exact this
      intro e a' w' h
      cases e with
      | normal =>
        obtain ⟨D, rfl, h⟩ := h
        rw [hs]
        exact hK _ _ _ _ ⟨rfl, fun _ _ => rfl⟩ h
      | ret =>
        obtain ⟨D, rfl, h⟩ := h
        rw [hs]
        exact hK _ _ _ _ ⟨rfl, fun _ _ => rfl⟩ h
      | _ => exact h.elim
    · exact h.elim
  | scope c ih =>
    intro k Q' a s w HP hK h
    unfold codeT at h
    split at h
    · rename_i fx L mr sr
      split at h
      · rename_i hd hw
        rw [wpT_scp] at h
        have h' := h (fun t => a.tmps.getD t undef)
        rw [mkA_self hd] at h'
        refine wp_mono h' ?_
        intro e a' w' h
        cases e with
        | ret => obtain ⟨v, g', hg, rfl, h⟩ := h; exact hK _ _ _ _ (keep_mkA hw v hg) h
        | panic ch => exact HP _ _ _ h.1 h.2
        | _ => exact h.elim
      · exact h.elim
    · refine wp_scope_straight (ih _ _ _ (fun ch a w h1 h2 => HP ch a w h1 h2) ?_ h)
      intro s e a' w' hk h
      cases e with
      | goto l => exact h.elim
      | outgrown => exact h.elim
      | _ => exact hK _ _ _ _ hk h
  | label l => intro k Q' a s w HP hK h; exact wp_label (hK _ _ _ _ (Keep.refl _ _) h)
  | goto l => intro k Q' a s w HP hK h; exact wp_goto (hK _ _ _ _ (Keep.refl _ _) h)
  | refuse why => intro k Q' a s w HP hK h; exact h.elim
theorem calls_of_fnT (hm : P.follows .mixedOrders = true) {f : FuncId} {fn : Func} (hf : P.funcs[f]? = some fn) {args : Array Value} {s : Script} {w : World}
    (h : wpT P R (fun _ _ _ => False) (fnT P fn args s) .pl w) : Calls P f args w R := by
  unfold fnT at h
  split at h
  · rename_i c hc
    refine calls_of_wp hf hc (codeT_sound hm c _ _ _ (fun ch a w h1 h2 => ⟨h1, h2⟩) ?_ h)
    intro s e a' w' _ h
    split at h
    · rename_i hd
      obtain ⟨v, hr, hR⟩ := rdSem_sound _ _ _ _ h
      exact ⟨hd, v, hr, hR⟩
    · rename_i hd
      obtain ⟨v, hr, hR⟩ := rdSem_sound _ _ _ _ h
      exact ⟨hd, v, hr, hR⟩
    · rename_i hd
      exact ⟨hd, h⟩
    · exact h.elim
  · exact h.elim
theorem wp_loop_s {σ : Type} {c : Code} {Q : Exit → Act → World → Prop} {w : World} (st : σ → Act) (I : σ → World → Prop) (μ : σ → World → Nat) (v0 : σ) (h0 : I v0 w)
    (round : ∀ v w, I v w → c.wp P (Exit.then (fun a' w' => ∃ v', a' = st v' ∧ I v' w' ∧ μ v' w' < μ v w) Q) (st v) w) : (Code.loop c).wp P Q (st v0) w := by
  intro b k cs
  have key : ∀ n v w, μ v w = n → I v w → ∃ e a' w', Q e a' w' ∧ Arrives P (lone (b.at (st v) (.code c :: .inLoop c :: k)) cs w) b k cs e a' w' := by
    intro n
    induction n using Nat.strongRecOn with
    | _ n ih =>
      intro v w hn hI
      obtain ⟨e, a₁, w₁, hq, harr⟩ := round v w hI b (.inLoop c :: k) cs
      cases e with
      | normal =>
        obtain ⟨v', rfl, hI₁, hlt⟩ := hq
        obtain ⟨e₂, a₂, w₂, hq₂, harr₂⟩ := ih (μ v' w₁) (hn ▸ hlt) v' w₁ rfl hI₁
        exact ⟨e₂, a₂, w₂, hq₂, .of_steps (Steps.trans harr (.one step_inLoop)) harr₂⟩
      | exit id => exact ⟨_, a₁, w₁, hq, .pass (x := .inLoop c) rfl (fun _ _ => .inl (by simp)) harr⟩
      | goto l => exact ⟨_, a₁, w₁, hq, .pass (x := .inLoop c) rfl (fun _ _ => .inl (by simp)) harr⟩
      | ret => exact ⟨_, a₁, w₁, hq, .pass (x := .inLoop c) rfl (fun _ _ => .inl (by simp)) harr⟩
      | panic ch => exact ⟨_, a₁, w₁, hq, .pass (x := .inLoop c) rfl (fun _ _ => .inl (by simp)) harr⟩
      | outgrown => exact ⟨_, a₁, w₁, hq, .pass (x := .inLoop c) rfl (fun _ _ => .inl (by simp)) harr⟩
  obtain ⟨e, a', w', hq, harr⟩ := key _ v0 w rfl h0
  exact ⟨e, a', w', hq, .of_steps (.one step_loop) harr⟩
/-- As Q; by a jump to l: a state of st that J holds for. -/
def jumpS {σ : Type} (l : Nat) (st : σ → Act) (J : σ → World → Prop) (Q : Exit → Act → World → Prop) : Exit → Act → World → Prop
  | .goto l', a, w => l' = l ∧ ∃ v, a = st v ∧ J v w
  | e, a, w => Q e a w
theorem wp_scope_s {σ : Type} {c rest : Code} {Q : Exit → Act → World → Prop} {a : Act} {w : World} (l : Nat) (st : σ → Act) (J : σ → World → Prop) (μ : σ → World → Nat) (hf : findLabel c l = some rest)
    (first : c.wp P (jumpS l st J Q) a w)
    (pass : ∀ v w, J v w → rest.wp P (jumpS l st (fun v' w' => J v' w' ∧ μ v' w' < μ v w) Q) (st v) w) : (Code.scope c).wp P Q a w := by
  intro b k cs
  have hg : gotoIn l (.inScope c :: k) = some (.code rest :: .inScope c :: k) := by simp [gotoIn, hf]
  have key : ∀ n v w, μ v w = n → J v w → ∃ e a' w', Q e a' w' ∧ Arrives P (lone (b.at (st v) (.code rest :: .inScope c :: k)) cs w) b k cs e a' w' := by
    intro n
    induction n using Nat.strongRecOn with
    | _ n ih =>
      intro v w hn hJ
      obtain ⟨e, a₁, w₁, hq, harr⟩ := pass v w hJ b (.inScope c :: k) cs
      cases e with
      | normal => exact ⟨.normal, a₁, w₁, hq, Steps.trans harr (.one step_inScope)⟩
      | exit id => exact ⟨.exit id, a₁, w₁, hq, fun k' hk => harr k' (by simp [exitTo, hk])⟩
      | goto l' =>
        obtain ⟨rfl, v', rfl, hJ', hlt⟩ := hq
        obtain ⟨e₂, a₂, w₂, hq₂, harr₂⟩ := ih _ (by omega) v' w₁ rfl hJ'
        exact ⟨e₂, a₂, w₂, hq₂, .of_steps (harr _ hg) harr₂⟩
      | ret => exact ⟨_, a₁, w₁, hq, harr⟩
      | panic ch => exact ⟨_, a₁, w₁, hq, harr⟩
      | outgrown => exact ⟨_, a₁, w₁, hq, harr⟩
  obtain ⟨e, a₁, w₁, hq, harr⟩ := first b (.inScope c :: k) cs
  cases e with
  | normal => exact ⟨.normal, a₁, w₁, hq, .head step_scope (Steps.trans harr (.one step_inScope))⟩
  | exit id => exact ⟨.exit id, a₁, w₁, hq, fun k' hk => .head step_scope (harr k' (by simp [exitTo, hk]))⟩
  | goto l' =>
    obtain ⟨rfl, v', rfl, hJ'⟩ := hq
    obtain ⟨e₂, a₂, w₂, hq₂, harr₂⟩ := key _ v' w₁ rfl hJ'
    exact ⟨e₂, a₂, w₂, hq₂, .of_steps (.head step_scope (harr _ hg)) harr₂⟩
  | ret => exact ⟨_, a₁, w₁, hq, .of_steps (.one step_scope) harr⟩
  | panic ch => exact ⟨_, a₁, w₁, hq, .of_steps (.one step_scope) harr⟩
  | outgrown => exact ⟨_, a₁, w₁, hq, .of_steps (.one step_scope) harr⟩
/-- What is asked behind a round of a loop. -/
def after (P : Program) (R : Ending → World → Prop) (Q : Exit → List (Tmp × Value) → World → Prop) (ms mx mr : List (Tmp × Comp)) (x : Nat) (kx : MVars mx → (Nat → Value) → T) (kr : MVars mr → (Nat → Value) → T) (again : MVars ms → World → Prop) : Exit → List (Tmp × Value) → World → Prop
  | .normal, L, w' => ∃ v', L = mvals ms v' ∧ again v' w'
  | .exit i, L, w' => i = x ∧ ∃ v, L = mvals mx v ∧ ∀ g, wpT P R Q (kx v g) .pl w'
  | .ret, L, w' => ∃ v, L = mvals mr v ∧ ∀ g, wpT P R Q (kr v g) .pl w'
  | _, _, _ => False
/-- Slots that the code doesn't write. -/
def apartL (fx : List (Tmp × Value)) (c : Code) : Bool := fx.all fun p => !(wr c).contains p.1
/-- The frame behind a piece of code, out of what its leaf tells. -/
theorem back {c : Code} {n : Nat} {fx L : List (Tmp × Value)} {g g1 : Nat → Value} (hg1 : ∀ j, j ∉ wr c → g1 j = g j) {a' : Act} (hfx : apartL fx c = true) (hL : ∀ t, t ∈ L.map (·.1) → t ∈ wr c) (hk : Keep (wr c) (mkA n (fx ++ L) g1) a') (hd : a'.defers = []) {mx : List (Tmp × Comp)} {v : MVars mx} (hv : lives a' (mx.map (·.1)) = mvals mx v) :
    ∃ g', (∀ j, j ∉ wr c → g' j = g j) ∧ a' = mkA n (fx ++ mvals mx v) g' := by
  classical
  refine ⟨fun j => if j ∈ wr c then a'.tmps.getD j undef else g j, fun j hj => if_neg hj, ?_⟩
  have hs : a'.tmps.size = n := by rw [hk.1, mkA_size]
  refine act_ext (by rw [hs, mkA_size]) (by rw [hd]; rfl) fun i hi => ?_
  have hi' : i < n := by omega
  rw [mkA_get hi', lookT_append, ← hv, lookT_lives]
  have h2 : a'.tmps[i]? = some (a'.tmps.getD i undef) := by simp [Array.getD, hi]
  by_cases hf : i ∈ fx.map (·.1)
  · obtain ⟨u, hu⟩ := lookT_some hf
    have hnw : i ∉ wr c := by
      obtain ⟨p, hp, rfl⟩ := List.mem_map.1 hf
      have := List.all_eq_true.1 hfx p hp
      simpa using this
    rw [hk.2 i hnw, mkA_get hi', lookT_append, hu]
    rfl
  · rw [lookT_none hf]
    by_cases hx : i ∈ mx.map (·.1)
    · rw [if_pos hx, h2]; rfl
    · rw [if_neg hx]
      show _ = some (if i ∈ wr c then a'.tmps.getD i undef else g i)
      by_cases hw : i ∈ wr c
      · rw [if_pos hw, h2]
      · rw [if_neg hw, hk.2 i hw, mkA_get hi', lookT_append, lookT_none hf, lookT_none (fun h => hw (hL i h)), hg1 i hw]; rfl
/-- A loop: what holds at each round's head, for the slots that a round writes; a measure. -/
theorem loop_i (hm : P.follows .mixedOrders = true) {c : Code} {n : Nat} {fx L : List (Tmp × Value)} {mx mr : List (Tmp × Comp)} {x : Nat} {kx : MVars mx → (Nat → Value) → T} {kr : MVars mr → (Nat → Value) → T} {w : World}
    (ms : List (Tmp × Comp)) (s : Script) (hfx : apartL fx c = true) (hms : within ms c = true) (I : MVars ms → World → Prop) (μ : MVars ms → World → Nat) (v0 : MVars ms) (hL : L = mvals ms v0) (h0 : I v0 w)
    (round : ∀ v g w, I v w → wpT P R (after P R Q ms mx mr x kx kr (fun v' w' => I v' w' ∧ μ v' w' < μ v w)) (pieceT P c n (fx ++ mvals ms v) g (ms.map (·.1)) (mx.map (·.1)) (mr.map (·.1)) s) .pl w) :
    wpT P R Q (.loop c n fx L mx mr x kx kr) .pl w := by
  rw [wpT_loop]
  intro g
  subst hL
  have hl := wp_loop_s (P := P) (c := c) (Q := loopPost P R Q (wr c) g n fx mx mr x kx kr) (w := w) (σ := { p : MVars ms × (Nat → Value) // ∀ j, j ∉ wr c → p.2 j = g j }) (fun p => mkA n (fx ++ mvals ms p.1.1) p.1.2) (fun p => I p.1.1) (fun p => μ p.1.1) ⟨(v0, g), fun _ _ => rfl⟩ h0 ?_
  · exact hl
  · rintro ⟨⟨v, g1⟩, hg1⟩ w' hI
    have hkeys : ∀ (v : MVars ms) t, t ∈ (mvals ms v).map (·.1) → t ∈ wr c := fun v t ht => by rw [mvals_keys] at ht; exact within_mem hms ht
    refine codeT_sound (R := R) (Q := after P R Q ms mx mr x kx kr (fun v' w'' => I v' w'' ∧ μ v' w'' < μ v w')) hm c _ s w' (fun ch a w h1 h2 => ⟨h1, h2⟩) ?_ (round v g1 w' hI)
    intro s e a' w'' hk h
    split at h
    · rename_i hd
      cases e with
      | normal =>
        obtain ⟨v', hv, hI', hlt⟩ := h
        obtain ⟨g', hg', he⟩ := back hg1 hfx (hkeys v) hk hd hv
        exact ⟨⟨(v', g'), hg'⟩, he, hI', hlt⟩
      | exit i =>
        obtain ⟨hi, v', hv, hq⟩ := h
        obtain ⟨g', hg', he⟩ := back hg1 hfx (hkeys v) hk hd hv
        exact ⟨hi, v', g', hg', he, hq g'⟩
      | ret =>
        obtain ⟨v', hv, hq⟩ := h
        obtain ⟨g', hg', he⟩ := back hg1 hfx (hkeys v) hk hd hv
        exact ⟨v', g', hg', he, hq g'⟩
      | panic ch => exact ⟨hd, h⟩
      | _ => exact h.elim
    · exact h.elim
/-- A piece whose ways meet again. -/
theorem cut_i (hm : P.follows .mixedOrders = true) {c : Code} {n : Nat} {fx : List (Tmp × Value)} {mx : List (Tmp × Comp)} {k : MVars mx → (Nat → Value) → T} {w : World}
    (s : Script) (I : MVars mx → World → Prop) (hfx : apartL fx c = true)
    (h1 : ∀ g, wpT P R (fun e L w' => e = .normal ∧ ∃ v, L = mvals mx v ∧ I v w') (pieceT P c n fx g (mx.map (·.1)) [] [] s) .pl w)
    (h2 : ∀ v g w', I v w' → wpT P R Q (k v g) .pl w') : wpT P R Q (.cut c n fx mx k) .pl w := by
  rw [wpT_cut]
  intro g
  refine codeT_sound (R := R) (Q := fun e L w' => e = .normal ∧ ∃ v, L = mvals mx v ∧ I v w') hm c _ s w (fun ch a w h1 h2 => ⟨h1, h2⟩) ?_ (h1 g)
  intro s e a' w'' hk h
  split at h
  · rename_i hd
    cases e with
    | normal =>
      obtain ⟨_, v', hv, hI⟩ := h
      have hk' : Keep (wr c) (mkA n (fx ++ []) g) a' := by simpa using hk
      obtain ⟨g', hg', he⟩ := back (fun _ _ => rfl) hfx (L := []) (fun t ht => by cases ht) hk' hd hv
      exact ⟨v', g', hg', he, h2 v' g' w'' hI⟩
    | exit i => exact absurd h.1 (by simp)
    | ret => exact absurd h.1 (by simp)
    | panic ch => exact ⟨hd, h⟩
    | _ => exact h.elim
  · exact h.elim
/-- What is asked behind a pass of a scope with jumps. -/
def afterG (P : Program) (R : Ending → World → Prop) (Q : Exit → List (Tmp × Value) → World → Prop) (l : Nat) (mg mr : List (Tmp × Comp)) (kr : MVars mr → (Nat → Value) → T) (again : MVars mg → World → Prop) : Exit → List (Tmp × Value) → World → Prop
  | .goto l', L, w' => l' = l ∧ ∃ v', L = mvals mg v' ∧ again v' w'
  | .ret, L, w' => ∃ v, L = mvals mr v ∧ ∀ g, wpT P R Q (kr v g) .pl w'
  | _, _, _ => False
/-! ### Ranges over functions: marks -/
theorem mapN_inj : ∀ {a b : List Nat}, (a.map fun (D : Nat) => Value.int .i64 (D : Int)) = (b.map fun (D : Nat) => Value.int .i64 (D : Int)) → a = b
  | [], [], _ => rfl
  | [], _ :: _, h => by simp at h
  | _ :: _, [], h => by simp at h
  | x :: a, y :: b, h => by
    simp only [List.map_cons, List.cons.injEq, Value.int.injEq, true_and] at h
    rw [mapN_inj h.2, show x = y by omega]
theorem encN_inj {a b : List Nat} (h : encN a = encN b) : a = b := by
  unfold encN at h
  simp only [Value.tuple.injEq] at h
  exact mapN_inj (congrArg Array.toList h)
/-- What is asked behind a round of a loop with marks. -/
def afterD (P : Program) (R : Ending → World → Prop) (Q : Exit → List (Tmp × Value) → World → Prop) (ms mx mr : List (Tmp × Comp)) (x : Nat) (kx : MVars mx → (Nat → Value) → List Nat → T) (kr : MVars mr → (Nat → Value) → List Nat → T) (again : MVars ms → List Nat → World → Prop) : Exit → List (Tmp × Value) → World → Prop
  | .normal, L, w' => ∃ v' Ds, L = mvals ms v' ++ [(0, encN Ds)] ∧ again v' Ds w'
  | .exit i, L, w' => i = x ∧ ∃ v Ds, L = mvals mx v ++ [(0, encN Ds)] ∧ ∀ g, wpT P R Q (kx v g Ds) .pl w'
  | .ret, L, w' => ∃ v Ds, L = mvals mr v ++ [(0, encN Ds)] ∧ ∀ g, wpT P R Q (kr v g Ds) .pl w'
  | _, _, _ => False
theorem snoc_enc {L M : List (Tmp × Value)} {a b : List Nat} (h : L ++ [(0, encN a)] = M ++ [(0, encN b)]) : L = M ∧ a = b := by
  obtain ⟨h1, h2⟩ := List.append_inj' h rfl
  simp only [List.cons.injEq, Prod.mk.injEq, true_and, and_true] at h2
  exact ⟨h1, encN_inj h2⟩
theorem backD {c : Code} {n : Nat} {fx L : List (Tmp × Value)} {g g1 : Nat → Value} {ds0 : List Deferred} (hg1 : ∀ j, j ∉ wr c → g1 j = g j) {a' : Act} (hfx : apartL fx c = true) (hL : ∀ t, t ∈ L.map (·.1) → t ∈ wr c) (hk : Keep (wr c) (mkD n (fx ++ L) g1 ds0) a') {mx : List (Tmp × Comp)} {v : MVars mx} (hv : lives a' (mx.map (·.1)) = mvals mx v) :
    ∃ g', (∀ j, j ∉ wr c → g' j = g j) ∧ a' = mkD n (fx ++ mvals mx v) g' a'.defers := by
  obtain ⟨g', h1, h2⟩ := back (a' := { a' with defers := [] }) hg1 hfx hL (c := c) hk rfl (mx := mx) (v := v) hv
  refine ⟨g', h1, ?_⟩
  have := congrArg Act.tmps h2
  obtain ⟨tm, ds⟩ := a'
  show Act.mk tm ds = Act.mk _ ds
  congr 1
/-- A loop whose rounds may range over a function. -/
theorem loopd_i (hm : P.follows .mixedOrders = true) {c : Code} {n : Nat} {fx L : List (Tmp × Value)} {mx mr : List (Tmp × Comp)} {x : Nat} {kx : MVars mx → (Nat → Value) → List Nat → T} {kr : MVars mr → (Nat → Value) → List Nat → T} {w : World}
    (ms : List (Tmp × Comp)) (s : Script) (hfx : apartL fx c = true) (hms : within ms c = true) (I : MVars ms → List Nat → World → Prop) (μ : MVars ms → World → Nat) (v0 : MVars ms) (hL : L = mvals ms v0) (h0 : I v0 [] w)
    (round : ∀ v Ds g w, I v Ds w → wpT P R (afterD P R Q ms mx mr x kx kr (fun v' Ds' w' => I v' Ds' w' ∧ μ v' w' < μ v w)) (pieceD P c n (fx ++ mvals ms v) g (Ds.map collD) (ms.map (·.1)) (mx.map (·.1)) (mr.map (·.1)) s) .pl w) :
    wpT P R Q (.loopd c n fx L mx mr x kx kr) .pl w := by
  rw [wpT_loopd]
  intro g
  subst hL
  have hl := wp_loop_s (P := P) (c := c) (Q := loopdPost P R Q (wr c) g n fx mx mr x kx kr) (w := w) (σ := { p : MVars ms × List Nat × (Nat → Value) // ∀ j, j ∉ wr c → p.2.2 j = g j }) (fun p => mkD n (fx ++ mvals ms p.1.1) p.1.2.2 (p.1.2.1.map collD)) (fun p => I p.1.1 p.1.2.1) (fun p => μ p.1.1) ⟨(v0, [], g), fun _ _ => rfl⟩ h0 ?_
  · exact hl
  · rintro ⟨⟨v, Ds, g1⟩, hg1⟩ w' hI
    have hkeys : ∀ (v : MVars ms) t, t ∈ (mvals ms v).map (·.1) → t ∈ wr c := fun v t ht => by rw [mvals_keys] at ht; exact within_mem hms ht
    have hr := round v Ds g1 w' hI
    unfold pieceD at hr
    refine codeT_sound (R := R) (Q := afterD P R Q ms mx mr x kx kr (fun v' Ds' w'' => I v' Ds' w'' ∧ μ v' w'' < μ v w')) hm c _ s w' (fun ch a w h1 h2 => ⟨h1, h2⟩) ?_ hr
    intro s e a' w'' hk h
    cases e with
    | normal =>
      obtain ⟨Ds1, hd1, v', Ds', hv, hI', hlt⟩ := h
      obtain ⟨hv2, rfl⟩ := snoc_enc hv
      obtain ⟨g', hg', he⟩ := backD hg1 hfx (hkeys v) hk hv2
      rw [hd1] at he
      exact ⟨⟨(v', Ds1, g'), hg'⟩, he, hI', hlt⟩
    | exit i =>
      obtain ⟨Ds1, hd1, hi, v', Ds', hv, hq⟩ := h
      obtain ⟨hv2, rfl⟩ := snoc_enc hv
      obtain ⟨g', hg', he⟩ := backD hg1 hfx (hkeys v) hk hv2
      rw [hd1] at he
      exact ⟨hi, v', g', Ds1, hg', he, hq g'⟩
    | ret =>
      obtain ⟨Ds1, hd1, v', Ds', hv, hq⟩ := h
      obtain ⟨hv2, rfl⟩ := snoc_enc hv
      obtain ⟨g', hg', he⟩ := backD hg1 hfx (hkeys v) hk hv2
      rw [hd1] at he
      exact ⟨v', g', Ds1, hg', he, hq g'⟩
    | panic ch => exact h.elim
    | goto l => exact h.elim
    | outgrown => exact h.elim
/-! ### Within a round -/
section
variable {l0 : Nat}
theorem wpIn_of_wpR {o : Oper} (ho : noDefer o.op = true) {a : Act} {w : World} {K : Act → World → Prop} {Q' : Exit → Act → World → Prop} (h : o.wp P a w K Q') : o.wpIn (Fence.wide.inRound l0) 0 P a w K Q' := by
  refine ⟨fun _ _ => trivial, ?_⟩
  unfold Oper.wp at h
  rw [Oper.semAt_eq _ _ _ (fun c e => by rw [e] at ho; cases ho)]
  revert h
  generalize (execOp a.eval o).run P w = r
  intro h
  cases r with
  | ok n w' =>
    cases n <;> try exact h.elim
    case value v => exact h
    case skip => exact h
    case defer d => exact h
    case enter f args => exact ⟨fun h => by simp [Fence.wide] at h, CallsIn.inRound l0 (callsIn_wide.2 (by unfold Oper.upon at h; exact h))⟩
    case row row args => exact ⟨fun h => by simp [Fence.wide] at h, rowsIn_wide (by unfold Oper.upon at h; exact h)⟩
  | halt e w' => cases e <;> first | exact h | exact h.elim
theorem opT_soundR {o : Oper} (ho0 : noDefer o.op = true) {a : Act} {s : Script} {k : Script → Act → T} {kp : Script → List PanicEntry → Act → T} {w : World} (h : wpT P R Q (opT P o a s k kp) .pl w)
    {K : Act → World → Prop} {Q' : Exit → Act → World → Prop} (hK : ∀ s a' w', Keep o.dst.toList a a' → wpT P R Q (k s a') .pl w' → K a' w') (hP : ∀ s ch w', wpT P R Q (kp s ch a) .pl w' → Q' (.panic ch) a w') :
    o.wpIn (Fence.wide.inRound l0) 0 P a w K Q' := by
  by_cases hy : ∃ c s', o.op = .call c ∧ s = .yl s'
  · obtain ⟨c, s', ho, rfl⟩ := hy
    unfold opT at h
    rw [ho] at h
    dsimp only at h
    split at h
    · rename_i x hc
      split at h
      · rename_i l first cap hx
        rw [wpT_yld] at h
        obtain ⟨fn, tmps, assign, body, hr, hR⟩ := h
        refine ⟨fun _ _ => trivial, ?_⟩
        rw [Oper.semAt_eq _ _ _ (fun c e => by rw [e] at ho0; cases ho0), ex_value ho hc hx]
        show Oper.uponIn (Fence.wide.inRound l0) 0 P o a K Q' ((Instr.yield l (first ++ c.args.map a.eval)).run P w)
        rw [hr]
        refine ⟨fun h => by simp [Fence.wide] at h, hR.mono fun e w' he => ?_⟩
        cases e with
        | returned v =>
          cases v with
          | bool b => exact hK _ _ _ (Keep.put _ _ _) he
          | _ => exact he.elim
        | panicked ch => exact he.elim
        | outgrown => exact he.elim
      · exact (stuck_no h).elim
    · exact (stuck_no h).elim
  · exact wpIn_of_wpR ho0 (opT_sound (fun _ c s' ho hs => hy ⟨c, s', ho, hs⟩) h hK hP)
theorem opsT_soundR {ops : Array Oper} {k : Script → Act → T} {Q' : Exit → Act → World → Prop} :
    ∀ (l : List Oper) (a : Act) (s : Script) (w : World), (l.all (fun o => noDefer o.op)) = true → (∀ s a' w', Keep (dsts l) a a' → wpT P R Q (k s a') .pl w' → Q' .normal a' w') →
    wpT P R Q (opsT P ops l a s k (fun _ _ _ => .stuck)) .pl w → wpListIn (Fence.wide.inRound l0) 0 P ops Q' l a w := by
  intro l
  induction l with
  | nil => intro a s w _ hK h; exact hK _ _ _ (Keep.refl _ _) h
  | cons o rest ih =>
    intro a s w hnd hK h
    rw [List.all_cons, Bool.and_eq_true] at hnd
    rw [dsts_cons] at hK
    have go : ∀ (s : Script), wpT P R Q (opT P o a s (fun s a => opsT P ops rest a s k (fun _ _ _ => .stuck)) (fun _ _ _ => .stuck)) .pl w → o.wpIn (Fence.wide.inRound l0) 0 P a w (wpListIn (Fence.wide.inRound l0) 0 P ops Q' rest) Q' := fun s h =>
      opT_soundR hnd.1 h (fun s a' w' hk h => ih a' s w' hnd.2 (fun s a2 w2 hk2 h2 => hK s a2 w2 (hk.trans hk2) h2) h)
        (fun s ch w' h => (stuck_no h).elim)
    have skip : ∀ (s : Script), wpT P R Q (opsT P ops rest (a.put o.dst undef) s k (fun _ _ _ => .stuck)) .pl w → wpListIn (Fence.wide.inRound l0) 0 P ops Q' rest (a.put o.dst undef) w := fun s h =>
      ih _ s w hnd.2 (fun s a2 w2 hk2 h2 => hK s a2 w2 ((Keep.put a o.dst undef).trans hk2) h2) h
    unfold opsT at h
    unfold wpListIn
    cases hg : o.guard with
    | none =>
      rw [hg] at h
      rw [if_pos (by simp [Region.wanted, hg])]
      exact go _ h
    | some jw =>
      obtain ⟨j, want⟩ := jw
      rw [hg] at h
      dsimp only at h
      cases hy : yielded ops a.tmps j with
      | none =>
        rw [hy] at h
        rw [if_neg (by simp [Region.wanted, hg, hy])]
        exact ⟨fun _ _ => trivial, skip _ h⟩
      | some b =>
        rw [hy] at h
        dsimp only at h
        obtain ⟨ht, hf⟩ := exam_sound h
        cases b
        · obtain ⟨s', h'⟩ := hf rfl
          rw [yielded_same hy] at h'
          cases want
          · rw [if_pos (by simp [Region.wanted, hg, hy])]
            exact go _ h'
          · rw [if_neg (by simp [Region.wanted, hg, hy])]
            exact ⟨fun _ _ => trivial, skip _ h'⟩
        · obtain ⟨s', h'⟩ := ht rfl
          rw [yielded_same hy] at h'
          cases want
          · rw [if_neg (by simp [Region.wanted, hg, hy])]
            exact ⟨fun _ _ => trivial, skip _ h'⟩
          · rw [if_pos (by simp [Region.wanted, hg, hy])]
            exact go _ h'
theorem codeR_sound (c : Code) : ∀ {k : Script → Exit → Act → T} {Q' : Exit → Act → World → Prop} (a : Act) (s : Script) (w : World),
    (∀ s e a' w', Keep (wr c) a a' → wpT P R Q (k s e a') .pl w' → Q' e a' w') → wpT P R Q (codeR P l0 c a s k) .pl w → c.wpIn (Fence.wide.inRound l0) 0 P Q' a w := by
  induction c with
  | skip => intro k Q' a s w hK h; exact wpIn_skip (hK _ _ _ _ (Keep.refl _ _) h)
  | region id ops d =>
    intro k Q' a s w hK h
    cases d with
    | false =>
      unfold codeR at h
      split at h
      · rename_i hn
        exact wpIn_region_list (opsT_soundR _ _ _ _ hn (fun s a' w' hk h => hK _ _ _ _ hk h) h)
      · exact h.elim
    | true => exact h.elim
  | seq x y ihx ihy =>
    intro k Q' a s w hK h
    have hK' : ∀ s e a' w', Keep (wr x ++ wr y) a a' → wpT P R Q (k s e a') .pl w' → Q' e a' w' := hK
    refine wpIn_seq (ihx _ _ _ ?_ h)
    intro s e a' w' hk h
    cases e with
    | normal => exact ihy _ _ _ (fun s e a2 w2 hk2 h2 => hK' s e a2 w2 (hk.trans hk2) h2) h
    | exit i => exact hK' _ _ _ _ (hk.mono fun t ht => List.mem_append_left _ ht) h
    | ret => exact hK' _ _ _ _ (hk.mono fun t ht => List.mem_append_left _ ht) h
    | _ => exact h.elim
  | cond c x y ihx ihy =>
    intro k Q' a s w hK h
    have hK' : ∀ s e a' w', Keep (wr x ++ wr y) a a' → wpT P R Q (k s e a') .pl w' → Q' e a' w' := hK
    unfold codeR at h
    split at h
    · rename_i b hc
      obtain ⟨ht, hf⟩ := exam_sound h
      refine wpIn_cond_split hc (fun hb => ?_) (fun hb => ?_)
      · obtain ⟨s', h'⟩ := ht hb
        subst hb
        rw [setO_same hc] at h'
        exact ihx _ _ _ (fun s e a' w' hk h => hK' s e a' w' (hk.mono fun t ht => List.mem_append_left _ ht) h) h'
      · obtain ⟨s', h'⟩ := hf hb
        subst hb
        rw [setO_same hc] at h'
        exact ihy _ _ _ (fun s e a' w' hk h => hK' s e a' w' (hk.mono fun t ht => List.mem_append_right _ ht) h) h'
    · exact h.elim
  | block id c ih =>
    intro k Q' a s w hK h
    refine wpIn_block (ih _ _ _ ?_ h)
    intro s e a' w' hk h
    cases e with
    | exit i =>
      dsimp only at h
      split at h
      · rename_i hi
        have : i = id := Nat.eq_of_beq_eq_true hi
        simp only [Exit.inBlock, this, if_true]
        exact hK _ _ _ _ hk h
      · rename_i hi
        have : i ≠ id := fun e => by subst e; simp at hi
        simp only [Exit.inBlock, this, if_false]
        exact hK _ _ _ _ hk h
    | normal => exact hK _ _ _ _ hk h
    | ret => exact hK _ _ _ _ hk h
    | _ => exact h.elim
  | loop c ih =>
    intro k Q' a s w hK h
    cases s <;> try exact h.elim
    simp only [codeR] at h
    split at h
    · rename_i hd hw
      rw [Bool.and_eq_true] at hw
      rw [wpT_loopr] at h
      have h' := h (fun t => a.tmps.getD t undef)
      rw [mkA_self hd] at h'
      refine wpIn_mono h' ?_
      intro e a' w' h
      cases e with
      | exit i => obtain ⟨rfl, v, g', hg, rfl, h⟩ := h; exact hK _ _ _ _ (keep_mkA hw.1 v hg) h
      | ret =>
        obtain ⟨v, g', hg, rfl, h⟩ := h
        cases hr : hasRet c with
        | true => simp only [hr] at h; exact hK _ _ _ _ (keep_mkA hw.2 v hg) h
        | false => simp only [hr] at h; exact h.elim
      | _ => exact h.elim
    · exact h.elim
  | exit i => intro k Q' a s w hK h; exact wpIn_exit (hK _ _ _ _ (Keep.refl _ _) h)
  | ret => intro k Q' a s w hK h; exact wpIn_ret (hK _ _ _ _ (Keep.refl _ _) h)
  | _ => intro k Q' a s w hK h; exact h.elim
theorem wpIn_loop_s {σ : Type} {F : Fence} {m : Nat} {c : Code} {Q : Exit → Act → World → Prop} {w : World} (st : σ → Act) (I : σ → World → Prop) (μ : σ → World → Nat) (v0 : σ) (h0 : I v0 w)
    (round : ∀ v w, I v w → c.wpIn F m P (Exit.then (fun a' w' => ∃ v', a' = st v' ∧ I v' w' ∧ μ v' w' < μ v w) Q) (st v) w) : (Code.loop c).wpIn F m P Q (st v0) w := by
  intro b k cs hro hb hr
  have key : ∀ n v w, μ v w = n → I v w → ∃ e a' w', Q e a' w' ∧ ArrivesIn (Machine.fenced P F) P (lone (b.atR (st v) (.code c :: .inLoop c :: k)) cs w) b k cs e a' w' := by
    intro n
    induction n using Nat.strongRecOn with
    | _ n ih =>
      intro v w hn hI
      obtain ⟨e, a₁, w₁, hq, harr⟩ := round v w hI b (.inLoop c :: k) cs hro hb hr
      cases e with
      | normal =>
        obtain ⟨v', rfl, hI₁, hlt⟩ := hq
        obtain ⟨e₂, a₂, w₂, hq₂, harr₂⟩ := ih (μ v' w₁) (hn ▸ hlt) v' w₁ rfl hI₁
        exact ⟨e₂, a₂, w₂, hq₂, .of_steps (StepsIn.trans harr (.one (fenced_calm hb hr rfl) stepR_inLoop)) harr₂⟩
      | exit id => exact ⟨_, a₁, w₁, hq, .pass (x := .inLoop c) rfl (fun _ _ => .inl (by simp)) harr⟩
      | goto l => exact ⟨_, a₁, w₁, hq, .pass (x := .inLoop c) rfl (fun _ _ => .inl (by simp)) harr⟩
      | ret => exact ⟨_, a₁, w₁, hq, .pass (x := .inLoop c) rfl (fun _ _ => .inl (by simp)) harr⟩
      | panic ch => exact ⟨_, a₁, w₁, hq, .pass (x := .inLoop c) rfl (fun _ _ => .inl (by simp)) harr⟩
      | outgrown => exact ⟨_, a₁, w₁, hq, .pass (x := .inLoop c) rfl (fun _ _ => .inl (by simp)) harr⟩
  obtain ⟨e, a', w', hq, harr⟩ := key _ v0 w rfl h0
  exact ⟨e, a', w', hq, .of_steps (.one (fenced_calm hb hr rfl) stepR_loop) harr⟩
/-- A loop within a round. -/
theorem loopr_i {c : Code} {n : Nat} {fx L : List (Tmp × Value)} {mx mr : List (Tmp × Comp)} {x : Nat} {kx : MVars mx → (Nat → Value) → T} {kr : MVars mr → (Nat → Value) → T} {w : World}
    (ms : List (Tmp × Comp)) (s : Script) (hfx : apartL fx c = true) (hms : within ms c = true) (I : MVars ms → World → Prop) (μ : MVars ms → World → Nat) (v0 : MVars ms) (hL : L = mvals ms v0) (h0 : I v0 w)
    (round : ∀ v g w, I v w → wpT P R (after P R Q ms mx mr x kx kr (fun v' w' => I v' w' ∧ μ v' w' < μ v w)) (pieceR P l0 c n (fx ++ mvals ms v) g (ms.map (·.1)) (mx.map (·.1)) (mr.map (·.1)) s) .pl w) :
    wpT P R Q (.loopr l0 c n fx L mx mr x kx kr) .pl w := by
  rw [wpT_loopr]
  intro g
  subst hL
  have hl := wpIn_loop_s (P := P) (F := Fence.wide.inRound l0) (m := 0) (c := c) (Q := looprPost P R Q (wr c) g n fx mx mr x kx kr) (w := w) (σ := { p : MVars ms × (Nat → Value) // ∀ j, j ∉ wr c → p.2 j = g j }) (fun p => mkA n (fx ++ mvals ms p.1.1) p.1.2) (fun p => I p.1.1) (fun p => μ p.1.1) ⟨(v0, g), fun _ _ => rfl⟩ h0 ?_
  · exact hl
  · rintro ⟨⟨v, g1⟩, hg1⟩ w' hI
    have hkeys : ∀ (v : MVars ms) t, t ∈ (mvals ms v).map (·.1) → t ∈ wr c := fun v t ht => by rw [mvals_keys] at ht; exact within_mem hms ht
    refine codeR_sound (R := R) (Q := after P R Q ms mx mr x kx kr (fun v' w'' => I v' w'' ∧ μ v' w'' < μ v w')) c _ s w' ?_ (round v g1 w' hI)
    intro s e a' w'' hk h
    split at h
    · rename_i hd
      cases e with
      | normal =>
        obtain ⟨v', hv, hI', hlt⟩ := h
        obtain ⟨g', hg', he⟩ := back hg1 hfx (hkeys v) hk hd hv
        exact ⟨⟨(v', g'), hg'⟩, he, hI', hlt⟩
      | exit i =>
        obtain ⟨hi, v', hv, hq⟩ := h
        obtain ⟨g', hg', he⟩ := back hg1 hfx (hkeys v) hk hd hv
        exact ⟨hi, v', g', hg', he, hq g'⟩
      | ret =>
        obtain ⟨v', hv, hq⟩ := h
        obtain ⟨g', hg', he⟩ := back hg1 hfx (hkeys v) hk hd hv
        exact ⟨v', g', hg', he, hq g'⟩
      | _ => exact h.elim
    · exact h.elim
/-- A piece of a round: where it ends. -/
theorem pieceR_sound {c : Code} {n : Nat} {L : List (Tmp × Value)} {g : Nat → Value} {ms mx mr : List Tmp} {s : Script} {w : World} {Q' : Exit → Act → World → Prop}
    (hQ : ∀ e a' w', a'.defers = [] → Keep (wr c) (mkA n L g) a' → Q e (match e with | .normal => lives a' ms | .exit _ => lives a' mx | _ => lives a' mr) w' → Q' e a' w')
    (h : wpT P R Q (pieceR P l0 c n L g ms mx mr s) .pl w) : c.wpIn (Fence.wide.inRound l0) 0 P Q' (mkA n L g) w := by
  refine codeR_sound (R := R) (Q := Q) c _ s w ?_ h
  intro s e a' w'' hk h
  split at h
  · rename_i hd
    cases e with
    | normal => exact hQ _ _ _ hd hk h
    | exit i => exact hQ _ _ _ hd hk h
    | ret => exact hQ _ _ _ hd hk h
    | _ => exact h.elim
  · exact h.elim
end
/-- Leaving with marks. -/
theorem leaves_lvs {fn : Func} {tmps : Array Value} : ∀ (ds : List Deferred) (w : World), lvsP ds w (fun w' => ∃ v, (results fn tmps).run P w' = .ok v w' ∧ R (.returned v) w') → LeavesInM Fence.wide 3 P fn tmps R ds .returning w
  | [], w, ⟨v, h1, h2⟩ => by
    show LeavesIn Fence.wide 3 P fn tmps R [] .returning w
    exact ⟨v, h1, h2⟩
  | d :: ds, w, ⟨D, hd, hD, h⟩ => by
    refine ⟨by simp, .inl ⟨D, _, by rw [hd]; rfl, run_takeDeferred hD, leaves_lvs ds _ h⟩⟩
theorem lvsP_mono {K K' : World → Prop} (hK : ∀ w, K w → K' w) : ∀ (ds : List Deferred) (w : World), lvsP ds w K → lvsP ds w K'
  | [], w, h => hK w h
  | d :: ds, w, ⟨D, h1, h2, h3⟩ => ⟨D, h1, h2, lvsP_mono hK ds _ h3⟩
theorem calls_of_fnTM (hm : P.follows .mixedOrders = true) {f : FuncId} {fn : Func} (hf : P.funcs[f]? = some fn) {args : Array Value} {s : Script} {w : World}
    (h : wpT P R (fun _ _ _ => False) (fnTM P fn args s) .pl w) : Calls P f args w R := by
  unfold fnTM at h
  split at h
  · rename_i c hc
    refine (callsIn_wide (n := 3)).1 (callsIn_of_wp_marks hf hc trivial ?_)
    refine wpIn_wide.2 (codeT_sound hm c _ _ _ (fun ch a w h1 h2 => ?_) ?_ h)
    · show LeavesInM _ _ _ _ _ _ a.defers _ _
      rw [h1]
      exact h2
    intro s e a' w' _ h
    cases e with
    | normal => exact leaves_lvs _ _ (lvsP_mono (fun w' hw => by obtain ⟨v, hr, hR⟩ := rdSem_sound _ _ _ _ hw; exact ⟨v, hr, hR⟩) _ _ h)
    | ret => exact leaves_lvs _ _ (lvsP_mono (fun w' hw => by obtain ⟨v, hr, hR⟩ := rdSem_sound _ _ _ _ hw; exact ⟨v, hr, hR⟩) _ _ h)
    | _ => exact h.elim
  · exact h.elim
/-- A scope in which the run jumps back to one label: what holds at each jump, and a measure. -/
theorem scp_i (hm : P.follows .mixedOrders = true) {c rest : Code} {n : Nat} {fx L : List (Tmp × Value)} {mr : List (Tmp × Comp)} {kr : MVars mr → (Nat → Value) → T} {w : World}
    (l : Nat) (hf : findLabel c l = some rest) (mg : List (Tmp × Comp)) (s1 s2 : Script) (hfx : apartL fx c = true) (hL : (L.all fun p => (wr c).contains p.1) = true) (hmg : within mg c = true) (hsub : ((wr rest).all fun t => (wr c).contains t) = true)
    (J : Nat → MVars mg → World → Prop)
    (h1 : ∀ g, wpT P R (afterG P R Q l mg mr kr (fun v w => ∃ m, J m v w)) (pieceG P c n (fx ++ L) g [] [] (mr.map (·.1)) (mg.map (·.1)) s1) .pl w)
    (h2 : ∀ m v g w, J m v w → wpT P R (afterG P R Q l mg mr kr (fun v' w' => ∃ m', J m' v' w' ∧ m' < m)) (pieceG P rest n (fx ++ mvals mg v) g [] [] (mr.map (·.1)) (mg.map (·.1)) s2) .pl w) :
    wpT P R Q (.scp c n fx L mr kr) .pl w := by
  rw [wpT_scp]
  intro g
  have hL' : ∀ t, t ∈ L.map (·.1) → t ∈ wr c := fun t ht => by
    obtain ⟨p, hp, rfl⟩ := List.mem_map.1 ht
    have := List.all_eq_true.1 hL p hp
    simpa using this
  have hsub' : ∀ t, t ∈ wr rest → t ∈ wr c := fun t ht => by
    have := List.all_eq_true.1 hsub t ht
    simpa using this
  have hkeys : ∀ (v : MVars mg) t, t ∈ (mvals mg v).map (·.1) → t ∈ wr c := fun v t ht => by rw [mvals_keys] at ht; exact within_mem hmg ht
  refine wp_scope_s (σ := { p : Nat × MVars mg × (Nat → Value) // ∀ j, j ∉ wr c → p.2.2 j = g j }) l (fun p => mkA n (fx ++ mvals mg p.1.2.1) p.1.2.2) (fun p => J p.1.1 p.1.2.1) (fun p _ => p.1.1) hf ?_ ?_
  · refine codeT_sound (R := R) (Q := afterG P R Q l mg mr kr (fun v w => ∃ m, J m v w)) hm c _ s1 w (fun ch a w h1 h2 => ⟨h1, h2⟩) ?_ (h1 g)
    intro s e a' w'' hk h
    split at h
    · rename_i hd
      cases e with
      | ret =>
        obtain ⟨v', hv, hq⟩ := h
        obtain ⟨g', hg', he⟩ := back (fun _ _ => rfl) hfx hL' hk hd hv
        exact ⟨v', g', hg', he, hq g'⟩
      | goto l' =>
        obtain ⟨hl, v', hv, m', hj⟩ := h
        obtain ⟨g', hg', he⟩ := back (fun _ _ => rfl) hfx hL' hk hd hv
        exact ⟨hl, ⟨(m', v', g'), hg'⟩, he, hj⟩
      | panic ch => exact ⟨hd, h⟩
      | _ => exact h.elim
    · exact h.elim
  · rintro ⟨⟨m, v, g1⟩, hg1⟩ w' hJ
    refine codeT_sound (R := R) (Q := afterG P R Q l mg mr kr (fun v' w'' => ∃ m', J m' v' w'' ∧ m' < m)) hm rest _ s2 w' (fun ch a w h1 h2 => ⟨h1, h2⟩) ?_ (h2 m v g1 w' hJ)
    intro s e a' w'' hk h
    split at h
    · rename_i hd
      cases e with
      | ret =>
        obtain ⟨v', hv, hq⟩ := h
        obtain ⟨g', hg', he⟩ := back hg1 hfx (hkeys v) (hk.mono hsub') hd hv
        exact ⟨v', g', hg', he, hq g'⟩
      | goto l' =>
        obtain ⟨hl, v', hv, m', hj⟩ := h
        obtain ⟨g', hg', he⟩ := back hg1 hfx (hkeys v) (hk.mono hsub') hd hv
        exact ⟨hl, ⟨(m', v', g'), hg'⟩, he, hj⟩
      | panic ch => exact ⟨hd, h⟩
      | _ => exact h.elim
    · exact h.elim
/-- What is asked behind a round of a loop that may jump. -/
def afterL (P : Program) (R : Ending → World → Prop) (Q : Exit → List (Tmp × Value) → World → Prop) (ms mx mg : List (Tmp × Comp)) (x l : Nat) (kx : MVars mx → (Nat → Value) → T) (kg : MVars mg → (Nat → Value) → T) (again : MVars ms → World → Prop) : Exit → List (Tmp × Value) → World → Prop
  | .normal, L, w' => ∃ v', L = mvals ms v' ∧ again v' w'
  | .exit i, L, w' => i = x ∧ ∃ v, L = mvals mx v ∧ ∀ g, wpT P R Q (kx v g) .pl w'
  | .goto i, L, w' => i = l ∧ ∃ v, L = mvals mg v ∧ ∀ g, wpT P R Q (kg v g) .pl w'
  | _, _, _ => False
theorem loopg_i (hm : P.follows .mixedOrders = true) {c : Code} {n : Nat} {fx L : List (Tmp × Value)} {mx mg : List (Tmp × Comp)} {x l : Nat} {kx : MVars mx → (Nat → Value) → T} {kg : MVars mg → (Nat → Value) → T} {w : World}
    (ms : List (Tmp × Comp)) (s : Script) (hfx : apartL fx c = true) (hms : within ms c = true) (I : MVars ms → World → Prop) (μ : MVars ms → World → Nat) (v0 : MVars ms) (hL : L = mvals ms v0) (h0 : I v0 w)
    (round : ∀ v g w, I v w → wpT P R (afterL P R Q ms mx mg x l kx kg (fun v' w' => I v' w' ∧ μ v' w' < μ v w)) (pieceG P c n (fx ++ mvals ms v) g (ms.map (·.1)) (mx.map (·.1)) [] (mg.map (·.1)) s) .pl w) :
    wpT P R Q (.loopg c n fx L mx mg x l kx kg) .pl w := by
  rw [wpT_loopg]
  intro g
  subst hL
  have hl := wp_loop_s (P := P) (c := c) (Q := loopgPost P R Q (wr c) g n fx mx mg x l kx kg) (w := w) (σ := { p : MVars ms × (Nat → Value) // ∀ j, j ∉ wr c → p.2 j = g j }) (fun p => mkA n (fx ++ mvals ms p.1.1) p.1.2) (fun p => I p.1.1) (fun p => μ p.1.1) ⟨(v0, g), fun _ _ => rfl⟩ h0 ?_
  · exact hl
  · rintro ⟨⟨v, g1⟩, hg1⟩ w' hI
    have hkeys : ∀ (v : MVars ms) t, t ∈ (mvals ms v).map (·.1) → t ∈ wr c := fun v t ht => by rw [mvals_keys] at ht; exact within_mem hms ht
    refine codeT_sound (R := R) (Q := afterL P R Q ms mx mg x l kx kg (fun v' w'' => I v' w'' ∧ μ v' w'' < μ v w')) hm c _ s w' (fun ch a w h1 h2 => ⟨h1, h2⟩) ?_ (round v g1 w' hI)
    intro s e a' w'' hk h
    split at h
    · rename_i hd
      cases e with
      | normal =>
        obtain ⟨v', hv, hI', hlt⟩ := h
        obtain ⟨g', hg', he⟩ := back hg1 hfx (hkeys v) hk hd hv
        exact ⟨⟨(v', g'), hg'⟩, he, hI', hlt⟩
      | exit i =>
        obtain ⟨hi, v', hv, hq⟩ := h
        obtain ⟨g', hg', he⟩ := back hg1 hfx (hkeys v) hk hd hv
        exact ⟨hi, v', g', hg', he, hq g'⟩
      | goto i =>
        obtain ⟨hi, v', hv, hq⟩ := h
        obtain ⟨g', hg', he⟩ := back hg1 hfx (hkeys v) hk hd hv
        exact ⟨hi, v', g', hg', he, hq g'⟩
      | panic ch => exact ⟨hd, h⟩
      | _ => exact h.elim
    · exact h.elim
end
end Tr
end Go.Proofs.YtkebljkdkaagfaaGreatDoor
