/- A script's reader in memory; repeat. -/
import Derived.Test.YtjlmkahagcojcaaGreatDoorOpn
namespace Go.Proofs.YtjlmkahagcojcaaGreatDoor
open Go Tr
set_option maxRecDepth 100000
/-! the tree of function 57 -/
abbrev fx57_3 (qa0 : Addr) (qa1 : Addr) (qx2 : Int) (r1 : ByteArray × Int × Unit) (r2 : Int × Bool × Unit) : List (Tmp × Value) := [(0, .pointer (some qa0)), (1, .pointer (some qa1)), (2, .int .i64 qx2), (8, .int .i64 r1.2.1), (9, .int .i64 r2.1), (10, .bool r2.2.1)]
abbrev mx57_3 : List (Tmp × Comp) := [(31, .leaf .bool)]
def s57_3 : Script := .sym (.lit (.lit (.lit (.lit (.lit .nil))))) (.lit (.lit (.sym (.lit (.lit .nil)) (.lit (.lit .nil)))))
theorem t57_3 (qa0 : Addr) (qa1 : Addr) (qx2 : Int) (r1 : ByteArray × Int × Unit) (r2 : Int × Bool × Unit) (g : Nat → Value) : pieceT Tryz.prog (at_ Tryz.f57 [1, 1, 1, 0, 0]) 55 (fx57_3 qa0 qa1 qx2 r1 r2) g (mx57_3.map (·.1)) [] [] s57_3 =
  .br (!r2.snd.fst)
    (.fin .normal [(31, .bool true)])
    (.br (Decidable.decide (r2.fst < 1))
      (.fin .normal [(31, .bool true)])
      (.fin .normal [(31, .bool (Decidable.decide (r2.fst > 2000)))])) := by kernel_rfl
def s57 : Script := .cl (.tup [.leaf .str, .leaf (.int .i64)]) (.cl (.tup [.leaf (.int .i64), .leaf .bool]) (.ct 1 [0, 1, 2, 8, 9, 10] mx57_3 (.sym (.cl (.one (.leaf .any)) .nil) (.cl (.one (.leaf .any)) (.nop (.nop (.rn (.one (.leaf .bool)) (.sym .nil (.ld .sl (.nop (.nop (.nop (.nop (.nop (.nop (.rn (.one (.leaf .sl)) .nil))))))))))))))))
theorem t57 (qa0 : Addr) (qa1 : Addr) (qx2 : Int) : fnT Tryz.prog Tryz.f57 #[.pointer (some qa0), .pointer (some qa1), .int .i64 qx2] s57 =
  .call 56 #[.pointer (some qa1)] (.tup [.leaf .str, .leaf (.int .i64)]) (fun r1 =>
    .call 94 #[.string r1.1, .bool false] (.tup [.leaf (.int .i64), .leaf .bool]) (fun r2 =>
      .cut (at_ Tryz.f57 [1, 1, 1, 0, 0]) 55 (fx57_3 qa0 qa1 qx2 r1 r2) mx57_3 (fun u4 g4 =>
        .br u4.1
          (.call 22 #[.pointer (some qa1), .int .i64 r1.2.1, .iface 69 (.int .i64 62)] (.one (.leaf .any)) (fun v5 =>
            .done (.returned v5)))
          (.call 58 #[.pointer (some qa1)] (.one (.leaf .any)) (fun v6 =>
            .run (vNext (guarded .neq 24 (.tmp 38) (.const .nilIface) v6 .nilIface)) (.one (.leaf .bool)) (fun b7 =>
              .br b7
                (.done (.returned v6))
                (.load qa0 .sl (fun l8 =>
                  .new (.cells #[.slice none 0 0, .int .i64 r2.1, .pointer (some qa1), .int .i64 qx2] 61 (0, 0)) (fun n9 =>
                    .new (.cells #[.pointer (some ⟨n9, 0, none⟩)] 58 (0, 0)) (fun n10 =>
                      .run (builtin .append #[62, 62] 62 #[false, false] #[.slice l8.1 l8.2.1 l8.2.2, .slice (some ⟨n10, 0, none⟩) 1 1]) (.one (.leaf .sl)) (fun l11 =>
                        .store qa0 (.slice l11.1 l11.2.1 l11.2.2)
                          (.done (.returned .nilIface))))))))))))) := by kernel_rfl

abbrev tRd : TypeId := 64
abbrev tBlk : TypeId := 61
abbrev tBlkP : TypeId := 58
abbrev tBlkPs : TypeId := 62
abbrev tOps : TypeId := 22
/-- No block of this type. -/
def NoTy (w : World) (S : Nat → Prop) (t : TypeId) : Prop := ∀ k cur, w.heap[k]? = some (.cells cur t (0, 0)) → ¬ S k
abbrev NoInt (w : World) (S : Nat → Prop) : Prop := NoTy w S tInt
theorem noTy_blk {w : World} {b : Nat} {vs : List Value} {t t' : TypeId} (h : Blk w b vs t) (ht : t ≠ t') : NoTy w (· = b) t' := fun k cur hk e => by
  subst e
  unfold Blk at h
  rw [hk] at h
  simp only [Option.some.injEq, Obj.cells.injEq] at h
  exact ht h.2.1.symm
theorem noTy_row {w : World} {base : Nat} {e t' : TypeId} {size : Nat} {p : Option Addr} {n c : Nat} {xs : List Value} (h : Row w base e size p n c xs) (ht : e ≠ t') : NoTy w (rowS p n c) t' := fun k cur hk hr => by
  obtain ⟨cur', h'⟩ := h.at hr
  rw [hk] at h'
  simp only [Option.some.injEq, Obj.cells.injEq] at h'
  exact ht h'.2.1.symm
theorem noTy_no (w : World) (t : TypeId) : NoTy w No t := fun _ _ _ h => h
theorem noInt_blk {w : World} {b : Nat} {vs : List Value} {t : TypeId} (h : Blk w b vs t) (ht : t ≠ tInt) : NoInt w (· = b) := noTy_blk h ht
theorem noInt_row {w : World} {base : Nat} {e : TypeId} {size : Nat} {p : Option Addr} {n c : Nat} {xs : List Value} (h : Row w base e size p n c xs) (ht : e ≠ tInt) : NoInt w (rowS p n c) := noTy_row h ht
theorem noInt_no (w : World) : NoInt w No := noTy_no w _
theorem noTy_or {w : World} {S S' : Nat → Prop} {t : TypeId} (h : NoTy w S t) (h' : NoTy w S' t) : NoTy w (fun k => S k ∨ S' k) t := fun k cur hk hs => hs.elim (h k cur hk) (h' k cur hk)
theorem Row.noTy {w : World} {base : Nat} {e : TypeId} {size : Nat} {p : Option Addr} {n c : Nat} {xs : List Value} {S : Nat → Prop} (h : Row w base e size p n c xs) (ht : NoTy w S e) (k : Nat) (hk : rowS p n c k) : ¬ S k := by
  obtain ⟨cur, h'⟩ := h.at hk
  exact ht k cur h'
theorem Blk.noTy {w : World} {b : Nat} {vs : List Value} {t : TypeId} {S : Nat → Prop} (h : Blk w b vs t) (ht : NoTy w S t) : ¬ S b := ht b _ h
/-- A list of steps' cells. -/
inductive OpsC (w : World) : List Value → List OpM → Prop
  | nil : OpsC w [] []
  | cons (o : OpM) (p : Option Addr) (n c : Nat) (cs : List Value) (os : List OpM) : Row w 0 tInt 1 p n c (intCells o.keep) → OpsC w cs os → OpsC w (opCells o.kind o.a o.b p n c ++ cs) (o :: os)
theorem OpsC.ch {S : Nat → Prop} {w w' : World} {cs : List Value} {os : List OpM} (h : OpsC w cs os) (hc : Ch S w w') (hi : NoInt w S) : OpsC w' cs os := by
  induction h with
  | nil => exact .nil
  | cons o p n c cs os hr h ih =>
    refine .cons o p n c cs os (hr.ch hc fun k hk => ?_) ih
    obtain ⟨cur, h'⟩ := hr.at hk
    exact hi k cur h'
theorem OpsC.app {w : World} {cs cs' : List Value} {os os' : List OpM} (h : OpsC w cs os) (h' : OpsC w cs' os') : OpsC w (cs ++ cs') (os ++ os') := by
  induction h with
  | nil => exact h'
  | cons o p n c cs os hr h ih => rw [List.append_assoc]; exact .cons o p n c _ _ hr ih
theorem OpsC.len {w : World} {cs : List Value} {os : List OpM} (h : OpsC w cs os) : cs.length = os.length * 4 := by
  induction h with
  | nil => rfl
  | cons o p n c cs os hr h ih => simp [opCells, ih]; omega
theorem OpsC.get {w : World} {cs : List Value} {os : List OpM} (h : OpsC w cs os) : ∀ (i : Nat) (o : OpM), os[i]? = some o → ∃ p n c, Row w 0 tInt 1 p n c (intCells o.keep) ∧ cs[i * 4]? = some (.int .i64 o.kind) ∧ cs[i * 4 + 1]? = some (.int .i64 o.a) ∧ cs[i * 4 + 2]? = some (.int .i64 o.b) ∧ cs[i * 4 + 3]? = some (.slice p n c) := by
  induction h with
  | nil => intro i o h; simp at h
  | cons o p n c cs os hr h ih =>
    intro i o' ho
    cases i with
    | zero =>
      simp only [List.getElem?_cons_zero, Option.some.injEq] at ho
      subst ho
      exact ⟨p, n, c, hr, rfl, rfl, rfl, rfl⟩
    | succ i =>
      rw [List.getElem?_cons_succ] at ho
      obtain ⟨p', n', c', h1, h2, h3, h4, h5⟩ := ih i o' ho
      have e : ∀ j, (i + 1) * 4 + j = 4 + (i * 4 + j) := fun j => by omega
      have k : ∀ j, (opCells o.kind o.a o.b p n c ++ cs)[(i + 1) * 4 + j]? = cs[i * 4 + j]? := fun j => by
        rw [e, List.getElem?_append_right (by simp [opCells])]
        simp [opCells]
      exact ⟨p', n', c', h1, (k 0).trans h2, (k 1).trans h3, (k 2).trans h4, (k 3).trans h5⟩
/-- A slice of steps in memory of its own. -/
def OpsRow (w : World) (p : Option Addr) (n c : Nat) (os : List OpM) : Prop := ∃ cs, Row w 0 tOp 4 p n c cs ∧ OpsC w cs os
theorem OpsRow.ch {S : Nat → Prop} {w w' : World} {p : Option Addr} {n c : Nat} {os : List OpM} (h : OpsRow w p n c os) (hc : Ch S w w') (h1 : ∀ k, rowS p n c k → ¬ S k) (hi : NoInt w S) : OpsRow w' p n c os := by
  obtain ⟨cs, hr, ho⟩ := h
  exact ⟨cs, hr.ch hc h1, ho.ch hc hi⟩
theorem OpsRow.len {w : World} {p : Option Addr} {n c : Nat} {os : List OpM} (h : OpsRow w p n c os) : os.length = n := by
  obtain ⟨cs, hr, ho⟩ := h
  have h1 := hr.len
  have h2 := ho.len
  omega
theorem OpsRow.nil (w : World) : OpsRow w none 0 0 [] := ⟨[], Row.nil _ _ _ _, .nil⟩
/-- An open block's cells. -/
structure Ent where
  id : Nat
  p : Option Addr
  n : Nat
  c : Nat
  line : Option Addr
def entS (e : Ent) (k : Nat) : Prop := k = e.id ∨ rowS e.p e.n e.c k
def LineOk (w : World) (l : Option Addr) (no : Int) : Prop := ∀ a, l = some a → ∃ b s r, a = ⟨b, 0, none⟩ ∧ Cur w b s no r
def entBlk (e : Ent) (x : BlkM) : List Value := [.slice e.p e.n e.c, .int .i64 x.times, .pointer e.line, .int .i64 x.place]
structure EntOk (w : World) (e : Ent) (x : BlkM) : Prop where
  blk : Blk w e.id (entBlk e x) tBlk
  ops : OpsRow w e.p e.n e.c x.ops
  line : LineOk w e.line x.no
theorem LineOk.ch {S : Nat → Prop} {w w' : World} {l : Option Addr} {no : Int} (h : LineOk w l no) (hc : Ch S w w') (h3 : ∀ a, l = some a → ¬ S a.block) : LineOk w' l no := fun a ha => by
  obtain ⟨b, s, r, e, hb⟩ := h a ha
  exact ⟨b, s, r, e, hb.ch hc (by have := h3 a ha; rw [e] at this; exact this)⟩
theorem EntOk.ch {S : Nat → Prop} {w w' : World} {e : Ent} {x : BlkM} (h : EntOk w e x) (hc : Ch S w w') (h1 : ∀ k, entS e k → ¬ S k) (h2 : NoInt w S) (h3 : ∀ a, e.line = some a → ¬ S a.block) : EntOk w' e x :=
  ⟨h.blk.ch hc (h1 _ (.inl rfl)), h.ops.ch hc (fun k hk => h1 k (.inr hk)) h2, h.line.ch hc h3⟩
inductive Ents (w : World) : List Ent → List BlkM → Prop
  | nil : Ents w [] []
  | cons (e : Ent) (x : BlkM) (es : List Ent) (xs : List BlkM) : EntOk w e x → Ents w es xs → Ents w (e :: es) (x :: xs)
theorem Ents.ch {S : Nat → Prop} {w w' : World} {es : List Ent} {xs : List BlkM} (h : Ents w es xs) (hc : Ch S w w') (h1 : ∀ e ∈ es, ∀ k, entS e k → ¬ S k) (h2 : NoInt w S) (h3 : ∀ e ∈ es, ∀ a, e.line = some a → ¬ S a.block) : Ents w' es xs := by
  induction h with
  | nil => exact .nil
  | cons e x es xs he h ih => exact .cons e x es xs (he.ch hc (h1 e (.head _)) h2 (h3 e (.head _))) (ih (fun e' h' => h1 e' (.tail _ h')) (fun e' h' => h3 e' (.tail _ h')))
theorem Ents.len {w : World} {es : List Ent} {xs : List BlkM} (h : Ents w es xs) : es.length = xs.length := by
  induction h with
  | nil => rfl
  | cons e x es xs he h ih => simp [ih]
theorem Ents.lt {w : World} {es : List Ent} {xs : List BlkM} (h : Ents w es xs) : ∀ e ∈ es, ∀ k, entS e k → k < w.heap.size := by
  induction h with
  | nil => intro e h; cases h
  | cons e x es xs he h ih =>
    intro e' h' k hk
    rcases List.mem_cons.1 h' with rfl | h'
    · rcases hk with rfl | hk
      · exact he.blk.lt
      · obtain ⟨cs, hr, _⟩ := he.ops
        exact (hr.lt hk).2
    · exact ih e' h' k hk
def ptrs (es : List Ent) : List Value := es.reverse.map fun e => .pointer (some ⟨e.id, 0, none⟩)
def FewB (x : BlkM) : Prop := x.ops.length ≤ 2000 ∧ x.times ≤ 2000 ∧ ∀ o ∈ x.ops, o.keep.length ≤ 10000
/-- The reader. -/
structure RdS (w : World) (nr : Nat) (q : Option Addr) (m d : Nat) (es : List Ent) (xs : List BlkM) : Prop where
  blk : Blk w nr [.slice q m d] tRd
  row : Row w 0 tBlkP 1 q m d (ptrs es)
  ents : Ents w es xs
  apart : es.Pairwise (fun a b => ∀ k, entS a k → ¬ entS b k)
  len : xs.length ≤ 9000
  nn : ∀ i e, es.reverse[i]? = some e → 0 < i → e.line ≠ none
  few : ∀ x ∈ xs, FewB x
/-- What may be touched by a reader's steps. -/
def Tch (nr : Nat) (q : Option Addr) (m d : Nat) (es : List Ent) (k : Nat) : Prop := k = nr ∨ rowS q m d k ∨ ∃ e ∈ es, entS e k
/-- The lines that stand open aren't this one. -/
def Fresh (bc : Nat) (es : List Ent) : Prop := ∀ e ∈ es, ∀ a, e.line = some a → a.block ≠ bc
theorem entS_ty {w : World} {e : Ent} {x : BlkM} (h : EntOk w e x) {k : Nat} (hk : entS e k) : ∃ cur t, w.heap[k]? = some (.cells cur t (0, 0)) ∧ (t = tBlk ∨ t = tOp) := by
  rcases hk with rfl | hk
  · exact ⟨_, tBlk, h.blk, .inl rfl⟩
  · obtain ⟨cs, hr, _⟩ := h.ops
    obtain ⟨cur, h'⟩ := hr.at hk
    exact ⟨cur, tOp, h', .inr rfl⟩
theorem Ents.ty {w : World} {es : List Ent} {xs : List BlkM} (h : Ents w es xs) : ∀ e ∈ es, ∀ k, entS e k → ∃ cur t, w.heap[k]? = some (.cells cur t (0, 0)) ∧ (t = tBlk ∨ t = tOp) := by
  induction h with
  | nil => intro e h; cases h
  | cons e x es xs he h ih =>
    intro e' h' k hk
    rcases List.mem_cons.1 h' with rfl | h'
    · exact entS_ty he hk
    · exact ih e' h' k hk
theorem Ents.line_ty {w : World} {es : List Ent} {xs : List BlkM} (h : Ents w es xs) : ∀ e ∈ es, ∀ a, e.line = some a → ∃ cur, w.heap[a.block]? = some (.cells cur tCur (0, 0)) := by
  induction h with
  | nil => intro e h; cases h
  | cons e x es xs he h ih =>
    intro e' h' a ha
    rcases List.mem_cons.1 h' with rfl | h'
    · obtain ⟨b, s, r, rfl, hb⟩ := he.line a ha
      exact ⟨_, hb.blk⟩
    · exact ih e' h' a ha
theorem Ents.frame {S : Nat → Prop} {w w' : World} {es : List Ent} {xs : List BlkM} (h : Ents w es xs) (hc : Ch S w w') (hb : NoTy w S tBlk) (ho : NoTy w S tOp) (hi : NoTy w S tInt) (hcu : NoTy w S tCur) : Ents w' es xs :=
  h.ch hc (fun e he k hk => by
    obtain ⟨cur, t, h', ht⟩ := h.ty e he k hk
    rcases ht with rfl | rfl
    · exact hb k cur h'
    · exact ho k cur h') hi (fun e he a ha => by
    obtain ⟨cur, h'⟩ := h.line_ty e he a ha
    exact hcu _ cur h')
/-- A set of blocks of other types is apart from the entries. -/
theorem Ents.ne {w : World} {es : List Ent} {xs : List BlkM} (h : Ents w es xs) {b : Nat} {vs : List Value} {t : TypeId} (hb : Blk w b vs t) (h1 : t ≠ tBlk) (h2 : t ≠ tOp) : ∀ e ∈ es, ∀ k, entS e k → ¬ k = b := fun e he k hk e' => by
  subst e'
  obtain ⟨cur, t', h', ht⟩ := h.ty e he k hk
  unfold Blk at hb
  rw [hb] at h'
  simp only [Option.some.injEq, Obj.cells.injEq] at h'
  rcases ht with ht | ht
  · exact h1 (h'.2.1.trans ht)
  · exact h2 (h'.2.1.trans ht)
/-- A cursor is read on: the reader stands. -/
theorem RdS.curs {w w' : World} {nr bc : Nat} {q : Option Addr} {m d : Nat} {es : List Ent} {xs : List BlkM} {vs : List Value} (h : RdS w nr q m d es xs) (hb : Blk w bc vs tCur) (hf : Fresh bc es) (hc : Ch (· = bc) w w') : RdS w' nr q m d es xs := by
  refine ⟨h.blk.ch hc (fun e => ?_), h.row.ch hc (fun k hk e => by subst e; exact h.row.ne hb (by decide) hk), h.ents.ch hc (h.ents.ne hb (by decide) (by decide)) (noInt_blk hb (by decide)) hf, h.apart, h.len, h.nn, h.few⟩
  have h1 := h.blk
  rw [e] at h1
  unfold Blk at h1 hb
  rw [h1] at hb
  simp [tRd, tCur] at hb
theorem RdS.no {w w' : World} {nr : Nat} {q : Option Addr} {m d : Nat} {es : List Ent} {xs : List BlkM} (h : RdS w nr q m d es xs) (hc : Ch No w w') : RdS w' nr q m d es xs :=
  ⟨h.blk.ch hc (fun h => h), h.row.no hc, h.ents.ch hc (fun _ _ _ _ h => h) (noInt_no w) (fun _ _ _ _ h => h), h.apart, h.len, h.nn, h.few⟩
theorem RdS.tch_lt {w : World} {nr : Nat} {q : Option Addr} {m d : Nat} {es : List Ent} {xs : List BlkM} (h : RdS w nr q m d es xs) {k : Nat} (hk : Tch nr q m d es k) : k < w.heap.size := by
  rcases hk with rfl | hk | ⟨e, he, hk⟩
  · exact h.blk.lt
  · exact (h.row.lt hk).2
  · exact h.ents.lt e he k hk
theorem infoBlkP : (Tryz.prog.info? tBlkP).map (fun i => (i.zero, i.size, i.bytes)) = some (some (.pointer none), 1, 8) := by kernel_rfl
theorem infoOp : (Tryz.prog.info? tOp).map (fun i => (i.zero, i.size, i.bytes)) = some (some (opVal 0 0 0 none 0 0), 4, 48) := by kernel_rfl

/-- What a line's reading answers. -/
def LineRes (nr bc : Nat) (q : Option Addr) (m d : Nat) (es : List Ent) (no : Nat) (x : PRes (List BlkM)) (w : World) (e : Ending) (w' : World) : Prop :=
  Ch (fun k => k = bc ∨ Tch nr q m d es k) w w' ∧ match x with
    | .ok xs' => e = .returned .nilIface ∧ ∃ q' m' d' es', RdS w' nr q' m' d' es' xs' ∧ (∀ k, Tch nr q' m' d' es' k → Tch nr q m d es k ∨ w.heap.size ≤ k)
    | .error (pl, cd) => ∃ v, e = .returned v ∧ ErrAt w' v no pl cd
/-- What a repeat's line answers, from behind its word. -/
def repM (L no at_ : Nat) (r : List UInt8) (xs : List BlkM) : PRes (List BlkM) := match numM false (wordS r) with
  | none => .error (L - (skipS r).length, 62)
  | some n => if n < 1 ∨ 2000 < n then .error (L - (skipS r).length, 62)
    else match endM L (afterS r) with
      | .error e => .error e
      | .ok _ => .ok (⟨[], n.toNat, no, at_⟩ :: xs)
/-- repeat. -/
theorem rep_any (nr bc : Nat) (q : Option Addr) (m d : Nat) (es : List Ent) (x0 : BlkM) (xs : List BlkM) (s : ByteArray) (no : Nat) (r : List UInt8) (at_ : Nat) (w : World) (h : RdS w nr q m d es xs) (hl : xs.length ≤ 8990) (hf : Fresh bc es) (hc : Cur w bc s no r) (hs : s.size ≤ 10000)
    (hne : xs ≠ []) :
    Calls Tryz.prog 57 #[.pointer (some ⟨nr, 0, none⟩), .pointer (some ⟨bc, 0, none⟩), .int .i64 at_] w (LineRes nr bc q m d es no (repM s.size no at_ r xs) w) := by
  refine calls_of_fnT mixed Tryz.func57 (s := s57) ?_
  rw [t57]
  unfold repM
  refine cl_i (next_any bc s no r w hc (by omega)) ?_
  rintro e w1 ⟨rfl, h1, c1⟩
  refine ⟨(_, _, ()), rfl, ?_⟩
  refine cl_i (number_any (bytesL (wordS r)) false w1) ?_
  rintro e w2 ⟨rfl, h2⟩
  refine ⟨(_, _, ()), rfl, ?_⟩
  rw [tb_data]
  have c2 := c1.ch h2 (fun h => h)
  have H2 : Ch (· = bc) w w2 := h1.trans h2.no
  have R2 := h.curs hc.blk hf H2
  have hn := @numM_le false (wordS r)
  refine cut_i mixed s57_3 (fun (v : Bool × Unit) w' => w' = w2 ∧ v.1 = match numM false (wordS r) with | none => true | some n => decide (n < 1 ∨ 2000 < n)) (by kernel_rfl) (fun g => ?_) ?_
  · rw [t57_3]
    cases hq : numM false (wordS r) with
    | none => exact br_true rfl ⟨rfl, (true, ()), rfl, rfl, rfl⟩
    | some n =>
      refine br_false rfl (br_both (fun e => ⟨rfl, (true, ()), rfl, rfl, ?_⟩) fun e => ⟨rfl, (_, ()), rfl, rfl, ?_⟩)
      · have e : n < 1 := lt_t e
        exact (decide_eq_true (.inl e)).symm
      · have e : 1 ≤ n := lt_f e
        exact decide_eq_decide.2 ⟨fun h => .inr h, fun h => h.resolve_left (by omega)⟩
  rintro ⟨u, ⟨⟩⟩ g w3 ⟨rfl, hu⟩
  dsimp only at hu
  subst hu
  have sub : ∀ {w'}, Ch (· = bc) w w' → Ch (fun k => k = bc ∨ Tch nr q m d es k) w w' := fun h => h.mono fun k h => .inl h
  refine br_both (fun e => ?_) fun e => ?_
  · refine cl_i (fault_any bc s no _ _ 62 w3 c2) ?_
    rintro e' w4 ⟨v, rfl, hv, h4⟩
    refine ⟨v, rfl, sub (H2.trans h4.no), ?_⟩
    cases hq : numM false (wordS r) with
    | none => exact ⟨v, rfl, hv⟩
    | some n =>
      rw [hq] at e
      have e := of_decide_eq_true e
      dsimp only
      rw [if_pos e]
      exact ⟨v, rfl, hv⟩
  cases hq : numM false (wordS r) with
  | none => rw [hq] at e; cases e
  | some n =>
    rw [hq] at e
    have e := of_decide_eq_false e
    dsimp only
    rw [if_neg e]
    refine cl_i (end_any bc s no _ w3 c2 (by omega)) ?_
    rintro e' w4 ⟨h4, c4, hm⟩
    have H4 := H2.trans h4
    have R4 := R2.curs c2.blk hf h4
    cases he : endM s.size (afterS r) with
    | error er =>
      obtain ⟨pl, cd⟩ := er
      rw [he] at hm
      obtain ⟨v, rfl, hv⟩ := hm
      exact ⟨v, rfl, ne_err hv (br_true rfl ⟨sub H4, v, rfl, hv⟩)⟩
    | ok u =>
      rw [he] at hm
      subst hm
      refine ⟨.nilIface, rfl, ne_nil (br_false rfl ?_)⟩
      refine ld_sl (R4.blk.cell 0) (nw fun w5 h5 z5 b5 => nw fun w6 h6 z6 b6 => ?_)
      have h46 := h5.trans h6
      have R6 := R4.no h46
      have hml := R4.row.len
      have hme := R4.ents.len
      simp only [ptrs, List.length_map, List.length_reverse, Nat.mul_one] at hml
      generalize hn9 : w4.heap.size = n9 at *
      generalize hn10 : w5.heap.size = n10 at *
      refine ap_blk (by kernel_rfl) infoBlkP rfl (by omega) R6.row (Nat.zero_le _) b6 (by simp) (fun u hu => by simp at hu; subst hu; rfl) (by unfold maxLen; omega) (by omega) fun q' d' w7 g7 => ?_
      have hrd : Blk w7 nr [.slice q m d] tRd := g7.blk R6.row R6.blk (by decide)
      refine st_blk hrd (by simp) rfl fun w8 h8 z8 b8 => ?_
      have b59 : Blk w6 n9 [.slice none 0 0, .int .i64 n, .pointer (some ⟨bc, 0, none⟩), .int .i64 at_] tBlk := b5.ch h6 (fun h => h)
      have b79 := g7.blk R6.row b59 (by decide)
      have hnr : n9 ≠ nr := by have := R4.blk.lt; omega
      have hbl : bc < n9 := by have := c4.blk.lt; omega
      have b89 := b79.ch h8 (fun e => hnr e)
      have E6 := R6.ents
      have E7 : Ents w7 es xs := E6.frame g7.ch (noTy_row R6.row (by decide)) (noTy_row R6.row (by decide)) (noTy_row R6.row (by decide)) (noTy_row R6.row (by decide))
      have E8 : Ents w8 es xs := E7.frame h8 (noTy_blk hrd (by decide)) (noTy_blk hrd (by decide)) (noTy_blk hrd (by decide)) (noTy_blk hrd (by decide))
      have c6 := c4.ch h46 (fun h => h)
      have c7 : Cur w7 bc s no _ := ⟨c6.suf, g7.blk R6.row c6.blk (by decide)⟩
      have hbn : bc ≠ nr := fun e => by
        have h1 := c4.blk
        have h2 := R4.blk
        rw [e] at h1
        unfold Blk at h1 h2
        rw [h1] at h2
        simp [tRd, tCur] at h2
      have c8 := c7.ch h8 hbn
      have hq' : numM false (wordS r) = some n := hq
      have hle := @numM_le false (wordS r) n hq'
      have hnt : ((n.toNat : Nat) : Int) = n := by omega
      have htl : ∀ k, Tch nr q m d es k → k < w4.heap.size := fun k hk => R4.tch_lt hk
      refine ⟨?_, rfl, q', m + 1, d', ⟨n9, none, 0, 0, some ⟨bc, 0, none⟩⟩ :: es, ⟨b8, ?_, ?_, ?_, ?_, ?_, ?_⟩, ?_⟩
      · have e1 : Ch (fun k => k = bc ∨ Tch nr q m d es k) w w6 := (sub H4).trans h46.no
        exact (e1.trans (g7.ch.mono fun k hk => .inr (.inr (.inl hk)))).trans (h8.mono fun k hk => .inr (.inl hk))
      · have hr := g7.own.ch h8 (fun k hk e => by subst e; exact g7.own.ne hrd (by decide) hk)
        have e : ptrs es ++ [.pointer (some ⟨n10, 0, none⟩)] = ptrs es ++ [.pointer (some ⟨n10, 0, none⟩)] := rfl
        unfold ptrs at hr ⊢
        rw [List.reverse_cons, List.map_append]
        exact hr
      · refine .cons _ _ _ _ ⟨?_, OpsRow.nil _, fun a ha => ?_⟩ E8
        · unfold entBlk
          dsimp only
          rw [hnt]
          exact b89
        · cases ha
          exact ⟨bc, s, _, rfl, c8⟩
      · refine List.pairwise_cons.2 ⟨fun e he k hk hk' => ?_, h.apart⟩
        have h1 := R4.ents.lt e he k hk'
        rcases hk with rfl | hk
        · omega
        · unfold rowS at hk
          simp [Value.ownBlock] at hk
      · simp only [List.length_cons]; omega
      · intro i e hi h0
        rw [List.reverse_cons] at hi
        by_cases hlt : i < es.reverse.length
        · rw [List.getElem?_append_left hlt] at hi
          exact h.nn i e hi h0
        · rw [List.getElem?_append_right (by omega)] at hi
          have : i - es.reverse.length = 0 := by
            have := (List.getElem?_eq_some_iff.1 hi).1
            simp only [List.length_cons, List.length_nil] at this
            omega
          rw [this] at hi
          simp only [List.getElem?_cons_zero, Option.some.injEq] at hi
          subst hi
          simp
      · intro x hx
        rcases List.mem_cons.1 hx with rfl | hx
        · refine ⟨by simp, by dsimp only; omega, fun o ho => by cases ho⟩
        · exact h.few x hx
      · intro k hk
        have hsz := H4.size
        rcases hk with rfl | hk | ⟨e, he, hk⟩
        · exact .inl (.inl rfl)
        · rcases g7.lies k hk with h' | h'
          · exact .inl (.inr (.inl h'))
          · right
            have := h46.size
            omega
        · rcases List.mem_cons.1 he with rfl | he
          · rcases hk with rfl | hk
            · right; omega
            · unfold rowS at hk
              simp [Value.ownBlock] at hk
          · exact .inl (.inr (.inr ⟨e, he, hk⟩))
end Go.Proofs.YtjlmkahagcojcaaGreatDoor
