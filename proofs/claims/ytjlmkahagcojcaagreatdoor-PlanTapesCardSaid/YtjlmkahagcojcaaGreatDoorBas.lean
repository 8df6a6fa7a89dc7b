/- Base of the walks: rows of their own, regions that only read, errors. -/
import Derived.Test.YtjlmkahagcojcaaGreatDoorMem
import Derived.Test.YtjlmkahagcojcaaGreatDoorProg
import Derived.KernelRfl
import Derived.Maps.AppendAt
import Derived.Laws.OwnMore
namespace Go.Proofs.YtjlmkahagcojcaaGreatDoor
open Go Tr
set_option maxRecDepth 100000
theorem mixed : Tryz.prog.follows .mixedOrders = true := by kernel_rfl
theorem wrap_in {x : Int} (h0 : -9223372036854775808 ≤ x) (h : x ≤ 9223372036854775807) : IntKind.i64.wrap x = x := by
  rw [IntKind.wrap_i64]; omega
theorem wrap_succ {x : Int} (h0 : 0 ≤ x) (h : x < 9223372036854775807) : IntKind.i64.wrap (x + 1) = x + 1 := wrap_in (by omega) (by omega)
/-! Tests, of Int's type. -/
theorem lt_t {a b : Int} (h : decide (a < b) = true) : a < b := of_decide_eq_true h
theorem lt_f {a b : Int} (h : decide (a < b) = false) : b ≤ a := by have := of_decide_eq_false h; omega
theorem gt_t {a b : Int} (h : decide (a > b) = true) : b < a := of_decide_eq_true h
theorem gt_f {a b : Int} (h : decide (a > b) = false) : a ≤ b := by have := of_decide_eq_false h; omega
theorem le_t {a b : Int} (h : decide (a ≤ b) = true) : a ≤ b := of_decide_eq_true h
theorem le_f {a b : Int} (h : decide (a ≤ b) = false) : b < a := by have := of_decide_eq_false h; omega
theorem ge_t {a b : Int} (h : decide (a ≥ b) = true) : b ≤ a := of_decide_eq_true h
theorem ge_f {a b : Int} (h : decide (a ≥ b) = false) : a < b := by have := of_decide_eq_false h; omega
theorem eq_t {a b : Int} (h : (a == b) = true) : a = b := by simpa using h
theorem eq_f {a b : Int} (h : (a == b) = false) : a ≠ b := by simpa using h
theorem ne_t {a b : Int} (h : (a != b) = true) : a ≠ b := by simpa using h
theorem ne_f {a b : Int} (h : (a != b) = false) : a = b := by simpa using h
/-! ### Regions that only read, the world staying one -/
section
variable {P : Program} {R : Ending → World → Prop} {Q : Exit → List (Tmp × Value) → World → Prop} {w w1 : World}
theorem dr_eq {t : T} (h : wpT P R Q t (.qu (· = w.drew)) w) : wpT P R Q (.drawn t) .pl w := ⟨(· = w.drew), rfl, h⟩
theorem un_eq {t : T} (h : wpT P R Q t .pl w1) : wpT P R Q (.undrawn t) (.qu (· = w1)) w := fun w' e => by rw [e]; exact h
theorem lq_int {a : Addr} {k : IntKind} {f : Int → T} {x : Int} (h : w1.cell? a = some (.int k x)) (hk : wpT P R Q (f x) (.qu (· = w1)) w) : wpT P R Q (.load a (.int k) f) (.qu (· = w1)) w := ⟨x, fun w' e => by rw [e]; exact h, hk⟩
theorem lq_str {a : Addr} {f : ByteArray → T} {x : ByteArray} (h : w1.cell? a = some (.string x)) (hk : wpT P R Q (f x) (.qu (· = w1)) w) : wpT P R Q (.load a .str f) (.qu (· = w1)) w := ⟨x, fun w' e => by rw [e]; exact h, hk⟩
theorem lq_sl {a : Addr} {f : Option Addr × Nat × Nat → T} {p : Option Addr} {n c : Nat} (h : w1.cell? a = some (.slice p n c)) (hk : wpT P R Q (f (p, n, c)) (.qu (· = w1)) w) : wpT P R Q (.load a .sl f) (.qu (· = w1)) w := ⟨(p, n, c), fun w' e => by rw [e]; exact h, hk⟩
theorem nd_i {b : Bool} {k : T} {m : Md} (hb : b = true) (h : wpT P R Q k m w) : wpT P R Q (.need b k) m w := ⟨hb, h⟩
theorem nd3 {a b c : Int} {k : T} {m : Md} (h1 : 0 ≤ a) (h2 : a ≤ b) (h3 : b ≤ c) (h : wpT P R Q k m w) : wpT P R Q (.need (decide (0 ≤ a ∧ a ≤ b ∧ b ≤ c)) k) m w := ⟨decide_eq_true ⟨h1, h2, h3⟩, h⟩
theorem eff_i {t : T} {C : World → Prop} (h : wpT P R Q t (.ef C) w) : wpT P R Q (.eff t) (.he C) w := h
theorem hd_i {t : T} (C : World → Prop) (hC : C w.drew) (h : wpT P R Q t (.he C) w.drew) : wpT P R Q (.hdrawn t) .pl w := ⟨C, hC, h⟩
theorem un_h {t : T} {C : World → Prop} (h : wpT P R Q t .pl w) : wpT P R Q (.undrawn t) (.he C) w := h
section
variable {md : Md} [hmd : md.Runs]
theorem t_run {m : Sem Next} {s : Shape} {k : s.Vars → T} {x : s.Vars} {w' : World} (h : m.run P w = .ok (.value (s.val x)) w') (hk : wpT P R Q (k x) md w') : wpT P R Q (.run m s k) md w := by cases hmd <;> exact ⟨x, w', h, hk⟩
end
end
/-! ### Errors -/
abbrev tErrT : TypeId := 24
abbrev tFaultP : TypeId := 120
abbrev tFault : TypeId := 122
abbrev tErrno : TypeId := 69
/-- A fault in memory: its line, place and number. -/
def ErrAt (w : World) (v : Value) (l a c : Int) : Prop := ∃ b, v = .iface tFaultP (.pointer (some ⟨b, 0, none⟩)) ∧ Blk w b [.int .i64 l, .int .i64 a, .iface tErrno (.int .i64 c)] tFault
theorem ErrAt.ch {S : Nat → Prop} {w w' : World} {v : Value} {l a c : Int} (h : ErrAt w v l a c) (hc : Ch S w w') (hS : ∀ b vs, Blk w b vs tFault → ¬ S b) : ErrAt w' v l a c := by
  obtain ⟨b, rfl, hb⟩ := h
  exact ⟨b, rfl, hb.ch hc (hS b _ hb)⟩
theorem ErrAt.no {w w' : World} {v : Value} {l a c : Int} (h : ErrAt w v l a c) (hc : Ch No w w') : ErrAt w' v l a c := h.ch hc fun _ _ _ h => h
section
variable {R : Ending → World → Prop} {Q : Exit → List (Tmp × Value) → World → Prop} {w : World} {md : Md} [hmd : md.Runs]
theorem ne_nil {k : Bool → T} {x : Operand} (h : wpT Tryz.prog R Q (k false) md w) : wpT Tryz.prog R Q (.run (vNext (guarded .neq tErrT x (.const .nilIface) .nilIface .nilIface)) (.one (.leaf .bool)) k) md w :=
  t_run (x := false) (w' := w) (by cases x <;> simp [vNext, guarded, eqGuard, go_sem, Tr.Shape.val, Tr.Comp.val, Tr.Leaf.val]) h
theorem ne_err {k : Bool → T} {x : Operand} {v : Value} {l a c : Int} (hv : ErrAt w v l a c) (h : wpT Tryz.prog R Q (k true) md w) : wpT Tryz.prog R Q (.run (vNext (guarded .neq tErrT x (.const .nilIface) v .nilIface)) (.one (.leaf .bool)) k) md w := by
  obtain ⟨b, rfl, _⟩ := hv
  exact t_run (x := true) (w' := w) (by simp [vNext, guarded, eqGuard, go_sem, Tr.Shape.val, Tr.Comp.val, Tr.Leaf.val]) h
end
theorem addr_add (b i j : Nat) : (⟨b, i, none⟩ : Addr).add j = ⟨b, i + j, none⟩ := by
  unfold Addr.add; split <;> simp_all
/-! ### Rows -/
/-- A slice that stands in memory of its own, behind the block base, holding these cells. -/
def Row (w : World) (base : Nat) (e : TypeId) (size : Nat) (p : Option Addr) (n c : Nat) (xs : List Value) : Prop := w.ownsRow base e size (.slice p n c) n xs
/-- Its block. -/
def rowS (p : Option Addr) (n c : Nat) (k : Nat) : Prop := (Value.slice p n c).ownBlock = some k
theorem Row.nil (w : World) (base : Nat) (e : TypeId) (size : Nat) : Row w base e size none 0 0 [] := World.ownsRow_nil w base e size
theorem Row.ch {w w' : World} {base : Nat} {e : TypeId} {size : Nat} {p : Option Addr} {n c : Nat} {xs : List Value} {S : Nat → Prop} (h : Row w base e size p n c xs) (hc : Ch S w w') (hS : ∀ k, rowS p n c k → ¬ S k) : Row w' base e size p n c xs := by
  refine ⟨h.1, ?_⟩
  rcases h.2 with h' | ⟨g, cap, cur, h', hb, hg, r⟩
  · exact .inl h'
  · exact .inr ⟨g, cap, cur, h', hb, (hc.block g (Array.getElem?_eq_some_iff.1 hg).1 (hS g (by unfold rowS; rw [h']; rfl))).trans hg, r⟩
theorem Row.no {w w' : World} {base : Nat} {e : TypeId} {size : Nat} {p : Option Addr} {n c : Nat} {xs : List Value} (h : Row w base e size p n c xs) (hc : Ch No w w') : Row w' base e size p n c xs := h.ch hc fun _ _ h => h
theorem Row.of {w : World} {base : Nat} {e : TypeId} {size : Nat} {v : Value} {n : Nat} {xs : List Value} (h : w.ownsRow base e size v n xs) : ∃ p c, v = .slice p n c ∧ Row w base e size p n c xs := by
  rcases h.2 with ⟨rfl, rfl⟩ | ⟨g, cap, cur, rfl, r⟩
  · exact ⟨none, 0, rfl, h⟩
  · exact ⟨some ⟨g, 0, none⟩, cap, rfl, h⟩
theorem Row.lt {w : World} {base : Nat} {e : TypeId} {size : Nat} {p : Option Addr} {n c : Nat} {xs : List Value} (h : Row w base e size p n c xs) {k : Nat} (hk : rowS p n c k) : base ≤ k ∧ k < w.heap.size := World.ownsRow.lt h k hk
theorem Row.base {w : World} {base base' : Nat} {e : TypeId} {size : Nat} {p : Option Addr} {n c : Nat} {xs : List Value} (h : Row w base e size p n c xs) (hb : base' ≤ base) : Row w base' e size p n c xs := by
  refine ⟨h.1, ?_⟩
  rcases h.2 with h' | ⟨g, cap, cur, h', hb', r⟩
  · exact .inl h'
  · exact .inr ⟨g, cap, cur, h', Nat.le_trans hb hb', r⟩
/-- What stands at a block that a row owns. -/
theorem Row.at {w : World} {base : Nat} {e : TypeId} {size : Nat} {p : Option Addr} {n c : Nat} {xs : List Value} (h : Row w base e size p n c xs) {k : Nat} (hk : rowS p n c k) : ∃ cur, w.heap[k]? = some (.cells cur e (0, 0)) := by
  rcases h.2 with ⟨h', _⟩ | ⟨g, cap, cur, h', _, hg, _⟩
  · unfold rowS at hk; rw [h'] at hk; cases hk
  · unfold rowS at hk
    rw [h'] at hk
    obtain rfl : g = k := by simpa [Value.ownBlock] using hk
    exact ⟨cur, hg⟩
/-- A block of another type is another block. -/
theorem Row.ne {w : World} {base : Nat} {e : TypeId} {size : Nat} {p : Option Addr} {n c : Nat} {xs : List Value} (h : Row w base e size p n c xs) {b : Nat} {vs : List Value} {t : TypeId} (hb : Blk w b vs t) (ht : t ≠ e) : ¬ rowS p n c b := by
  intro hk
  obtain ⟨cur, hg⟩ := h.at hk
  unfold Blk at hb
  rw [hg] at hb
  simp only [Option.some.injEq, Obj.cells.injEq] at hb
  exact ht hb.2.1.symm
/-- Rows of two types stand in two blocks. -/
theorem Row.apart {w : World} {base base' : Nat} {e e' : TypeId} {size size' : Nat} {p p' : Option Addr} {n c n' c' : Nat} {xs xs' : List Value} (h : Row w base e size p n c xs) (h' : Row w base' e' size' p' n' c' xs') (ht : e ≠ e') (k : Nat) (hk : rowS p n c k) : ¬ rowS p' n' c' k := by
  intro hk'
  obtain ⟨cur, hg⟩ := h.at hk
  obtain ⟨cur', hg'⟩ := h'.at hk'
  rw [hg] at hg'
  simp only [Option.some.injEq, Obj.cells.injEq] at hg'
  exact ht hg'.2.1
theorem Row.len {w : World} {base : Nat} {e : TypeId} {size : Nat} {p : Option Addr} {n c : Nat} {xs : List Value} (h : Row w base e size p n c xs) : xs.length = n * size := h.1
theorem Row.cap {w : World} {base : Nat} {e : TypeId} {size : Nat} {p : Option Addr} {n c : Nat} {xs : List Value} (h : Row w base e size p n c xs) : n ≤ c ∧ c ≤ 9223372036854775807 := by
  rcases h.2 with ⟨h', rfl⟩ | ⟨g, cap, cur, h', _, _, h1, h2, _⟩
  · simp only [Value.slice.injEq] at h'
    omega
  · simp only [Value.slice.injEq] at h'
    unfold maxLen at h2
    omega
/-- A cell of a row. -/
theorem Row.get {w : World} {base : Nat} {e : TypeId} {size : Nat} {p : Option Addr} {n c : Nat} {xs : List Value} (h : Row w base e size p n c xs) (hn : 0 < n) : ∃ g, p = some ⟨g, 0, none⟩ ∧ rowS p n c g ∧ ∀ j u, xs[j]? = some u → w.cell? ⟨g, j, none⟩ = some u := by
  rcases h.2 with ⟨h', rfl⟩ | ⟨g, cap, cur, h', _⟩
  · simp only [Value.slice.injEq] at h'
    omega
  · have h0 := h'
    simp only [Value.slice.injEq, true_and] at h0
    obtain ⟨rfl, rfl⟩ := h0
    refine ⟨g, rfl, rfl, fun j u hu => ?_⟩
    have := World.ownsRow.cells (g := g) h rfl j u hu
    rw [addr_add, Nat.zero_add] at this
    exact this
/-- A part of a row from its beginning. -/
theorem Row.take {w : World} {base : Nat} {e : TypeId} {size : Nat} {p : Option Addr} {n c : Nat} {xs : List Value} (h : Row w base e size p n c xs) {m : Nat} (hm : m ≤ n) : Row w base e size p m c (xs.take (m * size)) := by
  refine ⟨by rw [List.length_take, h.1]; exact Nat.min_eq_left (Nat.mul_le_mul_right _ hm), ?_⟩
  rcases h.2 with ⟨h', rfl⟩ | ⟨g, cap, cur, h', hb, hg, h1, h2, h3, h4⟩
  · simp only [Value.slice.injEq] at h'
    obtain ⟨rfl, _, rfl⟩ := h'
    obtain rfl : m = 0 := by omega
    exact .inl ⟨rfl, rfl⟩
  · simp only [Value.slice.injEq, true_and] at h'
    obtain ⟨rfl, rfl⟩ := h'
    refine .inr ⟨g, c, cur, rfl, hb, hg, Nat.le_trans hm h1, h2, h3, ?_⟩
    have hl : xs.length = n * size := h.1
    have h5 := Nat.mul_le_mul_right size hm
    have h6 : cur.toList.take (n * size) = xs := h4
    rw [← h6, List.take_take, Nat.min_eq_left h5]
/-- From w with the slice (p, n, c) to w' with the slice (p', n', c'): its own row turned, or a new one. -/
structure Grew (base : Nat) (e : TypeId) (size : Nat) (w : World) (p : Option Addr) (n c : Nat) (w' : World) (p' : Option Addr) (n' c' : Nat) (xs' : List Value) : Prop where
  own : Row w' base e size p' n' c' xs'
  ch : Ch (rowS p n c) w w'
  lies : ∀ k, rowS p' n' c' k → rowS p n c k ∨ w.heap.size ≤ k
section
variable {base : Nat} {e : TypeId} {size : Nat} {w w1 w2 : World} {p p1 p2 : Option Addr} {n c n1 c1 n2 c2 : Nat} {xs xs1 xs2 : List Value}
theorem Grew.refl (h : Row w base e size p n c xs) : Grew base e size w p n c w p n c xs := ⟨h, Ch.refl _ _, fun _ h => .inl h⟩
theorem Grew.trans (g : Grew base e size w p n c w1 p1 n1 c1 xs1) (h : Grew base e size w1 p1 n1 c1 w2 p2 n2 c2 xs2) : Grew base e size w p n c w2 p2 n2 c2 xs2 :=
  ⟨h.own, g.ch.then_ h.ch (fun i hi h => (g.lies i h).resolve_right (by omega)), fun k hk => by
    rcases h.lies k hk with h' | h'
    · exact g.lies k h'
    · exact .inr (Nat.le_trans g.ch.size h')⟩
theorem Grew.after (h : Ch No w w1) (g : Grew base e size w1 p n c w2 p2 n2 c2 xs2) : Grew base e size w p n c w2 p2 n2 c2 xs2 :=
  ⟨g.own, h.no.trans g.ch, fun k hk => (g.lies k hk).imp id (fun h' => Nat.le_trans h.size h')⟩
theorem Grew.blk (g : Grew base e size w p n c w1 p1 n1 c1 xs1) (h : Row w base e size p n c xs) {b : Nat} {vs : List Value} {t : TypeId} (hb : Blk w b vs t) (ht : t ≠ e) : Blk w1 b vs t := hb.ch g.ch (h.ne hb ht)
end
section
variable {P : Program} {R : Ending → World → Prop} {Q : Exit → List (Tmp × Value) → World → Prop} {md : Md} [hmd : md.Runs] {w : World}
/-- append of cells that stand somewhere. -/
theorem ap_row {t e : TypeId} {size bytes : Nat} {z : Value} (ht : P.underlying t = some (.slice e)) (hi : (P.info? e).map (fun i => (i.zero, i.size, i.bytes)) = some (some z, size, bytes)) (hzs : z.cells.size = size) (hsz0 : 0 < size)
    {k : Option Addr × Nat × Nat → T} {cs : Array Bool} {base : Nat} {q : Option Addr} {n c : Nat} {xs : List Value} (hown : Row w base e size q n c xs) (hb : base ≤ w.heap.size) {a : Addr} {m c' : Nat} (news : List Value) (hm : news.length = m * size)
    (hcells : ∀ (j : Nat) (u : Value), news[j]? = some u → w.cell? (a.add j) = some u) (h1 : ∀ u ∈ news, u.oneCell' = true) (hsz : n + m ≤ maxLen) (hby : (n + m) * bytes ≤ 140737488355328)
    (h : ∀ q' c' w', Grew base e size w q n c w' q' (n + m) c' (xs ++ news) → wpT P R Q (k (q', n + m, c')) md w') :
    wpT P R Q (.run (builtin .append #[t, t] t cs #[.slice q n c, .slice (some a) m c']) (.one (.leaf .sl)) k) md w := by
  cases hi' : P.info? e with
  | none => rw [hi'] at hi; cases hi
  | some i =>
    rw [hi'] at hi
    simp only [Option.map_some, Option.some.injEq, Prod.mk.injEq] at hi
    obtain ⟨v', w', hr, h2, h3, h4, h5⟩ := run_append_own_at (P := P) w base t t e i z size bytes ht hi' hi.1 hi.2.1 hi.2.2 hzs hsz0 (.slice q n c) n xs hown a m c' news hm hcells h1 hsz hby hb
    obtain ⟨q', d, rfl, ho⟩ := Row.of h2
    refine t_run (x := (q', n + m, d)) (w' := w') ?_ (h q' d w' ⟨ho, Ch.of_grown h3 (fun k hk => hk), fun k hk => ?_⟩)
    · simp only [builtin, Sem.run_bind, hr, Result.andThen]
      rfl
    · unfold rowS at *
      rcases h5 with h5 | h5
      · exact .inl (h5 ▸ hk)
      · rw [h5] at hk; cases hk; exact .inr (Nat.le_refl _)
/-- append of a block that is told whole. -/
theorem ap_blk {t e : TypeId} {size bytes : Nat} {z : Value} (ht : P.underlying t = some (.slice e)) (hi : (P.info? e).map (fun i => (i.zero, i.size, i.bytes)) = some (some z, size, bytes)) (hzs : z.cells.size = size) (hsz0 : 0 < size)
    {k : Option Addr × Nat × Nat → T} {cs : Array Bool} {base : Nat} {q : Option Addr} {n c : Nat} {xs : List Value} (hown : Row w base e size q n c xs) (hb : base ≤ w.heap.size) {b m c' : Nat} {vs : List Value} {u : TypeId} (hblk : Blk w b vs u) (hm : vs.length = m * size)
    (h1 : ∀ u ∈ vs, u.oneCell' = true) (hsz : n + m ≤ maxLen) (hby : (n + m) * bytes ≤ 140737488355328)
    (h : ∀ q' c' w', Grew base e size w q n c w' q' (n + m) c' (xs ++ vs) → wpT P R Q (k (q', n + m, c')) md w') :
    wpT P R Q (.run (builtin .append #[t, t] t cs #[.slice q n c, .slice (some ⟨b, 0, none⟩) m c']) (.one (.leaf .sl)) k) md w :=
  ap_row ht hi hzs hsz0 hown hb vs hm (fun j u hu => by rw [addr_add, Nat.zero_add, hblk.cell]; exact hu) h1 hsz hby h
end
end Go.Proofs.YtjlmkahagcojcaaGreatDoor
