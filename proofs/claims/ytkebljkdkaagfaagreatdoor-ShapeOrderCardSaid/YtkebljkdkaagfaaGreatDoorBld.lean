/- Base of the walks: rows of their own, regions that only read, errors. Bytes that stand somewhere. Rows of bytes: what append does with them. strings.Builder: what its methods do, block by block. -/
import Derived.Test.YtkebljkdkaagfaaGreatDoorMem
import Derived.Test.YtkebljkdkaagfaaGreatDoorProg
import Derived.KernelRfl
import Derived.Maps.AppendAt
import Derived.Laws.OwnMore
import Derived.Laws.BytesString
import Derived.Lib.UnsafeStr
import Derived.Lib.ConvBytes
import Derived.Laws.BitsAll
import Derived.Laws.ShiftsVar
import Derived.Lib.AppendIntMem
import Derived.Lib.ItoaNum
import Derived.Lib.Builder
import Derived.Lib.AppendStr
namespace Go.Proofs.YtkebljkdkaagfaaGreatDoor
open Go Tr
set_option maxRecDepth 100000
theorem mixed : Tryz.prog.follows .mixedOrders = true := by kernel_rfl
theorem wrap_in {x : Int} (h0 : -9223372036854775808 ≤ x) (h : x ≤ 9223372036854775807) : IntKind.i64.wrap x = x := by
  rw [IntKind.wrap_i64]; omega
theorem wrap_succ {x : Int} (h0 : 0 ≤ x) (h : x < 9223372036854775807) : IntKind.i64.wrap (x + 1) = x + 1 := wrap_in (by omega) (by omega)
/-! Tests, of Int's type. -/
theorem lt_t {a b : Int} (h : decide (a < b) = true) : a < b := of_decide_eq_true h
theorem lt_f {a b : Int} (h : decide (a < b) = false) : b ≤ a := by have := of_decide_eq_false h; omega
theorem gt_t {a b : Int} (h : decide (a > b) = true) : b < a := of_decide_eq_true h
theorem gt_f {a b : Int} (h : decide (a > b) = false) : a ≤ b := by have := of_decide_eq_false h; omega
theorem ge_t {a b : Int} (h : decide (a ≥ b) = true) : b ≤ a := of_decide_eq_true h
theorem ge_f {a b : Int} (h : decide (a ≥ b) = false) : a < b := by have := of_decide_eq_false h; omega
theorem eq_t {a b : Int} (h : (a == b) = true) : a = b := by simpa using h
theorem eq_f {a b : Int} (h : (a == b) = false) : a ≠ b := by simpa using h
theorem ne_t {a b : Int} (h : (a != b) = true) : a ≠ b := by simpa using h
theorem ne_f {a b : Int} (h : (a != b) = false) : a = b := by simpa using h
/-! ### Regions that only read, the world staying one -/
section
variable {P : Program} {R : Ending → World → Prop} {Q : Exit → List (Tmp × Value) → World → Prop} {w w1 : World}
theorem dr_eq {t : T} (h : wpT P R Q t (.qu (· = w.drew)) w) : wpT P R Q (.drawn t) .pl w := ⟨(· = w.drew), rfl, h⟩
theorem un_eq {t : T} (h : wpT P R Q t .pl w1) : wpT P R Q (.undrawn t) (.qu (· = w1)) w := fun w' e => by rw [e]; exact h
theorem lq_int {a : Addr} {k : IntKind} {f : Int → T} {x : Int} (h : w1.cell? a = some (.int k x)) (hk : wpT P R Q (f x) (.qu (· = w1)) w) : wpT P R Q (.load a (.int k) f) (.qu (· = w1)) w := ⟨x, fun w' e => by rw [e]; exact h, hk⟩
theorem lq_str {a : Addr} {f : ByteArray → T} {x : ByteArray} (h : w1.cell? a = some (.string x)) (hk : wpT P R Q (f x) (.qu (· = w1)) w) : wpT P R Q (.load a .str f) (.qu (· = w1)) w := ⟨x, fun w' e => by rw [e]; exact h, hk⟩
theorem cq {C : World → Prop} {f : FuncId} {args : Array Value} {s : Shape} {k : s.Vars → T} {x : s.Vars} (h : ∀ w, C w → Calls P f args w (fun e w' => e = .returned (s.val x) ∧ C w')) (hk : wpT P R Q (k x) (.qu C) w) : wpT P R Q (.call f args s k) (.qu C) w := ⟨x, h, hk⟩
theorem nd3 {a b c : Int} {k : T} {m : Md} (h1 : 0 ≤ a) (h2 : a ≤ b) (h3 : b ≤ c) (h : wpT P R Q k m w) : wpT P R Q (.need (decide (0 ≤ a ∧ a ≤ b ∧ b ≤ c)) k) m w := ⟨decide_eq_true ⟨h1, h2, h3⟩, h⟩
theorem eff_i {t : T} {C : World → Prop} (h : wpT P R Q t (.ef C) w) : wpT P R Q (.eff t) (.he C) w := h
theorem hd_i {t : T} (C : World → Prop) (hC : C w.drew) (h : wpT P R Q t (.he C) w.drew) : wpT P R Q (.hdrawn t) .pl w := ⟨C, hC, h⟩
theorem un_h {t : T} {C : World → Prop} (h : wpT P R Q t .pl w) : wpT P R Q (.undrawn t) (.he C) w := h
section
variable {md : Md} [hmd : md.Runs]
theorem t_run {m : Sem Next} {s : Shape} {k : s.Vars → T} {x : s.Vars} {w' : World} (h : m.run P w = .ok (.value (s.val x)) w') (hk : wpT P R Q (k x) md w') : wpT P R Q (.run m s k) md w := by cases hmd <;> exact ⟨x, w', h, hk⟩
end
end
/-! ### Errors -/
abbrev tErrT : TypeId := 84
abbrev tFaultP : TypeId := 93
abbrev tFault : TypeId := 103
abbrev tErrno : TypeId := 32
/-- A fault in memory: its line, place and number. -/
def ErrAt (w : World) (v : Value) (l a c : Int) : Prop := ∃ b, v = .iface tFaultP (.pointer (some ⟨b, 0, none⟩)) ∧ Blk w b [.int .i64 l, .int .i64 a, .iface tErrno (.int .i64 c)] tFault
section
variable {R : Ending → World → Prop} {Q : Exit → List (Tmp × Value) → World → Prop} {w : World} {md : Md} [hmd : md.Runs]
theorem ne_nil {k : Bool → T} {x : Operand} (h : wpT Tryz.prog R Q (k false) md w) : wpT Tryz.prog R Q (.run (vNext (guarded .neq tErrT x (.const .nilIface) .nilIface .nilIface)) (.one (.leaf .bool)) k) md w :=
  t_run (x := false) (w' := w) (by cases x <;> simp [vNext, guarded, eqGuard, go_sem, Tr.Shape.val, Tr.Comp.val, Tr.Leaf.val]) h
theorem ne_err {k : Bool → T} {x : Operand} {v : Value} {l a c : Int} (hv : ErrAt w v l a c) (h : wpT Tryz.prog R Q (k true) md w) : wpT Tryz.prog R Q (.run (vNext (guarded .neq tErrT x (.const .nilIface) v .nilIface)) (.one (.leaf .bool)) k) md w := by
  obtain ⟨b, rfl, _⟩ := hv
  exact t_run (x := true) (w' := w) (by simp [vNext, guarded, eqGuard, go_sem, Tr.Shape.val, Tr.Comp.val, Tr.Leaf.val]) h
end
theorem addr_add (b i j : Nat) : (⟨b, i, none⟩ : Addr).add j = ⟨b, i + j, none⟩ := by
  unfold Addr.add; split <;> simp_all
/-! ### Rows -/
/-- A slice that stands in memory of its own, behind the block base, holding these cells. -/
def Row (w : World) (base : Nat) (e : TypeId) (size : Nat) (p : Option Addr) (n c : Nat) (xs : List Value) : Prop := w.ownsRow base e size (.slice p n c) n xs
/-- Its block. -/
def rowS (p : Option Addr) (n c : Nat) (k : Nat) : Prop := (Value.slice p n c).ownBlock = some k
theorem Row.nil (w : World) (base : Nat) (e : TypeId) (size : Nat) : Row w base e size none 0 0 [] := World.ownsRow_nil w base e size
theorem Row.ch {w w' : World} {base : Nat} {e : TypeId} {size : Nat} {p : Option Addr} {n c : Nat} {xs : List Value} {S : Nat → Prop} (h : Row w base e size p n c xs) (hc : Ch S w w') (hS : ∀ k, rowS p n c k → ¬ S k) : Row w' base e size p n c xs := by
  refine ⟨h.1, ?_⟩
  rcases h.2 with h' | ⟨g, cap, cur, h', hb, hg, r⟩
  · exact .inl h'
  · exact .inr ⟨g, cap, cur, h', hb, (hc.block g (Array.getElem?_eq_some_iff.1 hg).1 (hS g (by unfold rowS; rw [h']; rfl))).trans hg, r⟩
theorem Row.no {w w' : World} {base : Nat} {e : TypeId} {size : Nat} {p : Option Addr} {n c : Nat} {xs : List Value} (h : Row w base e size p n c xs) (hc : Ch No w w') : Row w' base e size p n c xs := h.ch hc fun _ _ h => h
theorem Row.of {w : World} {base : Nat} {e : TypeId} {size : Nat} {v : Value} {n : Nat} {xs : List Value} (h : w.ownsRow base e size v n xs) : ∃ p c, v = .slice p n c ∧ Row w base e size p n c xs := by
  rcases h.2 with ⟨rfl, rfl⟩ | ⟨g, cap, cur, rfl, r⟩
  · exact ⟨none, 0, rfl, h⟩
  · exact ⟨some ⟨g, 0, none⟩, cap, rfl, h⟩
theorem Row.lt {w : World} {base : Nat} {e : TypeId} {size : Nat} {p : Option Addr} {n c : Nat} {xs : List Value} (h : Row w base e size p n c xs) {k : Nat} (hk : rowS p n c k) : base ≤ k ∧ k < w.heap.size := World.ownsRow.lt h k hk
/-- What stands at a block that a row owns. -/
theorem Row.at {w : World} {base : Nat} {e : TypeId} {size : Nat} {p : Option Addr} {n c : Nat} {xs : List Value} (h : Row w base e size p n c xs) {k : Nat} (hk : rowS p n c k) : ∃ cur, w.heap[k]? = some (.cells cur e (0, 0)) := by
  rcases h.2 with ⟨h', _⟩ | ⟨g, cap, cur, h', _, hg, _⟩
  · unfold rowS at hk; rw [h'] at hk; cases hk
  · unfold rowS at hk
    rw [h'] at hk
    obtain rfl : g = k := by simpa [Value.ownBlock] using hk
    exact ⟨cur, hg⟩
/-- A block of another type is another block. -/
theorem Row.ne {w : World} {base : Nat} {e : TypeId} {size : Nat} {p : Option Addr} {n c : Nat} {xs : List Value} (h : Row w base e size p n c xs) {b : Nat} {vs : List Value} {t : TypeId} (hb : Blk w b vs t) (ht : t ≠ e) : ¬ rowS p n c b := by
  intro hk
  obtain ⟨cur, hg⟩ := h.at hk
  unfold Blk at hb
  rw [hg] at hb
  simp only [Option.some.injEq, Obj.cells.injEq] at hb
  exact ht hb.2.1.symm
theorem Row.len {w : World} {base : Nat} {e : TypeId} {size : Nat} {p : Option Addr} {n c : Nat} {xs : List Value} (h : Row w base e size p n c xs) : xs.length = n * size := h.1
theorem Row.cap {w : World} {base : Nat} {e : TypeId} {size : Nat} {p : Option Addr} {n c : Nat} {xs : List Value} (h : Row w base e size p n c xs) : n ≤ c ∧ c ≤ 9223372036854775807 := by
  rcases h.2 with ⟨h', rfl⟩ | ⟨g, cap, cur, h', _, _, h1, h2, _⟩
  · simp only [Value.slice.injEq] at h'
    omega
  · simp only [Value.slice.injEq] at h'
    unfold maxLen at h2
    omega
/-- A cell of a row. -/
theorem Row.get {w : World} {base : Nat} {e : TypeId} {size : Nat} {p : Option Addr} {n c : Nat} {xs : List Value} (h : Row w base e size p n c xs) (hn : 0 < n) : ∃ g, p = some ⟨g, 0, none⟩ ∧ rowS p n c g ∧ ∀ j u, xs[j]? = some u → w.cell? ⟨g, j, none⟩ = some u := by
  rcases h.2 with ⟨h', rfl⟩ | ⟨g, cap, cur, h', _⟩
  · simp only [Value.slice.injEq] at h'
    omega
  · have h0 := h'
    simp only [Value.slice.injEq, true_and] at h0
    obtain ⟨rfl, rfl⟩ := h0
    refine ⟨g, rfl, rfl, fun j u hu => ?_⟩
    have := World.ownsRow.cells (g := g) h rfl j u hu
    rw [addr_add, Nat.zero_add] at this
    exact this
/-- From w with the slice (p, n, c) to w' with the slice (p', n', c'): its own row turned, or a new one. -/
structure Grew (base : Nat) (e : TypeId) (size : Nat) (w : World) (p : Option Addr) (n c : Nat) (w' : World) (p' : Option Addr) (n' c' : Nat) (xs' : List Value) : Prop where
  own : Row w' base e size p' n' c' xs'
  ch : Ch (rowS p n c) w w'
  lies : ∀ k, rowS p' n' c' k → rowS p n c k ∨ w.heap.size ≤ k
section
variable {base : Nat} {e : TypeId} {size : Nat} {w w1 w2 : World} {p p1 p2 : Option Addr} {n c n1 c1 n2 c2 : Nat} {xs xs1 xs2 : List Value}
theorem Grew.after (h : Ch No w w1) (g : Grew base e size w1 p n c w2 p2 n2 c2 xs2) : Grew base e size w p n c w2 p2 n2 c2 xs2 :=
  ⟨g.own, h.no.trans g.ch, fun k hk => (g.lies k hk).imp id (fun h' => Nat.le_trans h.size h')⟩
end
section
variable {P : Program} {R : Ending → World → Prop} {Q : Exit → List (Tmp × Value) → World → Prop} {md : Md} [hmd : md.Runs] {w : World}
/-- append of cells that stand somewhere. -/
theorem ap_row {t e : TypeId} {size bytes : Nat} {z : Value} (ht : P.underlying t = some (.slice e)) (hi : (P.info? e).map (fun i => (i.zero, i.size, i.bytes)) = some (some z, size, bytes)) (hzs : z.cells.size = size) (hsz0 : 0 < size)
    {k : Option Addr × Nat × Nat → T} {cs : Array Bool} {base : Nat} {q : Option Addr} {n c : Nat} {xs : List Value} (hown : Row w base e size q n c xs) (hb : base ≤ w.heap.size) {a : Addr} {m c' : Nat} (news : List Value) (hm : news.length = m * size)
    (hcells : ∀ (j : Nat) (u : Value), news[j]? = some u → w.cell? (a.add j) = some u) (h1 : ∀ u ∈ news, u.oneCell' = true) (hsz : n + m ≤ maxLen) (hby : (n + m) * bytes ≤ 140737488355328)
    (h : ∀ q' c' w', Grew base e size w q n c w' q' (n + m) c' (xs ++ news) → wpT P R Q (k (q', n + m, c')) md w') :
    wpT P R Q (.run (builtin .append #[t, t] t cs #[.slice q n c, .slice (some a) m c']) (.one (.leaf .sl)) k) md w := by
  cases hi' : P.info? e with
  | none => rw [hi'] at hi; cases hi
  | some i =>
    rw [hi'] at hi
    simp only [Option.map_some, Option.some.injEq, Prod.mk.injEq] at hi
    obtain ⟨v', w', hr, h2, h3, h4, h5⟩ := run_append_own_at (P := P) w base t t e i z size bytes ht hi' hi.1 hi.2.1 hi.2.2 hzs hsz0 (.slice q n c) n xs hown a m c' news hm hcells h1 hsz hby hb
    obtain ⟨q', d, rfl, ho⟩ := Row.of h2
    refine t_run (x := (q', n + m, d)) (w' := w') ?_ (h q' d w' ⟨ho, Ch.of_grown h3 (fun k hk => hk), fun k hk => ?_⟩)
    · simp only [builtin, Sem.run_bind, hr, Result.andThen]
      rfl
    · unfold rowS at *
      rcases h5 with h5 | h5
      · exact .inl (h5 ▸ hk)
      · rw [h5] at hk; cases hk; exact .inr (Nat.le_refl _)
/-- append of a block that is told whole. -/
theorem ap_blk {t e : TypeId} {size bytes : Nat} {z : Value} (ht : P.underlying t = some (.slice e)) (hi : (P.info? e).map (fun i => (i.zero, i.size, i.bytes)) = some (some z, size, bytes)) (hzs : z.cells.size = size) (hsz0 : 0 < size)
    {k : Option Addr × Nat × Nat → T} {cs : Array Bool} {base : Nat} {q : Option Addr} {n c : Nat} {xs : List Value} (hown : Row w base e size q n c xs) (hb : base ≤ w.heap.size) {b m c' : Nat} {vs : List Value} {u : TypeId} (hblk : Blk w b vs u) (hm : vs.length = m * size)
    (h1 : ∀ u ∈ vs, u.oneCell' = true) (hsz : n + m ≤ maxLen) (hby : (n + m) * bytes ≤ 140737488355328)
    (h : ∀ q' c' w', Grew base e size w q n c w' q' (n + m) c' (xs ++ vs) → wpT P R Q (k (q', n + m, c')) md w') :
    wpT P R Q (.run (builtin .append #[t, t] t cs #[.slice q n c, .slice (some ⟨b, 0, none⟩) m c']) (.one (.leaf .sl)) k) md w :=
  ap_row ht hi hzs hsz0 hown hb vs hm (fun j u hu => by rw [addr_add, Nat.zero_add, hblk.cell]; exact hu) h1 hsz hby h
end
end Go.Proofs.YtkebljkdkaagfaaGreatDoor
namespace Go.Proofs.YtkebljkdkaagfaaGreatDoor
open Go Tr
set_option maxRecDepth 100000
abbrev tBytes : TypeId := 43
abbrev tByte : TypeId := 5
theorem tb_list (l : List UInt8) : (bytesL l).toList = l := by rw [ByteArray.toList_eq]
theorem tb_size (l : List UInt8) : (bytesL l).size = l.length := by show (List.toArray l).size = _; simp
theorem tb_data (l : List UInt8) : (bytesL l).data.toList = l := rfl
/-! ### Bytes that stand somewhere -/
def AtB (w : World) (p : Option Addr) (n : Nat) (bs : List UInt8) : Prop := bs.length = n ∧ (0 < n → ∃ ad, p = some ad ∧ ∀ (j : Nat) (u : UInt8), bs[j]? = some u → w.cell? (ad.add j) = some (.int .u8 u.toNat))
theorem foldl_push (l : List UInt8) : ∀ (s : ByteArray), (l.map fun b => ((b.toNat : Nat) : Int)).foldl (fun r n => r.push (UInt8.ofNat n.toNat)) s = ⟨s.data ++ l.toArray⟩ := by
  induction l with
  | nil => intro s; simp
  | cons b r ih =>
    intro s
    simp only [List.map_cons, List.foldl_cons]
    rw [ih]
    congr 1
    simp [ByteArray.push]
theorem run_conv {w : World} {p : Option Addr} {n c : Nat} {bs : List UInt8} (h : AtB w p n bs) : (vNext (convert tBytes 9 (.slice p n c))).run Tryz.prog w = .ok (.value (.string ⟨bs.toArray⟩)) w := by
  have key : (convert tBytes 9 (.slice p n c)).run Tryz.prog w = .ok (.string ⟨bs.toArray⟩) w := by
    rw [run_convert_bytes_string w tBytes 9 tByte p n c (by kernel_rfl) (by kernel_rfl) (by kernel_rfl)]
    cases p with
    | none =>
      have h0 : n = 0 := by
        rcases Nat.eq_zero_or_pos n with h0 | h0
        · exact h0
        · obtain ⟨_, e, _⟩ := h.2 h0
          cases e
      have : bs = [] := List.eq_nil_of_length_eq_zero (by rw [h.1, h0])
      subst this
      rfl
    | some ad =>
      have hl : (loadCells ad n).run Tryz.prog w = .ok (((bs.map fun b => ((b.toNat : Nat) : Int)).map (Value.int .u8))).toArray w := by
        have h2 := run_loadCells_list (P := Tryz.prog) w ad (Lib.byteCells bs) (fun j v hv => by
          simp only [Lib.byteCells, List.getElem?_map, Option.map_eq_some_iff] at hv
          obtain ⟨b, hb, rfl⟩ := hv
          have hlt := (List.getElem?_eq_some_iff.1 hb).1
          obtain ⟨ad', e, hj⟩ := h.2 (by have := h.1; omega)
          cases e
          exact hj j b hb)
        rw [Lib.byteCells_length, h.1] at h2
        rw [h2]
        simp [Lib.byteCells, Function.comp_def]
      rw [run_bytesToString w ad n c _ hl, foldl_push]
      congr 2
      simp
  unfold vNext
  simp only [Sem.run_bind, key, Result.andThen]
  rfl
theorem cv_b {R : Ending → World → Prop} {Q : Exit → List (Tmp × Value) → World → Prop} {md : Md} [hmd : md.Runs] {w : World} {k : ByteArray → T} {p : Option Addr} {n c : Nat} {bs : List UInt8} (h : AtB w p n bs) (hk : wpT Tryz.prog R Q (k (bytesL bs)) md w) : wpT Tryz.prog R Q (.run (vNext (convert tBytes 9 (.slice p n c))) (.one (.leaf .str)) k) md w := t_run (x := bytesL bs) (run_conv h) hk
section
variable {R : Ending → World → Prop} {Q : Exit → List (Tmp × Value) → World → Prop} {w : World} {md : Md} [hmd : md.Runs]
end
end Go.Proofs.YtkebljkdkaagfaaGreatDoor
namespace Go.Proofs.YtkebljkdkaagfaaGreatDoor
open Go Tr
open Go.Lib (byteCells strCells)
set_option maxRecDepth 100000
abbrev tStr : TypeId := 9
/-! ### Rows of bytes -/
theorem infoByte : (Tryz.prog.info? tByte).map (fun i => (i.zero, i.size, i.bytes)) = some (some (.int .u8 0), 1, 1) := by kernel_rfl
/-- A slice of bytes of its own. -/
def RowB (w : World) (base : Nat) (p : Option Addr) (n c : Nat) (bs : List UInt8) : Prop := Row w base tByte 1 p n c (byteCells bs)
def GrewB (base : Nat) (w : World) (p : Option Addr) (n c : Nat) (w' : World) (p' : Option Addr) (n' c' : Nat) (bs : List UInt8) : Prop := Grew base tByte 1 w p n c w' p' n' c' (byteCells bs)
theorem RowB.len {w : World} {base : Nat} {p : Option Addr} {n c : Nat} {bs : List UInt8} (h : RowB w base p n c bs) : bs.length = n := by
  have := h.1
  simpa [Lib.byteCells_length] using this
theorem byteCells_one (l : List UInt8) : ∀ u ∈ byteCells l, u.oneCell' = true := fun u hu => by
  simp only [byteCells, List.mem_map] at hu
  obtain ⟨b, _, rfl⟩ := hu
  rfl
section
variable {R : Ending → World → Prop} {Q : Exit → List (Tmp × Value) → World → Prop} {md : Md} [hmd : md.Runs] {w : World}
theorem ap_b {k : Option Addr × Nat × Nat → T} {cs : Array Bool} {base : Nat} {q : Option Addr} {n c : Nat} {bs : List UInt8} (hown : RowB w base q n c bs) (hb : base ≤ w.heap.size) {b m c' : Nat} {vs : List Value} {u : TypeId} (hblk : Blk w b vs u) (news : List UInt8) (hv : vs = byteCells news) (hm : news.length = m) (hsz : n + m ≤ 140737488355328)
    (h : ∀ q' c' w', GrewB base w q n c w' q' (n + m) c' (bs ++ news) → wpT Tryz.prog R Q (k (q', n + m, c')) md w') :
    wpT Tryz.prog R Q (.run (builtin .append #[tBytes, tBytes] tBytes cs #[.slice q n c, .slice (some ⟨b, 0, none⟩) m c']) (.one (.leaf .sl)) k) md w := by
  subst hv
  refine ap_blk (by kernel_rfl) infoByte rfl (by omega) hown hb hblk (by simp [Lib.byteCells_length, hm]) (byteCells_one news) (by unfold maxLen; omega) (by omega) fun q' c' w' g => h q' c' w' ?_
  simpa [byteCells, GrewB] using g
/-- append of a string. -/
theorem ap_s {k : Option Addr × Nat × Nat → T} {cs : Array Bool} {base : Nat} {q : Option Addr} {n c : Nat} {bs : List UInt8} (hown : RowB w base q n c bs) (hb : base ≤ w.heap.size) {s : ByteArray} (hsz : n + s.size ≤ 140737488355328)
    (h : ∀ q' c' w', GrewB base w q n c w' q' (n + s.size) c' (bs ++ s.data.toList) → wpT Tryz.prog R Q (k (q', n + s.size, c')) md w') :
    wpT Tryz.prog R Q (.run (builtin .append #[tBytes, tStr] tBytes cs #[.slice q n c, .string s]) (.one (.leaf .sl)) k) md w := by
  have hi := infoByte
  cases hi' : Tryz.prog.info? tByte with
  | none => rw [hi'] at hi; cases hi
  | some i =>
    rw [hi'] at hi
    simp only [Option.map_some, Option.some.injEq, Prod.mk.injEq] at hi
    obtain ⟨hz, hs, hy⟩ := hi
    obtain ⟨v', w', hr, h2, h3, h4⟩ := Lib.run_append_own_string (P := Tryz.prog) w base tBytes tStr tBytes tByte i (by kernel_rfl) (by kernel_rfl) hi' hz hs hy (.slice q n c) n (byteCells bs) hown s (by unfold maxLen; omega) hsz hb
    have h5 : ∀ k, v'.ownBlock = some k → rowS q n c k ∨ w.heap.size ≤ k := by
      intro k hk
      rcases hown.2 with ⟨e0, rfl⟩ | ⟨g, cap, cur, e0, hbg, hg, hnc, hcm, hcs, htake⟩
      · obtain ⟨rfl, _, rfl⟩ := by simpa using e0
        by_cases hm : s.size = 0
        · rw [h4.2 ⟨rfl, hm⟩] at hk; cases hk
        · have hr2 := run_append_nil_string (P := Tryz.prog) w tBytes tStr tBytes tByte i (.int .u8 0) (by kernel_rfl) (by kernel_rfl) hi' hz s (by omega) (by omega) (by rw [hy]; omega)
          rw [hr] at hr2
          simp only [Result.ok.injEq] at hr2
          rw [hr2.1] at hk
          exact .inr (by simp [Value.ownBlock] at hk; omega)
      · simp only [Value.slice.injEq, true_and] at e0
        obtain ⟨rfl, rfl⟩ := e0
        by_cases hroom : n + s.size ≤ c
        · have hr2 := Lib.run_append_room_string (P := Tryz.prog) w tBytes tStr tBytes tByte i (by kernel_rfl) (by kernel_rfl) hi' hs g n c cur hg s hroom (by omega)
          rw [hr] at hr2
          simp only [Result.ok.injEq] at hr2
          rw [hr2.1] at hk
          exact .inl hk
        · have holds : ∀ j u, (byteCells bs)[j]? = some u → w.cell? ((⟨g, 0, none⟩ : Addr).add j) = some u := World.ownsRow.cells (g := g) hown rfl
          have hr2 := Lib.run_append_grow_string (P := Tryz.prog) w tBytes tStr tBytes tByte i (.int .u8 0) (by kernel_rfl) (by kernel_rfl) hi' hz ⟨g, 0, none⟩ n c (byteCells bs) (by rw [hs]; exact hown.1) holds s (by omega) (by omega) (by rw [hy]; exact growslice_fits (by omega) (by omega))
          rw [hr] at hr2
          simp only [Result.ok.injEq] at hr2
          rw [hr2.1] at hk
          exact .inr (by simp [Value.ownBlock] at hk; omega)
    have h2' : w'.ownsRow base tByte 1 v' (n + s.size) (byteCells (bs ++ s.data.toList)) := by simpa [byteCells, strCells] using h2
    obtain ⟨q', d, rfl, ho⟩ := Row.of h2'
    refine t_run (x := (q', n + s.size, d)) (w' := w') ?_ (h q' d w' ⟨ho, Ch.of_grown h3 (fun k hk => hk), h5⟩)
    simp only [builtin, Sem.run_bind, hr, Result.andThen]
    rfl
end
theorem RowB.at {w : World} {base : Nat} {p : Option Addr} {n c : Nat} {bs : List UInt8} (h : RowB w base p n c bs) : AtB w p n bs := ⟨h.len, fun hn => by
  rcases h.2 with ⟨_, rfl⟩ | ⟨g, cap, cur, e, _⟩
  · omega
  · simp only [Value.slice.injEq, true_and] at e
    obtain ⟨rfl, rfl⟩ := e
    refine ⟨_, rfl, fun j u hu => ?_⟩
    exact World.ownsRow.cells (g := g) h rfl j _ (by simp [byteCells, hu])⟩
end Go.Proofs.YtkebljkdkaagfaaGreatDoor
namespace Go.Proofs.YtkebljkdkaagfaaGreatDoor
open Go Tr
open Go.Lib (byteCells strCells)
set_option maxRecDepth 100000
/-! the tree of function 144 -/
/-! the tree of function 128 -/
section
variable {base b : Nat} {w w1 w2 : World} {p p1 p2 : Option Addr} {n c n1 c1 n2 c2 : Nat} {bs bs1 bs2 : List UInt8}
end
end Go.Proofs.YtkebljkdkaagfaaGreatDoor
