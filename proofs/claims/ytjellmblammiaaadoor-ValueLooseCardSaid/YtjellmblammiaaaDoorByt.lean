/- Rows of bytes that a call makes: what append does with them; the bytes of a value (Encode). -/
import Derived.Test.YtjellmblammiaaaDoorChk
import Derived.Lib.AppendStr
import Derived.Lib.UnsafeStr
import Derived.Laws.OwnMore
import Derived.Maps.AppendAt
import Derived.Laws.Bits64
import Derived.Laws.BitsAllLaws
namespace Go.Proofs.YtjellmblammiaaaDoor
open Go Tr
open Go.Lib (byteCells strCells)
set_option maxRecDepth 100000

/-! ### Rows -/
/-- A slice that stands in memory of its own, behind the block base, holding these cells. -/
def Row (w : World) (base : Nat) (e : TypeId) (size : Nat) (p : Option Addr) (n c : Nat) (xs : List Value) : Prop := w.ownsRow base e size (.slice p n c) n xs
/-- Its block. -/
def rowS (p : Option Addr) (n c : Nat) (k : Nat) : Prop := (Value.slice p n c).ownBlock = some k
theorem Row.nil (w : World) (base : Nat) (e : TypeId) (size : Nat) : Row w base e size none 0 0 [] := World.ownsRow_nil w base e size
theorem Row.ch {w w' : World} {base : Nat} {e : TypeId} {size : Nat} {p : Option Addr} {n c : Nat} {xs : List Value} {S : Nat → Prop} (h : Row w base e size p n c xs) (hc : Ch S w w') (hS : ∀ k, rowS p n c k → ¬ S k) : Row w' base e size p n c xs := by
  refine ⟨h.1, ?_⟩
  rcases h.2 with h' | ⟨g, cap, cur, h', hb, hg, r⟩
  · exact .inl h'
  · exact .inr ⟨g, cap, cur, h', hb, (hc.block g (Array.getElem?_eq_some_iff.1 hg).1 (hS g (by unfold rowS; rw [h']; rfl))).trans hg, r⟩
theorem Row.no {w w' : World} {base : Nat} {e : TypeId} {size : Nat} {p : Option Addr} {n c : Nat} {xs : List Value} (h : Row w base e size p n c xs) (hc : Ch No w w') : Row w' base e size p n c xs := h.ch hc fun _ _ h => h
theorem Row.of {w : World} {base : Nat} {e : TypeId} {size : Nat} {v : Value} {n : Nat} {xs : List Value} (h : w.ownsRow base e size v n xs) : ∃ p c, v = .slice p n c ∧ Row w base e size p n c xs := by
  rcases h.2 with ⟨rfl, rfl⟩ | ⟨g, cap, cur, rfl, r⟩
  · exact ⟨none, 0, rfl, h⟩
  · exact ⟨some ⟨g, 0, none⟩, cap, rfl, h⟩
theorem Row.lt {w : World} {base : Nat} {e : TypeId} {size : Nat} {p : Option Addr} {n c : Nat} {xs : List Value} (h : Row w base e size p n c xs) {k : Nat} (hk : rowS p n c k) : base ≤ k ∧ k < w.heap.size := World.ownsRow.lt h k hk
/-- A block of another type is another block. -/
theorem Row.ne {w : World} {base : Nat} {e : TypeId} {size : Nat} {p : Option Addr} {n c : Nat} {xs : List Value} (h : Row w base e size p n c xs) {b : Nat} {vs : List Value} {t : TypeId} (hb : Blk w b vs t) (ht : t ≠ e) : ¬ rowS p n c b := by
  intro hk
  rcases h.2 with ⟨h', _⟩ | ⟨g, cap, cur, h', _, hg, _⟩
  · unfold rowS at hk; rw [h'] at hk; cases hk
  · unfold rowS at hk
    rw [h'] at hk
    obtain rfl : g = b := by simpa [Value.ownBlock] using hk
    unfold Blk at hb
    rw [hg] at hb
    simp only [Option.some.injEq, Obj.cells.injEq] at hb
    exact ht hb.2.1.symm
/-- From w with the slice (p, n, c) to w' with the slice (p', n', c'): its own row turned, or a new one. -/
structure Grew (base : Nat) (e : TypeId) (size : Nat) (w : World) (p : Option Addr) (n c : Nat) (w' : World) (p' : Option Addr) (n' c' : Nat) (xs' : List Value) : Prop where
  own : Row w' base e size p' n' c' xs'
  ch : Ch (rowS p n c) w w'
  lies : ∀ k, rowS p' n' c' k → rowS p n c k ∨ w.heap.size ≤ k
section
variable {base : Nat} {e : TypeId} {size : Nat} {w w1 w2 : World} {p p1 p2 : Option Addr} {n c n1 c1 n2 c2 : Nat} {xs xs1 xs2 : List Value}
theorem Grew.refl (h : Row w base e size p n c xs) : Grew base e size w p n c w p n c xs := ⟨h, Ch.refl _ _, fun _ h => .inl h⟩
theorem Grew.trans (g : Grew base e size w p n c w1 p1 n1 c1 xs1) (h : Grew base e size w1 p1 n1 c1 w2 p2 n2 c2 xs2) : Grew base e size w p n c w2 p2 n2 c2 xs2 :=
  ⟨h.own, g.ch.then_ h.ch (fun i hi h => (g.lies i h).resolve_right (by omega)), fun k hk => by
    rcases h.lies k hk with h' | h'
    · exact g.lies k h'
    · exact .inr (Nat.le_trans g.ch.size h')⟩
theorem Grew.after (h : Ch No w w1) (g : Grew base e size w1 p n c w2 p2 n2 c2 xs2) : Grew base e size w p n c w2 p2 n2 c2 xs2 :=
  ⟨g.own, h.no.trans g.ch, fun k hk => (g.lies k hk).imp id (fun h' => Nat.le_trans h.size h')⟩
theorem Grew.then_no (g : Grew base e size w p n c w1 p1 n1 c1 xs1) (h : Ch No w1 w2) : Grew base e size w p n c w2 p1 n1 c1 xs1 := ⟨g.own.no h, g.ch.trans h.no, g.lies⟩
theorem Grew.below (g : Grew base e size w p n c w1 p1 n1 c1 xs1) (h : Row w base e size p n c xs) : Ch (base ≤ ·) w w1 := g.ch.mono fun k hk => (h.lt hk).1
theorem Grew.blk (g : Grew base e size w p n c w1 p1 n1 c1 xs1) (h : Row w base e size p n c xs) {b : Nat} {vs : List Value} {t : TypeId} (hb : Blk w b vs t) (ht : t ≠ e) : Blk w1 b vs t := hb.ch g.ch (h.ne hb ht)
end

section
variable {P : Program} {R : Ending → World → Prop} {Q : Exit → List (Tmp × Value) → World → Prop} {md : Md} [hmd : md.Runs] {w : World}
theorem t_run {m : Sem Next} {s : Shape} {k : s.Vars → T} {x : s.Vars} {w' : World} (h : m.run P w = .ok (.value (s.val x)) w') (hk : wpT P R Q (k x) md w') : wpT P R Q (.run m s k) md w := by cases hmd <;> exact ⟨x, w', h, hk⟩

/-- append of cells that stand somewhere. -/
theorem ap_row {t e : TypeId} {size bytes : Nat} {z : Value} (ht : P.underlying t = some (.slice e)) (hi : (P.info? e).map (fun i => (i.zero, i.size, i.bytes)) = some (some z, size, bytes)) (hzs : z.cells.size = size) (hsz0 : 0 < size)
    {k : Option Addr × Nat × Nat → T} {cs : Array Bool} {base : Nat} {q : Option Addr} {n c : Nat} {xs : List Value} (hown : Row w base e size q n c xs) (hb : base ≤ w.heap.size) {a : Addr} {m c' : Nat} (news : List Value) (hm : news.length = m * size)
    (hcells : ∀ (j : Nat) (u : Value), news[j]? = some u → w.cell? (a.add j) = some u) (h1 : ∀ u ∈ news, u.oneCell' = true) (hsz : n + m ≤ maxLen) (hby : (n + m) * bytes ≤ 140737488355328)
    (h : ∀ q' c' w', Grew base e size w q n c w' q' (n + m) c' (xs ++ news) → wpT P R Q (k (q', n + m, c')) md w') :
    wpT P R Q (.run (builtin .append #[t, t] t cs #[.slice q n c, .slice (some a) m c']) (.one (.leaf .sl)) k) md w := by
  cases hi' : P.info? e with
  | none => rw [hi'] at hi; cases hi
  | some i =>
    rw [hi'] at hi
    simp only [Option.map_some, Option.some.injEq, Prod.mk.injEq] at hi
    obtain ⟨v', w', hr, h2, h3, h4, h5⟩ := run_append_own_at (P := P) w base t t e i z size bytes ht hi' hi.1 hi.2.1 hi.2.2 hzs hsz0 (.slice q n c) n xs hown a m c' news hm hcells h1 hsz hby hb
    obtain ⟨q', d, rfl, ho⟩ := Row.of h2
    refine t_run (x := (q', n + m, d)) (w' := w') ?_ (h q' d w' ⟨ho, Ch.of_grown h3 (fun k hk => hk), fun k hk => ?_⟩)
    · simp only [builtin, Sem.run_bind, hr, Result.andThen]
      rfl
    · unfold rowS at *
      rcases h5 with h5 | h5
      · exact .inl (h5 ▸ hk)
      · rw [h5] at hk; cases hk; exact .inr (Nat.le_refl _)
theorem addr_add (b i j : Nat) : (⟨b, i, none⟩ : Addr).add j = ⟨b, i + j, none⟩ := by
  unfold Addr.add; split <;> simp_all
/-- append of a block that is told whole. -/
theorem ap_blk {t e : TypeId} {size bytes : Nat} {z : Value} (ht : P.underlying t = some (.slice e)) (hi : (P.info? e).map (fun i => (i.zero, i.size, i.bytes)) = some (some z, size, bytes)) (hzs : z.cells.size = size) (hsz0 : 0 < size)
    {k : Option Addr × Nat × Nat → T} {cs : Array Bool} {base : Nat} {q : Option Addr} {n c : Nat} {xs : List Value} (hown : Row w base e size q n c xs) (hb : base ≤ w.heap.size) {b m c' : Nat} {vs : List Value} {u : TypeId} (hblk : Blk w b vs u) (hm : vs.length = m * size)
    (h1 : ∀ u ∈ vs, u.oneCell' = true) (hsz : n + m ≤ maxLen) (hby : (n + m) * bytes ≤ 140737488355328)
    (h : ∀ q' c' w', Grew base e size w q n c w' q' (n + m) c' (xs ++ vs) → wpT P R Q (k (q', n + m, c')) md w') :
    wpT P R Q (.run (builtin .append #[t, t] t cs #[.slice q n c, .slice (some ⟨b, 0, none⟩) m c']) (.one (.leaf .sl)) k) md w :=
  ap_row ht hi hzs hsz0 hown hb vs hm (fun j u hu => by rw [addr_add, Nat.zero_add, hblk.cell]; exact hu) h1 hsz hby h
end

/-! ### Rows of bytes -/
theorem infoByte : (Tryd.prog.info? 5).map (fun i => (i.zero, i.size, i.bytes)) = some (some (.int .u8 0), 1, 1) := by kernel_rfl
/-- A slice of bytes of its own. -/
def RowB (w : World) (base : Nat) (p : Option Addr) (n c : Nat) (bs : List UInt8) : Prop := Row w base 5 1 p n c (byteCells bs)
def GrewB (base : Nat) (w : World) (p : Option Addr) (n c : Nat) (w' : World) (p' : Option Addr) (n' c' : Nat) (bs : List UInt8) : Prop := Grew base 5 1 w p n c w' p' n' c' (byteCells bs)
theorem RowB.len {w : World} {base : Nat} {p : Option Addr} {n c : Nat} {bs : List UInt8} (h : RowB w base p n c bs) : bs.length = n := by
  have := h.1
  simpa [Lib.byteCells_length] using this
theorem byteCells_one (l : List UInt8) : ∀ u ∈ byteCells l, u.oneCell' = true := fun u hu => by
  simp only [byteCells, List.mem_map] at hu
  obtain ⟨b, _, rfl⟩ := hu
  rfl
section
variable {R : Ending → World → Prop} {Q : Exit → List (Tmp × Value) → World → Prop} {md : Md} [hmd : md.Runs] {w : World}
theorem ap_b {k : Option Addr × Nat × Nat → T} {cs : Array Bool} {base : Nat} {q : Option Addr} {n c : Nat} {bs : List UInt8} (hown : RowB w base q n c bs) (hb : base ≤ w.heap.size) {b m c' : Nat} {vs : List Value} {u : TypeId} (hblk : Blk w b vs u) (news : List UInt8) (hv : vs = byteCells news) (hm : news.length = m) (hsz : n + m ≤ 140737488355328)
    (h : ∀ q' c' w', GrewB base w q n c w' q' (n + m) c' (bs ++ news) → wpT Tryd.prog R Q (k (q', n + m, c')) md w') :
    wpT Tryd.prog R Q (.run (builtin .append #[29, 29] 29 cs #[.slice q n c, .slice (some ⟨b, 0, none⟩) m c']) (.one (.leaf .sl)) k) md w := by
  subst hv
  refine ap_blk (by kernel_rfl) infoByte rfl (by omega) hown hb hblk (by simp [Lib.byteCells_length, hm]) (byteCells_one news) (by unfold maxLen; omega) (by omega) fun q' c' w' g => h q' c' w' ?_
  simpa [byteCells, GrewB] using g
/-- append of a string. -/
theorem ap_s {k : Option Addr × Nat × Nat → T} {cs : Array Bool} {base : Nat} {q : Option Addr} {n c : Nat} {bs : List UInt8} (hown : RowB w base q n c bs) (hb : base ≤ w.heap.size) {s : ByteArray} (hsz : n + s.size ≤ 140737488355328)
    (h : ∀ q' c' w', GrewB base w q n c w' q' (n + s.size) c' (bs ++ s.data.toList) → wpT Tryd.prog R Q (k (q', n + s.size, c')) md w') :
    wpT Tryd.prog R Q (.run (builtin .append #[29, 9] 29 cs #[.slice q n c, .string s]) (.one (.leaf .sl)) k) md w := by
  have hi := infoByte
  cases hi' : Tryd.prog.info? 5 with
  | none => rw [hi'] at hi; cases hi
  | some i =>
    rw [hi'] at hi
    simp only [Option.map_some, Option.some.injEq, Prod.mk.injEq] at hi
    obtain ⟨hz, hs, hy⟩ := hi
    obtain ⟨v', w', hr, h2, h3, h4⟩ := Lib.run_append_own_string (P := Tryd.prog) w base 29 9 29 5 i (by kernel_rfl) (by kernel_rfl) hi' hz hs hy (.slice q n c) n (byteCells bs) hown s (by unfold maxLen; omega) hsz hb
    have h5 : ∀ k, v'.ownBlock = some k → rowS q n c k ∨ w.heap.size ≤ k := by
      intro k hk
      rcases hown.2 with ⟨e0, rfl⟩ | ⟨g, cap, cur, e0, hbg, hg, hnc, hcm, hcs, htake⟩
      · obtain ⟨rfl, _, rfl⟩ := by simpa using e0
        by_cases hm : s.size = 0
        · rw [h4.2 ⟨rfl, hm⟩] at hk; cases hk
        · have hr2 := run_append_nil_string (P := Tryd.prog) w 29 9 29 5 i (.int .u8 0) (by kernel_rfl) (by kernel_rfl) hi' hz s (by omega) (by omega) (by rw [hy]; omega)
          rw [hr] at hr2
          simp only [Result.ok.injEq] at hr2
          rw [hr2.1] at hk
          exact .inr (by simp [Value.ownBlock] at hk; omega)
      · simp only [Value.slice.injEq, true_and] at e0
        obtain ⟨rfl, rfl⟩ := e0
        by_cases hroom : n + s.size ≤ c
        · have hr2 := Lib.run_append_room_string (P := Tryd.prog) w 29 9 29 5 i (by kernel_rfl) (by kernel_rfl) hi' hs g n c cur hg s hroom (by omega)
          rw [hr] at hr2
          simp only [Result.ok.injEq] at hr2
          rw [hr2.1] at hk
          exact .inl hk
        · have holds : ∀ j u, (byteCells bs)[j]? = some u → w.cell? ((⟨g, 0, none⟩ : Addr).add j) = some u := World.ownsRow.cells (g := g) hown rfl
          have hr2 := Lib.run_append_grow_string (P := Tryd.prog) w 29 9 29 5 i (.int .u8 0) (by kernel_rfl) (by kernel_rfl) hi' hz ⟨g, 0, none⟩ n c (byteCells bs) (by rw [hs]; exact hown.1) holds s (by omega) (by omega) (by rw [hy]; exact growslice_fits (by omega) (by omega))
          rw [hr] at hr2
          simp only [Result.ok.injEq] at hr2
          rw [hr2.1] at hk
          exact .inr (by simp [Value.ownBlock] at hk; omega)
    have h2' : w'.ownsRow base 5 1 v' (n + s.size) (byteCells (bs ++ s.data.toList)) := by simpa [byteCells, strCells] using h2
    obtain ⟨q', d, rfl, ho⟩ := Row.of h2'
    refine t_run (x := (q', n + s.size, d)) (w' := w') ?_ (h q' d w' ⟨ho, Ch.of_grown h3 (fun k hk => hk), h5⟩)
    simp only [builtin, Sem.run_bind, hr, Result.andThen]
    rfl
end

/-! ### Encode -/
def groupsB (u : Nat) : List UInt8 := if h : u ≥ 128 then UInt8.ofNat (u % 128 + 128) :: groupsB (u / 128) else [UInt8.ofNat u]
termination_by u
decreasing_by omega
theorem groupsB_ge {u : Nat} (h : u ≥ 128) : groupsB u = UInt8.ofNat (u % 128 + 128) :: groupsB (u / 128) := by rw [groupsB]; simp [h]
theorem groupsB_lt {u : Nat} (h : ¬ u ≥ 128) : groupsB u = [UInt8.ofNat u] := by rw [groupsB]; simp [h]
theorem groupsB_len : ∀ (k u : Nat), u < 128 ^ k → 0 < k → (groupsB u).length ≤ k
  | 0, _, _, h => absurd h (by omega)
  | k + 1, u, hu, _ => by
    by_cases h : u ≥ 128
    · rw [groupsB_ge h]
      have hk : 0 < k := by
        rcases Nat.eq_zero_or_pos k with rfl | h'
        · omega
        · exact h'
      have : u / 128 < 128 ^ k := by rw [Nat.pow_succ] at hu; omega
      have := groupsB_len k (u / 128) this hk
      simp only [List.length_cons]; omega
    · rw [groupsB_lt h]; simp
def zig (i : Int) : Nat := if i ≥ 0 then (2 * i).toNat else (-2 * i - 1).toNat
mutual
def encV : VT → List UInt8
  | .mk k i s l => if k = 1 then 1 :: groupsB (zig i) else if k = 2 then 2 :: UInt8.ofNat s.size :: s.data.toList else if k = 3 then 3 :: UInt8.ofNat l.length :: encL l else [0]
def encL : List VT → List UInt8
  | [] => []
  | x :: r => encV x ++ encL r
end
theorem encV_def (x : VT) : encV x = (if x.kind = 1 then 1 :: groupsB (zig x.int) else if x.kind = 2 then 2 :: UInt8.ofNat x.text.size :: x.text.data.toList else if x.kind = 3 then 3 :: UInt8.ofNat x.items.length :: encL x.items else [0]) := by cases x; simp only [encV]; rfl
theorem encL_take {l : List VT} {i : Nat} {x : VT} (hx : l[i]? = some x) : encL (l.take (i + 1)) = encL (l.take i) ++ encV x := by
  have key : ∀ (a b : List VT), encL (a ++ b) = encL a ++ encL b := fun a b => by
    induction a with
    | nil => simp [encL]
    | cons y r ih => simp [encL, ih, List.append_assoc]
  rw [List.take_add_one, key, hx]
  simp [encL]
theorem encL_app (a b : List VT) : encL (a ++ b) = encL a ++ encL b := by
  induction a with
  | nil => simp [encL]
  | cons y r ih => simp [encL, ih, List.append_assoc]
theorem encL_le {l : List VT} (i : Nat) : (encL (l.take i)).length ≤ (encL l).length := by
  conv => rhs; rw [← List.take_append_drop i l]
  rw [encL_app, List.length_append]; omega

theorem u8_toNat (n : Nat) : ((UInt8.ofNat n).toNat : Int) = (n : Int) % 256 := by simp
theorem or80 (x : Int) (h0 : 0 ≤ x) : IntKind.u8.wrap (((BitVec.ofInt IntKind.u8.bits (IntKind.u8.wrap x) ||| BitVec.ofInt IntKind.u8.bits 128).toNat : Nat) : Int) = ((UInt8.ofNat (x.toNat % 128 + 128)).toNat : Int) := by
  have key : ∀ n : Fin 256, (BitVec.ofInt 8 (n.val : Int) ||| BitVec.ofInt 8 128).toNat = n.val % 128 + 128 := by decide
  have h := key ⟨(x % 256).toNat, by omega⟩
  have e : (((x % 256).toNat : Nat) : Int) = x % 256 := by omega
  simp only [e] at h
  rw [IntKind.wrap_u8', IntKind.wrap_u8', u8_toNat]
  show ((((BitVec.ofInt 8 (x % 256) ||| BitVec.ofInt 8 128).toNat : Nat) : Int)) % 256 = _
  rw [h]
  omega
theorem shr7 (x : Int) : x.fdiv (2 ^ Min.min (Int.toNat 7) IntKind.u64.bits) = x / 128 := by
  rw [show (2 : Int) ^ Min.min (Int.toNat 7) IntKind.u64.bits = 128 by decide]
  rw [Int.fdiv_eq_ediv_of_nonneg _ (by decide)]

/-! the tree of function 54 -/
abbrev fx54_1 : List (Tmp × Value) := [(4, .slice none 0 0)]
abbrev m54_1 : List (Tmp × Comp) := [(0, .leaf .sl), (1, .leaf (.int .u64))]
abbrev mx54_1 : List (Tmp × Comp) := [(0, .leaf .sl), (1, .leaf (.int .u64))]
abbrev mr54_1 : List (Tmp × Comp) := []
def s54_1 : Script := .sym (.nop (.nop (.nop (.nop (.nop (.rn (.one (.leaf .sl)) .nil)))))) .nil
theorem t54_1 (l_0 : Option Addr × Nat × Nat) (x_1 : Int) (g : Nat → Value) : pieceT Tryd.prog (at_ Tryd.f54 [1, 0, 0, 0]) 20 (fx54_1 ++ mvals m54_1 (l_0, x_1, ())) g (m54_1.map (·.1)) (mx54_1.map (·.1)) (mr54_1.map (·.1)) s54_1 =
  .br (Decidable.decide (x_1 ≥ 128))
    (.new (.cells #[.int .u8 (IntKind.u8.wrap (↑(BitVec.ofInt IntKind.u8.bits (IntKind.u8.wrap x_1) ||| BitVec.ofInt IntKind.u8.bits 128).toNat : Int))] 5 (0, 0)) (fun n2 =>
      .run (builtin .append #[29, 29] 29 #[false, false] #[.slice l_0.1 l_0.2.1 l_0.2.2, .slice (some ⟨n2, 0, none⟩) 1 1]) (.one (.leaf .sl)) (fun l3 =>
        .fin .normal [(0, .slice l3.1 l3.2.1 l3.2.2), (1, .int .u64 (x_1.fdiv (2 ^ Min.min (Int.toNat 7) IntKind.u64.bits)))])))
    (.fin (.exit 0) [(0, .slice l_0.1 l_0.2.1 l_0.2.2), (1, .int .u64 x_1)]) := by kernel_rfl
def s54 : Script := .lp 0 [4] [0, 1] mx54_1 mr54_1 (.nop (.nop (.nop (.nop (.rn (.one (.leaf .sl)) .nil))))) .nil
theorem t54 (qa0 : Option Addr) (qn0 : Nat) (qc0 : Nat) (qx1 : Int) : fnT Tryd.prog Tryd.f54 #[.slice qa0 qn0 qc0, .int .u64 qx1] s54 =
  .loop (at_ Tryd.f54 [1, 0, 0, 0]) 20 fx54_1 [(0, .slice qa0 qn0 qc0), (1, .int .u64 qx1)] mx54_1 mr54_1 0 (fun u4 g4 =>
    .new (.cells #[.int .u8 (IntKind.u8.wrap u4.snd.fst)] 5 (0, 0)) (fun n5 =>
      .run (builtin .append #[29, 29] 29 #[false, false] #[.slice u4.1.1 u4.1.2.1 u4.1.2.2, .slice (some ⟨n5, 0, none⟩) 1 1]) (.one (.leaf .sl)) (fun l6 =>
        .done (.returned (.slice l6.1 l6.2.1 l6.2.2))))) (fun u7 g7 =>
    .stuck) := by kernel_rfl

theorem groups_any (w : World) (base : Nat) (q : Option Addr) (n c : Nat) (bs : List UInt8) (u : Int) (hb : base ≤ w.heap.size) (hown : RowB w base q n c bs) (h0 : 0 ≤ u) (hsz : n + (groupsB u.toNat).length ≤ 140737488355328) :
    Calls Tryd.prog 54 #[.slice q n c, .int .u64 u] w fun e w' => ∃ q' n' c', e = .returned (.slice q' n' c') ∧ GrewB base w q n c w' q' n' c' (bs ++ groupsB u.toNat) := by
  refine calls_of_fnT mixed Tryd.func54 (s := s54) ?_
  rw [t54]
  refine loop_i mixed m54_1 s54_1 (by kernel_rfl) (by kernel_rfl)
    (fun (v : (Option Addr × Nat × Nat) × Int × Unit) w' => 0 ≤ v.2.1 ∧ ∃ bs', GrewB base w q n c w' v.1.1 v.1.2.1 v.1.2.2 bs' ∧ bs' ++ groupsB v.2.1.toNat = bs ++ groupsB u.toNat) (fun (v : (Option Addr × Nat × Nat) × Int × Unit) _ => v.2.1.toNat) ((q, n, c), u, ()) rfl ⟨h0, bs, Grew.refl hown, rfl⟩ ?_
  rintro ⟨⟨q1, n1, c1⟩, (x : Int), ⟨⟩⟩ g w1 ⟨(x0 : 0 ≤ x), bs1, (hg : GrewB base w q n c w1 q1 n1 c1 bs1), hs⟩
  rw [t54_1]
  dsimp only at hs
  have ho : RowB w1 base q1 n1 c1 bs1 := hg.own
  have hl : n1 + (groupsB x.toNat).length = n + (groupsB u.toNat).length := by
    have := congrArg List.length hs
    simp only [List.length_append, ho.len, hown.len] at this
    exact this
  have hb1 : base ≤ w1.heap.size := Nat.le_trans hb hg.ch.size
  refine br_both (fun e => ?_) fun e => ?_
  · have e : x ≥ 128 := of_decide_eq_true e
    rw [groupsB_ge (u := x.toNat) (by omega)] at hs hl
    simp only [List.length_cons] at hl
    refine nw fun w2 h2 z2 b2 => ?_
    refine ap_b (ho.no h2) (by omega) b2 [UInt8.ofNat (x.toNat % 128 + 128)] ?_ rfl (by omega) ?_
    · simp only [byteCells, List.map_cons, List.map_nil]
      rw [or80 x x0]
    intro q' c' w' g'
    refine ⟨((q', n1 + 1, c'), x / 128, ()), ?_, ⟨by dsimp only; omega, _, hg.trans (g'.after h2), ?_⟩, by dsimp only; omega⟩
    · rw [shr7]; rfl
    · dsimp only
      rw [← hs, show (x / 128).toNat = x.toNat / 128 by omega]
      simp
  · have e : ¬ x ≥ 128 := of_decide_eq_false e
    refine ⟨rfl, ((q1, n1, c1), x, ()), rfl, fun g => ?_⟩
    rw [groupsB_lt (u := x.toNat) (by omega)] at hs hl
    simp only [List.length_cons, List.length_nil] at hl
    refine nw fun w2 h2 z2 b2 => ?_
    refine ap_b (ho.no h2) (by omega) b2 [UInt8.ofNat x.toNat] ?_ rfl (by omega) ?_
    · simp only [byteCells, List.map_cons, List.map_nil]
      rw [u8_toNat, IntKind.wrap_u8']
      congr 2
      omega
    intro q' c' w' g'
    exact ⟨q', _, c', rfl, hs ▸ hg.trans (g'.after h2)⟩

/-! the tree of function 36 -/
abbrev fx36_17 (l16 : Option Addr × Nat × Nat) : List (Tmp × Value) := [(4, .slice none 0 0), (47, .slice l16.1 l16.2.1 l16.2.2), (48, .int .i64 (↑l16.snd.fst : Int))]
abbrev m36_17 : List (Tmp × Comp) := [(0, .leaf .sl), (49, .leaf (.int .i64))]
abbrev mx36_17 : List (Tmp × Comp) := [(0, .leaf .sl)]
abbrev mr36_17 : List (Tmp × Comp) := []
def s36_17 : Script := .sym (.ix (.ld (.int .i64) (.ld (.int .i64) (.ld .str (.ld .sl (.ld (.int .i64) (.ld (.int .i64) (.ld .str (.ld .sl (.cl (.one (.leaf .sl)) .nil)))))))))) .nil
theorem t36_17 (l16 : Option Addr × Nat × Nat) (l_0 : Option Addr × Nat × Nat) (x_49 : Int) (g : Nat → Value) : pieceT Tryd.prog (at_ Tryd.f36 [1, 0, 1, 0, 1, 1, 1, 1, 1, 0, 1, 0, 1, 0, 0]) 61 (fx36_17 l16 ++ mvals m36_17 (l_0, x_49, ())) g (m36_17.map (·.1)) (mx36_17.map (·.1)) (mr36_17.map (·.1)) s36_17 =
  .br (Decidable.decide (x_49 < (↑l16.snd.fst : Int)))
    (.idx l16.1 x_49 l16.2.1 4 (fun a18 =>
      .load a18 (.int .i64) (fun x19 =>
        .load (a18.add 1) (.int .i64) (fun x20 =>
          .load (a18.add 2) .str (fun s21 =>
            .load (a18.add 3) .sl (fun l22 =>
              .new (.cells #[.int .i64 0, .int .i64 0, .string (bytesL []), .slice none 0 0] 24 (0, 0)) (fun n23 =>
                .store ⟨n23, 0, none⟩ (.int .i64 x19)
                  (.store ⟨n23, 1, none⟩ (.int .i64 x20)
                    (.store ⟨n23, 2, none⟩ (.string s21)
                      (.store ⟨n23, 3, none⟩ (.slice l22.1 l22.2.1 l22.2.2)
                        (.load ⟨n23, 0, none⟩ (.int .i64) (fun x24 =>
                          .load ⟨n23, 1, none⟩ (.int .i64) (fun x25 =>
                            .load ⟨n23, 2, none⟩ .str (fun s26 =>
                              .load ⟨n23, 3, none⟩ .sl (fun l27 =>
                                .call 36 #[.slice l_0.1 l_0.2.1 l_0.2.2, .agg #[.int .i64 x24, .int .i64 x25, .string s26, .slice l27.1 l27.2.1 l27.2.2]] (.one (.leaf .sl)) (fun l28 =>
                                  .fin .normal [(0, .slice l28.1 l28.2.1 l28.2.2), (49, .int .i64 (IntKind.i64.wrap (x_49 + 1)))]))))))))))))))))
    (.fin (.exit 1) [(0, .slice l_0.1 l_0.2.1 l_0.2.2)]) := by kernel_rfl
def s36 : Script := .ld (.int .i64) (.sym (.hd0 (.hq 0 (.hq 3 (.hq 4 (.ld (.int .i64) (.hq 5 (.hq 6 (.hq 7 (.hq 8 (.ld (.int .i64) (.hq 9 (.hq 10 (.hq 11 (.he 1 (.he 2 (.rn (.one (.leaf .sl)) (.he 12 (.cl (.one (.leaf .sl)) (.hq 13 .nil))))))))))))))))))) (.sym (.ld .str (.nop (.nop (.nop (.rn (.one (.leaf .sl)) (.ld .str (.rn (.one (.leaf .sl)) .nil))))))) (.sym (.ld .sl (.nop (.nop (.nop (.rn (.one (.leaf .sl)) (.ld .sl (.lp 1 [4, 47, 48] [0, 49] mx36_17 mr36_17 .nil .nil))))))) (.nop (.nop (.rn (.one (.leaf .sl)) .nil))))))
theorem t36 (qa0 : Option Addr) (qn0 : Nat) (qc0 : Nat) (qx1_0 : Int) (qx1_1 : Int) (qs1_2 : ByteArray) (qa1_3 : Option Addr) (qn1_3 : Nat) (qc1_3 : Nat) : fnT Tryd.prog Tryd.f36 #[.slice qa0 qn0 qc0, .agg #[.int .i64 qx1_0, .int .i64 qx1_1, .string qs1_2, .slice qa1_3 qn1_3 qc1_3]] s36 =
  .new (.cells #[.int .i64 qx1_0, .int .i64 qx1_1, .string qs1_2, .slice qa1_3 qn1_3 qc1_3] 24 (0, 0)) (fun n1 =>
    .load ⟨n1, 0, none⟩ (.int .i64) (fun x2 =>
      .br (x2 == 1)
        (.hdrawn
          (.load ⟨n1, 1, none⟩ (.int .i64) (fun x3 =>
            .load ⟨n1, 1, none⟩ (.int .i64) (fun x4 =>
              .eff
                (.new (.cells #[.int .u8 1] 5 (0, 0)) (fun n5 =>
                  .back
                    (.eff
                      (.run (builtin .append #[29, 29] 29 #[false, false] #[.slice qa0 qn0 qc0, .slice (some ⟨n5, 0, none⟩) 1 1]) (.one (.leaf .sl)) (fun l6 =>
                        .back
                          (.eff
                            (.call 54 #[.slice l6.1 l6.2.1 l6.2.2, .int .u64 (IntKind.u64.wrap (↑(BitVec.ofInt IntKind.u64.bits (IntKind.u64.wrap (IntKind.u64.wrap x3 * 2 ^ Min.min (Int.toNat 1) IntKind.u64.bits)) ^^^ BitVec.ofInt IntKind.u64.bits (IntKind.u64.wrap (x4.fdiv (2 ^ Min.min (Int.toNat 63) IntKind.i64.bits)))).toNat : Int))] (.one (.leaf .sl)) (fun l7 =>
                              .back
                                (.undrawn
                                  (.done (.returned (.slice l7.1 l7.2.1 l7.2.2))))))))))))))))
        (.br (x2 == 2)
          (.load ⟨n1, 2, none⟩ .str (fun s8 =>
            .new (.cells #[.int .u8 2, .int .u8 (IntKind.u8.wrap (↑s8.size : Int))] 5 (0, 0)) (fun n9 =>
              .run (builtin .append #[29, 29] 29 #[false, false] #[.slice qa0 qn0 qc0, .slice (some ⟨n9, 0, none⟩) 2 2]) (.one (.leaf .sl)) (fun l10 =>
                .load ⟨n1, 2, none⟩ .str (fun s11 =>
                  .run (builtin .append #[29, 9] 29 #[false, false] #[.slice l10.1 l10.2.1 l10.2.2, .string s11]) (.one (.leaf .sl)) (fun l12 =>
                    .done (.returned (.slice l12.1 l12.2.1 l12.2.2))))))))
          (.br (x2 == 3)
            (.load ⟨n1, 3, none⟩ .sl (fun l13 =>
              .new (.cells #[.int .u8 3, .int .u8 (IntKind.u8.wrap (↑l13.snd.fst : Int))] 5 (0, 0)) (fun n14 =>
                .run (builtin .append #[29, 29] 29 #[false, false] #[.slice qa0 qn0 qc0, .slice (some ⟨n14, 0, none⟩) 2 2]) (.one (.leaf .sl)) (fun l15 =>
                  .load ⟨n1, 3, none⟩ .sl (fun l16 =>
                    .loop (at_ Tryd.f36 [1, 0, 1, 0, 1, 1, 1, 1, 1, 0, 1, 0, 1, 0, 0]) 61 (fx36_17 l16) [(0, .slice l15.1 l15.2.1 l15.2.2), (49, .int .i64 0)] mx36_17 mr36_17 1 (fun u29 g29 =>
                      .done (.returned (.slice u29.1.1 u29.1.2.1 u29.1.2.2))) (fun u30 g30 =>
                      .stuck))))))
            (.new (.cells #[.int .u8 0] 5 (0, 0)) (fun n31 =>
              .run (builtin .append #[29, 29] 29 #[false, false] #[.slice qa0 qn0 qc0, .slice (some ⟨n31, 0, none⟩) 1 1]) (.one (.leaf .sl)) (fun l32 =>
                .done (.returned (.slice l32.1 l32.2.1 l32.2.2))))))))) := by kernel_rfl

/-- What is in range: each whole number an int64, each text no longer than memory lets it be. -/
def Rng (i : Int) : Prop := -9223372036854775808 ≤ i ∧ i ≤ 9223372036854775807
theorem zigzag (x : Int) (h : Rng x) : IntKind.u64.wrap (((BitVec.ofInt IntKind.u64.bits (IntKind.u64.wrap (IntKind.u64.wrap x * 2 ^ Min.min (Int.toNat 1) IntKind.u64.bits)) ^^^ BitVec.ofInt IntKind.u64.bits (IntKind.u64.wrap (x.fdiv (2 ^ Min.min (Int.toNat 63) IntKind.i64.bits)))).toNat : Nat) : Int) = (zig x : Int) := by
  obtain ⟨h0, h1⟩ := h
  rw [show (2 : Int) ^ Min.min (Int.toNat 63) IntKind.i64.bits = 9223372036854775808 by decide, show (2 : Int) ^ Min.min (Int.toNat 1) IntKind.u64.bits = 2 by decide]
  rw [Int.fdiv_eq_ediv_of_nonneg _ (by decide)]
  show IntKind.u64.wrap (((BitVec.ofInt 64 _ ^^^ BitVec.ofInt 64 _).toNat : Nat) : Int) = _
  unfold zig
  by_cases hx : x ≥ 0
  · rw [if_pos hx, show x / 9223372036854775808 = 0 by omega]
    rw [show IntKind.u64.wrap 0 = 0 by decide, show BitVec.ofInt 64 0 = 0#64 by decide, BitVec.xor_zero, BitVec.toNat_ofInt]
    simp only [IntKind.wrap_u64]
    omega
  · rw [if_neg hx, show x / 9223372036854775808 = -1 by omega]
    rw [show IntKind.u64.wrap (-1) = 18446744073709551615 by decide, show BitVec.ofInt 64 18446744073709551615 = BitVec.allOnes 64 by decide, BitVec.xor_allOnes, BitVec.toNat_not, BitVec.toNat_ofInt]
    simp only [IntKind.wrap_u64]
    omega
mutual
def Fit : VT → Prop
  | .mk k i s l => Rng k ∧ Rng i ∧ s.size ≤ 9223372036854775807 ∧ FitL l
def FitL : List VT → Prop
  | [] => True
  | x :: r => Fit x ∧ FitL r
end
theorem Fit_def (x : VT) : Fit x = (Rng x.kind ∧ Rng x.int ∧ x.text.size ≤ 9223372036854775807 ∧ FitL x.items) := by cases x; simp only [Fit]; rfl
theorem FitL_get {l : List VT} {i : Nat} {x : VT} (h : FitL l) (hx : l[i]? = some x) : Fit x := by
  induction l generalizing i with
  | nil => simp at hx
  | cons y r ih =>
    simp only [FitL] at h
    cases i with
    | zero => simp at hx; subst hx; exact h.1
    | succ i => exact ih h.2 (by simpa using hx)

theorem encode_any (k : Nat) : ∀ (x : VT) (p : Option Addr) (m c : Nat) (w0 w : World) (q : Option Addr) (n d : Nat) (bs : List UInt8), SizeOf.sizeOf x < k → IsV w0 x p m c → Fit x → Ch No w0 w → RowB w w0.heap.size q n d bs → n + (encV x).length ≤ 140737488355328 →
    Calls Tryd.prog 36 #[.slice q n d, valV x p m c] w fun e w' => ∃ q' n' d', e = .returned (.slice q' n' d') ∧ GrewB w0.heap.size w q n d w' q' n' d' (bs ++ encV x) := by
  induction k with
  | zero => intro x p m c w0 w q n d bs h; omega
  | succ k ih =>
    intro x p m c w0 w q n d bs hk hx hf h0w ho hsz
    refine calls_of_fnT mixed Tryd.func36 (s := s36) ?_
    unfold valV
    rw [t36]
    rw [Fit_def] at hf
    have hb := h0w.size
    refine nw fun w1 h1 z1 b1 => ?_
    have ho1 := ho.no h1
    refine ld_int (b1.cell 0) (br_both (fun e => ?_) fun e => ?_)
    · have e : x.kind = 1 := by simpa using e
      rw [encV_def, if_pos e] at hsz ⊢
      simp only [List.length_cons] at hsz
      refine ⟨fun w' => ∃ q' n' d' xs, GrewB w0.heap.size w1 q n d w' q' n' d' xs ∧ Blk w' w.heap.size (cellsV x p m c) 24, ⟨q, n, d, bs, Grew.then_no (Grew.refl ho1) (Ch.refl _ _).drew, b1.ch (Ch.refl No _).drew (fun h => h)⟩, ?_⟩
      refine lh_int (fun w' ⟨_, _, _, _, _, hc⟩ => hc.cell 1) (lh_int (fun w' ⟨_, _, _, _, _, hc⟩ => hc.cell 1) ?_)
      have g1 : GrewB w0.heap.size w1 q n d w1.drew q n d bs := Grew.then_no (Grew.refl ho1) (Ch.refl _ _).drew
      have b1' : Blk w1.drew w.heap.size (cellsV x p m c) 24 := b1.ch (Ch.refl No _).drew (fun h => h)
      refine nw fun w2 h2 z2 b2 => bk ⟨q, n, d, bs, g1.then_no h2, b1'.ch h2 (fun h => h)⟩ ?_
      have g2 := g1.then_no h2
      refine ap_b g2.own (by have := h2.size; have : w1.drew.heap.size = w1.heap.size := rfl; omega) b2 [1] rfl rfl (by omega) fun q3 c3 w3 g3 => ?_
      have b3 := Grew.blk g3 g2.own (b1'.ch h2 (fun h => h)) (by decide)
      have g3' : GrewB w0.heap.size w1 q n d w3 q3 (n + 1) c3 (bs ++ [1]) := Grew.trans g2 g3
      refine bk ⟨_, _, _, _, g3', b3⟩ ?_
      rw [zigzag x.int hf.2.1]
      refine cl_i (groups_any w3 w0.heap.size q3 (n + 1) c3 (bs ++ [1]) (zig x.int) (by have := g3'.ch.size; omega) g3'.own (by omega) (by rw [Int.toNat_natCast]; omega)) ?_
      rintro e w4 ⟨q4, n4, c4, rfl, g4⟩
      refine ⟨(q4, n4, c4), rfl, bk ⟨_, _, _, _, Grew.trans g3' g4, Grew.blk g4 g3'.own b3 (by decide)⟩ ?_⟩
      refine ⟨q4, n4, c4, rfl, ?_⟩
      have := Grew.after h1 (Grew.trans g3' g4)
      rw [Int.toNat_natCast] at this
      simpa [GrewB] using this
    have e1 : ¬ x.kind = 1 := by simpa using e
    refine br_both (fun e => ?_) fun e => ?_
    · have e : x.kind = 2 := by simpa using e
      rw [encV_def, if_neg e1, if_pos e] at hsz ⊢
      simp only [List.length_cons, Array.length_toList] at hsz
      have hsz' : n + (x.text.size + 1 + 1) ≤ 140737488355328 := hsz
      refine ld_str (b1.cell 2) (nw fun w2 h2 z2 b2 => ?_)
      refine ap_b (ho1.no h2) (by omega) b2 [2, UInt8.ofNat x.text.size] ?_ rfl (by omega) ?_
      · simp only [byteCells, List.map_cons, List.map_nil]
        rw [u8_toNat, IntKind.wrap_u8']
        rfl
      intro q3 c3 w3 g3
      have b3 := Grew.blk g3 (ho1.no h2) (b1.ch h2 (fun h => h)) (by decide)
      refine ld_str (b3.cell 2) (ap_s g3.own (by have := g3.ch.size; omega) (by omega) fun q4 c4 w4 g4 => ?_)
      refine ⟨q4, _, c4, rfl, ?_⟩
      have := Grew.after (h1.trans h2) (Grew.trans g3 g4)
      simpa [GrewB] using this
    have e2 : ¬ x.kind = 2 := by simpa using e
    refine br_both (fun e => ?_) fun e => ?_
    · have e : x.kind = 3 := by simpa using e
      rw [encV_def, if_neg e1, if_neg e2, if_pos e] at hsz ⊢
      simp only [List.length_cons] at hsz
      have hl := RIt_len hx.its
      refine ld_sl (b1.cell 3) (nw fun w2 h2 z2 b2 => ?_)
      refine ap_b (ho1.no h2) (by omega) b2 [3, UInt8.ofNat x.items.length] ?_ rfl (by omega) ?_
      · simp only [byteCells, List.map_cons, List.map_nil]
        rw [u8_toNat, IntKind.wrap_u8', hl]
        rfl
      intro q3 c3 w3 g3
      have b3 := Grew.blk g3 (ho1.no h2) (b1.ch h2 (fun h => h)) (by decide)
      refine ld_sl (b3.cell 3) ?_
      have G3 : GrewB w0.heap.size w q n d w3 q3 (n + 2) c3 (bs ++ [3, UInt8.ofNat x.items.length]) := Grew.after (h1.trans h2) g3
      refine loop_i mixed m36_17 s36_17 (by kernel_rfl) (by kernel_rfl)
        (fun (v : (Option Addr × Nat × Nat) × Int × Unit) w' => 0 ≤ v.2.1 ∧ v.2.1 ≤ m ∧ GrewB w0.heap.size w q n d w' v.1.1 v.1.2.1 v.1.2.2 (bs ++ [3, UInt8.ofNat x.items.length] ++ encL (x.items.take v.2.1.toNat))) (fun (v : (Option Addr × Nat × Nat) × Int × Unit) _ => m - v.2.1.toNat) ((q3, n + 2, c3), 0, ()) rfl ⟨by simp, by simp, by simpa [encL] using G3⟩ ?_
      rintro ⟨⟨q4, n4, c4⟩, (i : Int), ⟨⟩⟩ g w4 ⟨(i0 : 0 ≤ i), (i1 : i ≤ m), g4⟩
      rw [t36_17]
      dsimp only at g4 ⊢
      refine br_both (fun e => ?_) fun e => ?_
      · have hi : i < m := by simpa using e
        have hcap := hx.cap
        have hbig := hx.big
        obtain ⟨y, hy⟩ : ∃ u, x.items[i.toNat]? = some u := ⟨_, List.getElem?_eq_getElem (by omega)⟩
        obtain ⟨ad, r, my, cy, rfl, cv, vy⟩ := hx.get hy
        have h04 : Ch No w0 w4 := h0w.then_ (Grew.below g4 ho) (fun i hi (h : _ ≤ i) => by omega)
        have C := cv.ch (w' := w4) (fun a v ha => h04.cellv ha (fun h => h))
        refine ix_i i0 (by simpa using hi) (ld_int C.c0 (ld_int C.c1 (ld_str C.c2 (ld_sl C.c3 ?_))))
        refine nw fun w5 h5 z5 b5 => ?_
        refine st_blk b5 (by simp) rfl fun w6 h6 z6 b6 => st_blk b6 (by simp) rfl fun w7 h7 z7 b7 => st_blk b7 (by simp) rfl fun w8 h8 z8 b8 => st_blk b8 (by simp) rfl fun w9 h9 z9 b9 => ?_
        refine ld_int (b9.cell 0) (ld_int (b9.cell 1) (ld_str (b9.cell 2) (ld_sl (b9.cell 3) ?_)))
        have h49 : Ch No w4 w9 := h5.then_ (h6.trans (h7.trans (h8.trans h9))) (fun i hi (e : i = _) => by omega)
        have hsz2 := VT.size_lt hy
        have g9 := Grew.then_no g4 h49
        have hlen9 := RowB.len g9.own
        simp only [List.length_append, List.length_cons, List.length_nil] at hlen9
        have hqn : bs.length = n := RowB.len ho
        have ht := encL_take hy
        have hle := encL_le (l := x.items) (i.toNat + 1)
        rw [ht, List.length_append] at hle
        refine cl_i (ih y r my cy w0 w9 q4 n4 c4 _ (by omega) vy (FitL_get hf.2.2.2 hy) (h04.trans h49) g9.own (by omega)) ?_
        rintro e w10 ⟨q10, n10, c10, rfl, g10⟩
        refine ⟨(q10, n10, c10), rfl, ((q10, n10, c10), i + 1, ()), ?_, ⟨by dsimp only; omega, by dsimp only; omega, ?_⟩, by dsimp only; omega⟩
        · rw [wrap_succ i0 (by omega)]; rfl
        · dsimp only
          rw [show (i + 1).toNat = i.toNat + 1 by omega, ht, ← List.append_assoc]
          exact Grew.trans g9 g10
      · have hi : ¬ i < m := by simpa using e
        refine ⟨rfl, ((q4, n4, c4), ()), rfl, fun g => ⟨q4, n4, c4, rfl, ?_⟩⟩
        rw [List.take_of_length_le (by omega)] at g4
        simpa using g4
    · have e3 : ¬ x.kind = 3 := by simpa using e
      rw [encV_def, if_neg e1, if_neg e2, if_neg e3] at hsz ⊢
      simp only [List.length_cons, List.length_nil] at hsz
      refine nw fun w2 h2 z2 b2 => ?_
      refine ap_b (ho1.no h2) (by omega) b2 [0] rfl rfl (by omega) fun q3 c3 w3 g3 => ?_
      exact ⟨q3, _, c3, rfl, Grew.after (h1.trans h2) g3⟩
end Go.Proofs.YtjellmblammiaaaDoor
