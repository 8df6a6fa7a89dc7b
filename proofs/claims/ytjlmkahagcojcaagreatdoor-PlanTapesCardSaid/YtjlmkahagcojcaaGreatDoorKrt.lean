/- Rows of bytes: what append does with them. strings.Builder: what its methods do, block by block. Plain: what a script's printing writes; a step's line is read as the step. A step's line, written. PrintScript: the walk. Scripts, in plain Lean: what is written is read back. -/
import Derived.Test.YtjlmkahagcojcaaGreatDoorSup
import Derived.Lib.AppendStr
import Derived.Lib.UnsafeStr
import Derived.Maps.AppendAt
import Derived.Lib.Builder
import Derived.Lib.ItoaNum
import Derived.Lib.AppendIntMem
import Derived.Lib.Repeat
namespace Go.Proofs.YtjlmkahagcojcaaGreatDoor
open Go Tr
open Go.Lib (byteCells strCells)
set_option maxRecDepth 100000
abbrev tStr : TypeId := 9
/-! ### Rows of bytes -/
theorem infoByte : (Tryz.prog.info? tByte).map (fun i => (i.zero, i.size, i.bytes)) = some (some (.int .u8 0), 1, 1) := by kernel_rfl
/-- A slice of bytes of its own. -/
def RowB (w : World) (base : Nat) (p : Option Addr) (n c : Nat) (bs : List UInt8) : Prop := Row w base tByte 1 p n c (byteCells bs)
def GrewB (base : Nat) (w : World) (p : Option Addr) (n c : Nat) (w' : World) (p' : Option Addr) (n' c' : Nat) (bs : List UInt8) : Prop := Grew base tByte 1 w p n c w' p' n' c' (byteCells bs)
theorem RowB.len {w : World} {base : Nat} {p : Option Addr} {n c : Nat} {bs : List UInt8} (h : RowB w base p n c bs) : bs.length = n := by
  have := h.1
  simpa [Lib.byteCells_length] using this
theorem byteCells_one (l : List UInt8) : ∀ u ∈ byteCells l, u.oneCell' = true := fun u hu => by
  simp only [byteCells, List.mem_map] at hu
  obtain ⟨b, _, rfl⟩ := hu
  rfl
section
variable {R : Ending → World → Prop} {Q : Exit → List (Tmp × Value) → World → Prop} {md : Md} [hmd : md.Runs] {w : World}
theorem ap_b {k : Option Addr × Nat × Nat → T} {cs : Array Bool} {base : Nat} {q : Option Addr} {n c : Nat} {bs : List UInt8} (hown : RowB w base q n c bs) (hb : base ≤ w.heap.size) {b m c' : Nat} {vs : List Value} {u : TypeId} (hblk : Blk w b vs u) (news : List UInt8) (hv : vs = byteCells news) (hm : news.length = m) (hsz : n + m ≤ 140737488355328)
    (h : ∀ q' c' w', GrewB base w q n c w' q' (n + m) c' (bs ++ news) → wpT Tryz.prog R Q (k (q', n + m, c')) md w') :
    wpT Tryz.prog R Q (.run (builtin .append #[tBytes, tBytes] tBytes cs #[.slice q n c, .slice (some ⟨b, 0, none⟩) m c']) (.one (.leaf .sl)) k) md w := by
  subst hv
  refine ap_blk (by kernel_rfl) infoByte rfl (by omega) hown hb hblk (by simp [Lib.byteCells_length, hm]) (byteCells_one news) (by unfold maxLen; omega) (by omega) fun q' c' w' g => h q' c' w' ?_
  simpa [byteCells, GrewB] using g
/-- append of a string. -/
theorem ap_s {k : Option Addr × Nat × Nat → T} {cs : Array Bool} {base : Nat} {q : Option Addr} {n c : Nat} {bs : List UInt8} (hown : RowB w base q n c bs) (hb : base ≤ w.heap.size) {s : ByteArray} (hsz : n + s.size ≤ 140737488355328)
    (h : ∀ q' c' w', GrewB base w q n c w' q' (n + s.size) c' (bs ++ s.data.toList) → wpT Tryz.prog R Q (k (q', n + s.size, c')) md w') :
    wpT Tryz.prog R Q (.run (builtin .append #[tBytes, tStr] tBytes cs #[.slice q n c, .string s]) (.one (.leaf .sl)) k) md w := by
  have hi := infoByte
  cases hi' : Tryz.prog.info? tByte with
  | none => rw [hi'] at hi; cases hi
  | some i =>
    rw [hi'] at hi
    simp only [Option.map_some, Option.some.injEq, Prod.mk.injEq] at hi
    obtain ⟨hz, hs, hy⟩ := hi
    obtain ⟨v', w', hr, h2, h3, h4⟩ := Lib.run_append_own_string (P := Tryz.prog) w base tBytes tStr tBytes tByte i (by kernel_rfl) (by kernel_rfl) hi' hz hs hy (.slice q n c) n (byteCells bs) hown s (by unfold maxLen; omega) hsz hb
    have h5 : ∀ k, v'.ownBlock = some k → rowS q n c k ∨ w.heap.size ≤ k := by
      intro k hk
      rcases hown.2 with ⟨e0, rfl⟩ | ⟨g, cap, cur, e0, hbg, hg, hnc, hcm, hcs, htake⟩
      · obtain ⟨rfl, _, rfl⟩ := by simpa using e0
        by_cases hm : s.size = 0
        · rw [h4.2 ⟨rfl, hm⟩] at hk; cases hk
        · have hr2 := run_append_nil_string (P := Tryz.prog) w tBytes tStr tBytes tByte i (.int .u8 0) (by kernel_rfl) (by kernel_rfl) hi' hz s (by omega) (by omega) (by rw [hy]; omega)
          rw [hr] at hr2
          simp only [Result.ok.injEq] at hr2
          rw [hr2.1] at hk
          exact .inr (by simp [Value.ownBlock] at hk; omega)
      · simp only [Value.slice.injEq, true_and] at e0
        obtain ⟨rfl, rfl⟩ := e0
        by_cases hroom : n + s.size ≤ c
        · have hr2 := Lib.run_append_room_string (P := Tryz.prog) w tBytes tStr tBytes tByte i (by kernel_rfl) (by kernel_rfl) hi' hs g n c cur hg s hroom (by omega)
          rw [hr] at hr2
          simp only [Result.ok.injEq] at hr2
          rw [hr2.1] at hk
          exact .inl hk
        · have holds : ∀ j u, (byteCells bs)[j]? = some u → w.cell? ((⟨g, 0, none⟩ : Addr).add j) = some u := World.ownsRow.cells (g := g) hown rfl
          have hr2 := Lib.run_append_grow_string (P := Tryz.prog) w tBytes tStr tBytes tByte i (.int .u8 0) (by kernel_rfl) (by kernel_rfl) hi' hz ⟨g, 0, none⟩ n c (byteCells bs) (by rw [hs]; exact hown.1) holds s (by omega) (by omega) (by rw [hy]; exact growslice_fits (by omega) (by omega))
          rw [hr] at hr2
          simp only [Result.ok.injEq] at hr2
          rw [hr2.1] at hk
          exact .inr (by simp [Value.ownBlock] at hk; omega)
    have h2' : w'.ownsRow base tByte 1 v' (n + s.size) (byteCells (bs ++ s.data.toList)) := by simpa [byteCells, strCells] using h2
    obtain ⟨q', d, rfl, ho⟩ := Row.of h2'
    refine t_run (x := (q', n + s.size, d)) (w' := w') ?_ (h q' d w' ⟨ho, Ch.of_grown h3 (fun k hk => hk), h5⟩)
    simp only [builtin, Sem.run_bind, hr, Result.andThen]
    rfl
end
theorem RowB.at {w : World} {base : Nat} {p : Option Addr} {n c : Nat} {bs : List UInt8} (h : RowB w base p n c bs) : AtB w p n bs := ⟨h.len, fun hn => by
  rcases h.2 with ⟨_, rfl⟩ | ⟨g, cap, cur, e, _⟩
  · omega
  · simp only [Value.slice.injEq, true_and] at e
    obtain ⟨rfl, rfl⟩ := e
    refine ⟨_, rfl, fun j u hu => ?_⟩
    exact World.ownsRow.cells (g := g) h rfl j _ (by simp [byteCells, hu])⟩
end Go.Proofs.YtjlmkahagcojcaaGreatDoor
namespace Go.Proofs.YtjlmkahagcojcaaGreatDoor
open Go Tr
open Go.Lib (byteCells strCells)
set_option maxRecDepth 100000
/-! the tree of function 69 -/
def s69 : Script := .ld .ptr (.rn (.one (.leaf .bool)) (.sym (.nop (.nop (.rn (.one (.leaf .ptr)) (.nop (.rn (.one (.leaf .ptr)) .nil))))) (.ld .ptr (.nop (.rn (.one (.leaf .bool)) (.sym .nil .nil))))))
theorem t69 (qa0 : Addr) : fnT Tryz.prog Tryz.f69 #[.pointer (some qa0)] s69 = .load qa0 .ptr (fun p1 => .run (vNext (guarded .eql 91 (.tmp 5) (.const (.pointer none)) (.pointer p1) (.pointer none))) (.one (.leaf .bool)) (fun b2 => .br b2 (.run (vNext (convert 91 179 (.pointer (some qa0)))) (.one (.leaf .ptr)) (fun p3 => .run (vNext (convert 179 91 (.pointer p3))) (.one (.leaf .ptr)) (fun p4 => .store qa0 (.pointer p4) (.done (.returned (.tuple #[])))))) (.load qa0 .ptr (fun p5 => .run (vNext (guarded .neq 91 (.tmp 17) (.tmp 18) (.pointer p5) (.pointer (some qa0)))) (.one (.leaf .bool)) (fun b6 => .br b6 (.stuck) (.done (.returned (.tuple #[])))))))) := by kernel_rfl
/-! the tree of function 35 -/
def s35 : Script := .cl (.tup []) (.ld .sl (.nop (.rn (.one (.leaf .sl)) .nil)))
theorem t35 (qa0 : Addr) (qs1 : ByteArray) : fnT Tryz.prog Tryz.f35 #[.pointer (some qa0), .string qs1] s35 = .call 69 #[.pointer (some qa0)] (.tup []) (fun r1 => .load (qa0.add 1) .sl (fun l2 => .run (builtin .append #[92, 9] 92 #[false, false] #[.slice l2.1 l2.2.1 l2.2.2, .string qs1]) (.one (.leaf .sl)) (fun l3 => .store (qa0.add 1) (.slice l3.1 l3.2.1 l3.2.2) (.done (.returned (.tuple #[.int .i64 (↑qs1.size : Int), .nilIface])))))) := by kernel_rfl
abbrev tBd : TypeId := 94
abbrev tBdP : TypeId := 91
abbrev tUnsafe : TypeId := 179
/-- A Builder in the block b, which holds the bytes bs in the row (p, n, c). -/
structure Bld (base : Nat) (w : World) (b : Nat) (p : Option Addr) (n c : Nat) (bs : List UInt8) : Prop where
  blk : ∃ a : Option Addr, (a = none ∨ a = some ⟨b, 0, none⟩) ∧ Blk w b [.pointer a, .slice p n c] tBd
  row : RowB w base p n c bs
  lo : base ≤ b
/-- From w to w' the Builder b has been written to; nothing else has turned. -/
structure GrewW (base b : Nat) (w : World) (p : Option Addr) (n c : Nat) (w' : World) (p' : Option Addr) (n' c' : Nat) (bs : List UInt8) : Prop where
  bld : Bld base w' b p' n' c' bs
  ch : Ch (fun k => k = b ∨ rowS p n c k) w w'
  lies : ∀ k, rowS p' n' c' k → rowS p n c k ∨ w.heap.size ≤ k
section
variable {base b : Nat} {w w1 w2 : World} {p p1 p2 : Option Addr} {n c n1 c1 n2 c2 : Nat} {bs bs1 bs2 : List UInt8}
theorem Bld.lt (h : Bld base w b p n c bs) : b < w.heap.size := by obtain ⟨a, _, hb⟩ := h.blk; exact hb.lt
theorem Bld.no (h : Bld base w b p n c bs) (hc : Ch No w w1) : Bld base w1 b p n c bs := by
  obtain ⟨a, ha, hb⟩ := h.blk
  exact ⟨⟨a, ha, hb.ch hc (fun h => h)⟩, h.row.no hc, h.lo⟩
theorem Bld.len (h : Bld base w b p n c bs) : bs.length = n := h.row.len
theorem GrewW.refl (h : Bld base w b p n c bs) : GrewW base b w p n c w p n c bs := ⟨h, Ch.refl _ _, fun _ h => .inl h⟩
theorem GrewW.trans (hb : Bld base w b p n c bs) (g : GrewW base b w p n c w1 p1 n1 c1 bs1) (h : GrewW base b w1 p1 n1 c1 w2 p2 n2 c2 bs2) : GrewW base b w p n c w2 p2 n2 c2 bs2 :=
  ⟨h.bld, g.ch.then_ h.ch (fun i hi h => h.imp id (fun h => (g.lies i h).resolve_right (by omega))), fun k hk => by
    rcases h.lies k hk with h' | h'
    · exact g.lies k h'
    · exact .inr (Nat.le_trans g.ch.size h')⟩
theorem GrewW.after (h : Ch No w w1) (g : GrewW base b w1 p n c w2 p2 n2 c2 bs2) : GrewW base b w p n c w2 p2 n2 c2 bs2 :=
  ⟨g.bld, h.no.trans g.ch, fun k hk => (g.lies k hk).imp id (fun h' => Nat.le_trans h.size h')⟩
theorem GrewW.then_no (g : GrewW base b w p n c w1 p1 n1 c1 bs1) (h : Ch No w1 w2) : GrewW base b w p n c w2 p1 n1 c1 bs1 := ⟨g.bld.no h, g.ch.trans h.no, g.lies⟩
theorem GrewW.below (g : GrewW base b w p n c w1 p1 n1 c1 bs1) (h : Bld base w b p n c bs) : Ch (base ≤ ·) w w1 := g.ch.mono fun k hk => by
  rcases hk with rfl | hk
  · exact h.lo
  · exact (h.row.lt hk).1
/-- A block of another type stays. -/
theorem GrewW.blk (g : GrewW base b w p n c w1 p1 n1 c1 bs1) (h : Bld base w b p n c bs) {k : Nat} {vs : List Value} {t : TypeId} (hb : Blk w k vs t) (ht : t ≠ tByte) (ht' : t ≠ tBd) : Blk w1 k vs t := by
  refine hb.ch g.ch fun hk => ?_
  rcases hk with rfl | hk
  · obtain ⟨a, _, hb'⟩ := h.blk
    unfold Blk at hb hb'
    rw [hb] at hb'
    simp only [Option.some.injEq, Obj.cells.injEq] at hb'
    exact ht' hb'.2.1
  · exact h.row.ne hb ht hk
end
theorem eql_none (x : Operand) (w : World) : (vNext (guarded .eql tBdP x (.const (.pointer none)) (.pointer none) (.pointer none))).run Tryz.prog w = .ok (.value (.bool true)) w := by kernel_rfl
theorem eql_some (x : Operand) (a : Addr) (w : World) : (vNext (guarded .eql tBdP x (.const (.pointer none)) (.pointer (some a)) (.pointer none))).run Tryz.prog w = .ok (.value (.bool false)) w := by kernel_rfl
theorem info72 : (Tryz.prog.info? tBd).map (·.size) = some 2 := by kernel_rfl
theorem copy_any (base b : Nat) (w : World) (p : Option Addr) (n c : Nat) (bs : List UInt8) (h : Bld base w b p n c bs) :
    Calls Tryz.prog 69 #[.pointer (some ⟨b, 0, none⟩)] w fun e w' => e = .returned (.tuple #[]) ∧ Ch (· = b) w w' ∧ w'.heap.size = w.heap.size ∧ Blk w' b [.pointer (some ⟨b, 0, none⟩), .slice p n c] tBd := by
  obtain ⟨a, ha, hb⟩ := h.blk
  cases hj : Tryz.prog.info? tBd with
  | none => have := info72; rw [hj] at this; cases this
  | some j =>
    have hjs : j.size = 2 := by have := info72; rw [hj] at this; simpa using this
    refine calls_of_fnT mixed Tryz.func69 (s := s69) ?_
    rw [t69]
    refine ld_ptr (hb.cell 0) ?_
    rcases ha with rfl | rfl
    · refine t_run (x := true) (eql_none _ w) (br_both (fun _ => ?_) (fun e => by cases e))
      have hsh : w.shape? b = some (tBd, 2) := by unfold Blk at hb; simp [World.shape?, hb]
      have h1 : (vNext (convert tBdP tUnsafe (.pointer (some ⟨b, 0, none⟩)))).run Tryz.prog w = .ok (.value (.pointer (some ⟨b, 0, none⟩))) w := by
        unfold vNext
        simp only [Sem.run_bind, Lib.run_to_unsafe (P := Tryz.prog) (src := tBdP) (dst := tUnsafe) (t := tBd) w ⟨b, 0, none⟩ (by kernel_rfl) (by kernel_rfl) hj (by rw [hjs]; decide) hsh (Nat.zero_lt_succ 1), Result.andThen]
        rfl
      have h2 : (vNext (convert tUnsafe tBdP (.pointer (some ⟨b, 0, none⟩)))).run Tryz.prog w = .ok (.value (.pointer (some ⟨b, 0, none⟩))) w := by
        unfold vNext
        simp only [Sem.run_bind, Lib.run_from_unsafe (P := Tryz.prog) (src := tUnsafe) (dst := tBdP) (u := tBd) w ⟨b, 0, none⟩ (by kernel_rfl) (by kernel_rfl) hj hsh (by kernel_rfl), Result.andThen]
        rfl
      refine t_run (x := some ⟨b, 0, none⟩) h1 (t_run (x := some ⟨b, 0, none⟩) h2 ?_)
      refine st_blk hb (by simp) rfl fun w1 k1 z1 b1 => ⟨rfl, k1, z1, b1⟩
    · refine t_run (x := false) (eql_some _ _ w) (br_both (fun e => by cases e) fun _ => ?_)
      refine ld_ptr (hb.cell 0) ?_
      have h1 : ∀ x y : Operand, (vNext (guarded .neq tBdP x y (.pointer (some ⟨b, 0, none⟩)) (.pointer (some ⟨b, 0, none⟩)))).run Tryz.prog w = .ok (.value (.bool false)) w := by
        intro x y
        unfold vNext guarded
        have hg : (eqGuard .neq tBdP x y (.pointer (some ⟨b, 0, none⟩)) (.pointer (some ⟨b, 0, none⟩))).run Tryz.prog w = .ok () w := by simp [eqGuard, go_sem]
        simp only [Sem.run_bind, hg, Lib.run_neq_ptr_same (P := Tryz.prog) (tp := tBdP) (te := tBd) w ⟨b, 0, none⟩ (by kernel_rfl) hj, Result.andThen]
        rfl
      exact t_run (x := false) (h1 _ _) (br_both (fun e => by cases e) fun _ => ⟨rfl, Ch.refl _ _, rfl, hb⟩)
theorem Bld.copied {base b : Nat} {w w' : World} {p : Option Addr} {n c : Nat} {bs : List UInt8} (h : Bld base w b p n c bs) (hc : Ch (· = b) w w') (hb : Blk w' b [.pointer (some ⟨b, 0, none⟩), .slice p n c] tBd) : GrewW base b w p n c w' p n c bs :=
  ⟨⟨⟨_, .inr rfl, hb⟩, h.row.ch hc (fun k hk e => by
    subst e
    obtain ⟨a, _, hb'⟩ := h.blk
    exact h.row.ne hb' (by decide) hk), h.lo⟩, hc.mono fun k hk => .inl hk, fun k hk => .inl hk⟩
/-- The row has been written to; then the Builder's slice. -/
theorem Bld.stored {base b : Nat} {w w1 w2 : World} {p : Option Addr} {n c : Nat} {bs : List UInt8} {q : Option Addr} {m d : Nat} {bs' : List UInt8} {t : TypeId} (h : Bld base w b p n c bs) (g : GrewB base w p n c w1 q m d bs') (hc : Ch (· = b) w1 w2) (ht : t = tBd)
    (hb : Blk w2 b [.pointer (some ⟨b, 0, none⟩), .slice q m d] t) (hb1 : ∃ vs, Blk w1 b vs tBd) : GrewW base b w p n c w2 q m d bs' := by
  subst ht
  obtain ⟨vs, hb1⟩ := hb1
  refine ⟨⟨⟨_, .inr rfl, hb⟩, g.own.ch hc (fun k hk e => ?_), h.lo⟩, (g.ch.mono fun k hk => .inr hk).trans (hc.mono fun k hk => .inl hk), g.lies⟩
  subst e
  exact Row.ne g.own hb1 (by decide) hk
theorem writeString_any (base b : Nat) (w : World) (p : Option Addr) (n c : Nat) (bs : List UInt8) (s : ByteArray) (h : Bld base w b p n c bs) (hw : base ≤ w.heap.size) (hsz : n + s.size ≤ 140737488355328) :
    Calls Tryz.prog 35 #[.pointer (some ⟨b, 0, none⟩), .string s] w fun e w' => e = .returned (.tuple #[.int .i64 s.size, .nilIface]) ∧ ∃ q m d, GrewW base b w p n c w' q m d (bs ++ s.data.toList) := by
  refine calls_of_fnT mixed Tryz.func35 (s := s35) ?_
  rw [t35]
  refine cl_i (copy_any base b w p n c bs h) ?_
  rintro e w1 ⟨rfl, h1, z1, b1⟩
  refine ⟨(), rfl, ?_⟩
  have g1 := h.copied h1 b1
  refine ld_sl (b1.cell 1) (ap_s g1.bld.row (by omega) hsz fun q d w2 g2 => ?_)
  have b2 := Grew.blk g2 g1.bld.row b1 (by decide)
  refine st_blk b2 (by simp) rfl fun w3 h3 z3 b3 => ⟨rfl, q, n + s.size, d, ?_⟩
  exact GrewW.trans h g1 (g1.bld.stored g2 h3 rfl b3 ⟨_, b2⟩)
end Go.Proofs.YtjlmkahagcojcaaGreatDoor
namespace Go.Proofs.YtjlmkahagcojcaaGreatDoor
open Go
set_option maxRecDepth 100000
/-! ### Numerals -/
theorem dec_unfold (u : Nat) : Lib.decDigits u = if u < 10 then [UInt8.ofNat (48 + u)] else Lib.decDigits (u / 10) ++ [UInt8.ofNat (48 + u % 10)] := by
  rw [Lib.decDigits]; split <;> rfl
theorem dec_len : ∀ (k u : Nat), u < 10 ^ (k + 1) → 1 ≤ (Lib.decDigits u).length ∧ (Lib.decDigits u).length ≤ k + 1
  | 0, u, h => by rw [dec_unfold, if_pos (by omega)]; exact ⟨Nat.le_refl _, Nat.le_refl _⟩
  | k + 1, u, h => by
    rw [dec_unfold]
    by_cases h1 : u < 10
    · rw [if_pos h1]; simp
    · rw [if_neg h1]
      have := dec_len k (u / 10) (by rw [Nat.pow_succ] at h; omega)
      simp; omega
/-! ### A step's text -/
/-! ### A script's text -/
end Go.Proofs.YtjlmkahagcojcaaGreatDoor
namespace Go.Proofs.YtjlmkahagcojcaaGreatDoor
open Go Tr
set_option maxRecDepth 100000
/-! the tree of function 34 -/
/-! the tree of function 68 -/
/-! the tree of function 32 -/
def s32 : Script := .nil
theorem t32 : fnT Tryz.prog Tryz.f32 #[] s32 = .new (.cells #[.int .i64 0, .int .i64 0, .iface 69 (.int .i64 68)] 122 (0, 0)) (fun n1 => .done (.returned (.iface 120 (.pointer (some ⟨n1, 0, none⟩))))) := by kernel_rfl
theorem ba_eq {b : ByteArray} {l : List UInt8} (h : b.data.toList = l) : b = bytesL l := by
  subst h
  cases b with
  | mk d => simp [bytesL]
theorem ba_app (a b : ByteArray) : (a ++ b).data.toList = a.data.toList ++ b.data.toList := by rw [ByteArray.data_append, Array.toList_append]
theorem unwritten_any (w : World) : Calls Tryz.prog 32 #[] w fun e w' => ∃ v, e = .returned v ∧ ErrAt w' v 0 0 68 ∧ Ch No w w' := by
  refine calls_of_fnT mixed Tryz.func32 (s := s32) ?_
  rw [t32]
  exact nw fun w1 h1 z1 b1 => ⟨_, rfl, ⟨_, rfl, b1⟩, h1⟩
end Go.Proofs.YtjlmkahagcojcaaGreatDoor
namespace Go.Proofs.YtjlmkahagcojcaaGreatDoor
open Go Tr
set_option maxRecDepth 100000
/-! the tree of function 33 -/
/-! the tree of function 11 -/
theorem Bld.lib {base b : Nat} {w : World} {p : Option Addr} {n c : Nat} {bs : List UInt8} (h : Bld base w b p n c bs) : Lib.IsBuilder tBd tByte base b (Lib.byteCells bs) w := by
  obtain ⟨a, ha, hb⟩ := h.blk
  have hl : (Lib.byteCells bs).length = n := by rw [Lib.byteCells_length]; exact h.len
  have key : ∀ v, Blk w b [v, .slice p n c] tBd → Lib.BuilderAt tBd tByte base b v (Lib.byteCells bs) w := fun v hv => by
    refine ⟨h.lo, .slice p n c, hv, ?_, ?_⟩
    · rw [hl]; exact h.row
    · intro e
      exact h.row.ne hb (by decide) e
  rcases ha with rfl | rfl
  · exact .inl (key _ hb)
  · exact .inr (key _ hb)
end Go.Proofs.YtjlmkahagcojcaaGreatDoor
namespace Go.Proofs.YtjlmkahagcojcaaGreatDoor
open Go
end Go.Proofs.YtjlmkahagcojcaaGreatDoor
