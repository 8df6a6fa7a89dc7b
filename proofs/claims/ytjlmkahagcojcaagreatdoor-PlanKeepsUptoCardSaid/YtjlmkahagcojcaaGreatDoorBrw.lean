/- Rows of bytes: what append does with them. -/
import Derived.Test.YtjlmkahagcojcaaGreatDoorOpb
import Derived.Lib.AppendStr
import Derived.Lib.UnsafeStr
import Derived.Maps.AppendAt
namespace Go.Proofs.YtjlmkahagcojcaaGreatDoor
open Go Tr
open Go.Lib (byteCells strCells)
set_option maxRecDepth 100000
abbrev tStr : TypeId := 9
/-! ### Rows of bytes -/
theorem infoByte : (Tryz.prog.info? tByte).map (fun i => (i.zero, i.size, i.bytes)) = some (some (.int .u8 0), 1, 1) := by kernel_rfl
/-- A slice of bytes of its own. -/
def RowB (w : World) (base : Nat) (p : Option Addr) (n c : Nat) (bs : List UInt8) : Prop := Row w base tByte 1 p n c (byteCells bs)
def GrewB (base : Nat) (w : World) (p : Option Addr) (n c : Nat) (w' : World) (p' : Option Addr) (n' c' : Nat) (bs : List UInt8) : Prop := Grew base tByte 1 w p n c w' p' n' c' (byteCells bs)
theorem RowB.len {w : World} {base : Nat} {p : Option Addr} {n c : Nat} {bs : List UInt8} (h : RowB w base p n c bs) : bs.length = n := by
  have := h.1
  simpa [Lib.byteCells_length] using this
theorem byteCells_one (l : List UInt8) : ∀ u ∈ byteCells l, u.oneCell' = true := fun u hu => by
  simp only [byteCells, List.mem_map] at hu
  obtain ⟨b, _, rfl⟩ := hu
  rfl
section
variable {R : Ending → World → Prop} {Q : Exit → List (Tmp × Value) → World → Prop} {md : Md} [hmd : md.Runs] {w : World}
theorem ap_b {k : Option Addr × Nat × Nat → T} {cs : Array Bool} {base : Nat} {q : Option Addr} {n c : Nat} {bs : List UInt8} (hown : RowB w base q n c bs) (hb : base ≤ w.heap.size) {b m c' : Nat} {vs : List Value} {u : TypeId} (hblk : Blk w b vs u) (news : List UInt8) (hv : vs = byteCells news) (hm : news.length = m) (hsz : n + m ≤ 140737488355328)
    (h : ∀ q' c' w', GrewB base w q n c w' q' (n + m) c' (bs ++ news) → wpT Tryz.prog R Q (k (q', n + m, c')) md w') :
    wpT Tryz.prog R Q (.run (builtin .append #[tBytes, tBytes] tBytes cs #[.slice q n c, .slice (some ⟨b, 0, none⟩) m c']) (.one (.leaf .sl)) k) md w := by
  subst hv
  refine ap_blk (by kernel_rfl) infoByte rfl (by omega) hown hb hblk (by simp [Lib.byteCells_length, hm]) (byteCells_one news) (by unfold maxLen; omega) (by omega) fun q' c' w' g => h q' c' w' ?_
  simpa [byteCells, GrewB] using g
/-- append of a string. -/
theorem ap_s {k : Option Addr × Nat × Nat → T} {cs : Array Bool} {base : Nat} {q : Option Addr} {n c : Nat} {bs : List UInt8} (hown : RowB w base q n c bs) (hb : base ≤ w.heap.size) {s : ByteArray} (hsz : n + s.size ≤ 140737488355328)
    (h : ∀ q' c' w', GrewB base w q n c w' q' (n + s.size) c' (bs ++ s.data.toList) → wpT Tryz.prog R Q (k (q', n + s.size, c')) md w') :
    wpT Tryz.prog R Q (.run (builtin .append #[tBytes, tStr] tBytes cs #[.slice q n c, .string s]) (.one (.leaf .sl)) k) md w := by
  have hi := infoByte
  cases hi' : Tryz.prog.info? tByte with
  | none => rw [hi'] at hi; cases hi
  | some i =>
    rw [hi'] at hi
    simp only [Option.map_some, Option.some.injEq, Prod.mk.injEq] at hi
    obtain ⟨hz, hs, hy⟩ := hi
    obtain ⟨v', w', hr, h2, h3, h4⟩ := Lib.run_append_own_string (P := Tryz.prog) w base tBytes tStr tBytes tByte i (by kernel_rfl) (by kernel_rfl) hi' hz hs hy (.slice q n c) n (byteCells bs) hown s (by unfold maxLen; omega) hsz hb
    have h5 : ∀ k, v'.ownBlock = some k → rowS q n c k ∨ w.heap.size ≤ k := by
      intro k hk
      rcases hown.2 with ⟨e0, rfl⟩ | ⟨g, cap, cur, e0, hbg, hg, hnc, hcm, hcs, htake⟩
      · obtain ⟨rfl, _, rfl⟩ := by simpa using e0
        by_cases hm : s.size = 0
        · rw [h4.2 ⟨rfl, hm⟩] at hk; cases hk
        · have hr2 := run_append_nil_string (P := Tryz.prog) w tBytes tStr tBytes tByte i (.int .u8 0) (by kernel_rfl) (by kernel_rfl) hi' hz s (by omega) (by omega) (by rw [hy]; omega)
          rw [hr] at hr2
          simp only [Result.ok.injEq] at hr2
          rw [hr2.1] at hk
          exact .inr (by simp [Value.ownBlock] at hk; omega)
      · simp only [Value.slice.injEq, true_and] at e0
        obtain ⟨rfl, rfl⟩ := e0
        by_cases hroom : n + s.size ≤ c
        · have hr2 := Lib.run_append_room_string (P := Tryz.prog) w tBytes tStr tBytes tByte i (by kernel_rfl) (by kernel_rfl) hi' hs g n c cur hg s hroom (by omega)
          rw [hr] at hr2
          simp only [Result.ok.injEq] at hr2
          rw [hr2.1] at hk
          exact .inl hk
        · have holds : ∀ j u, (byteCells bs)[j]? = some u → w.cell? ((⟨g, 0, none⟩ : Addr).add j) = some u := World.ownsRow.cells (g := g) hown rfl
          have hr2 := Lib.run_append_grow_string (P := Tryz.prog) w tBytes tStr tBytes tByte i (.int .u8 0) (by kernel_rfl) (by kernel_rfl) hi' hz ⟨g, 0, none⟩ n c (byteCells bs) (by rw [hs]; exact hown.1) holds s (by omega) (by omega) (by rw [hy]; exact growslice_fits (by omega) (by omega))
          rw [hr] at hr2
          simp only [Result.ok.injEq] at hr2
          rw [hr2.1] at hk
          exact .inr (by simp [Value.ownBlock] at hk; omega)
    have h2' : w'.ownsRow base tByte 1 v' (n + s.size) (byteCells (bs ++ s.data.toList)) := by simpa [byteCells, strCells] using h2
    obtain ⟨q', d, rfl, ho⟩ := Row.of h2'
    refine t_run (x := (q', n + s.size, d)) (w' := w') ?_ (h q' d w' ⟨ho, Ch.of_grown h3 (fun k hk => hk), h5⟩)
    simp only [builtin, Sem.run_bind, hr, Result.andThen]
    rfl
end

theorem RowB.at {w : World} {base : Nat} {p : Option Addr} {n c : Nat} {bs : List UInt8} (h : RowB w base p n c bs) : AtB w p n bs := ⟨h.len, fun hn => by
  rcases h.2 with ⟨_, rfl⟩ | ⟨g, cap, cur, e, _⟩
  · omega
  · simp only [Value.slice.injEq, true_and] at e
    obtain ⟨rfl, rfl⟩ := e
    refine ⟨_, rfl, fun j u hu => ?_⟩
    exact World.ownsRow.cells (g := g) h rfl j _ (by simp [byteCells, hu])⟩
end Go.Proofs.YtjlmkahagcojcaaGreatDoor
