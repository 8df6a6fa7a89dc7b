/- Values whose memory lies in blocks of a kind; rows of values. -/
import Derived.Test.YtkebljkdkaagfaaGreatDoorThr
namespace Go.Proofs.YtkebljkdkaagfaaGreatDoor.V
open Go Tr
open Go.RowKit (Below)
set_option maxRecDepth 100000
mutual
def RItB (B : Nat → Prop) (w : World) : VT → Option Addr → Nat → Prop
  | .mk _ _ _ l, p, n => l.length = n ∧ (0 < n → ∃ ad, p = some ad ∧ B ad.block ∧ RLB B w l ad 0)
def RLB (B : Nat → Prop) (w : World) : List VT → Addr → Nat → Prop
  | [], _, _ => True
  | x :: r, ad, j => (∃ p n c, CellsV w (ad.add (j * 4)) x p n c ∧ n ≤ c ∧ c ≤ 9223372036854775807 ∧ RItB B w x p n) ∧ RLB B w r ad (j + 1)
end
theorem RItB_def (B : Nat → Prop) (w : World) (x : VT) (p : Option Addr) (n : Nat) : RItB B w x p n = (x.items.length = n ∧ (0 < n → ∃ ad, p = some ad ∧ B ad.block ∧ RLB B w x.items ad 0)) := by
  cases x
  simp only [RItB, VT.items]
theorem _root_.Go.Proofs.YtkebljkdkaagfaaGreatDoor.CellsV.keep {w w' : World} {S : Nat → Prop} {a : Addr} {x : VT} {p : Option Addr} {n c : Nat} (h : CellsV w a x p n c) (hc : Ch S w w') (hn : ¬ S a.block) : CellsV w' a x p n c :=
  ⟨hc.cellv h.c0 hn, hc.cellv h.c1 (by rw [add_block]; exact hn), hc.cellv h.c2 (by rw [add_block]; exact hn), hc.cellv h.c3 (by rw [add_block]; exact hn)⟩
mutual
theorem RItB.ch {B S : Nat → Prop} {w w' : World} (hc : Ch S w w') (hB : ∀ k, B k → ¬ S k) : ∀ (x : VT) (p : Option Addr) (n : Nat), RItB B w x p n → RItB B w' x p n
  | .mk _ _ _ l, p, n, h => by
    simp only [RItB] at h ⊢
    refine ⟨h.1, fun hn => ?_⟩
    obtain ⟨ad, e, hb, hl⟩ := h.2 hn
    exact ⟨ad, e, hb, RLB.ch hc hB l ad 0 hb hl⟩
theorem RLB.ch {B S : Nat → Prop} {w w' : World} (hc : Ch S w w') (hB : ∀ k, B k → ¬ S k) : ∀ (l : List VT) (ad : Addr) (j : Nat), B ad.block → RLB B w l ad j → RLB B w' l ad j
  | [], _, _, _, _ => trivial
  | x :: r, ad, j, hb, h => by
    simp only [RLB] at h ⊢
    obtain ⟨⟨p, n, c, h1, h2, h3, h4⟩, hr⟩ := h
    exact ⟨⟨p, n, c, h1.keep hc (by rw [add_block]; exact hB _ hb), h2, h3, RItB.ch hc hB x p n h4⟩, RLB.ch hc hB r ad (j + 1) hb hr⟩
end
mutual
theorem RItB.mono {B B' : Nat → Prop} {w : World} (hB : ∀ k, B k → B' k) : ∀ (x : VT) (p : Option Addr) (n : Nat), RItB B w x p n → RItB B' w x p n
  | .mk _ _ _ l, p, n, h => by
    simp only [RItB] at h ⊢
    refine ⟨h.1, fun hn => ?_⟩
    obtain ⟨ad, e, hb, hl⟩ := h.2 hn
    exact ⟨ad, e, hB _ hb, RLB.mono hB l ad 0 hl⟩
theorem RLB.mono {B B' : Nat → Prop} {w : World} (hB : ∀ k, B k → B' k) : ∀ (l : List VT) (ad : Addr) (j : Nat), RLB B w l ad j → RLB B' w l ad j
  | [], _, _, _ => trivial
  | x :: r, ad, j, h => by
    simp only [RLB] at h ⊢
    obtain ⟨⟨p, n, c, h1, h2, h3, h4⟩, hr⟩ := h
    exact ⟨⟨p, n, c, h1, h2, h3, RItB.mono hB x p n h4⟩, RLB.mono hB r ad (j + 1) hr⟩
end
/-- x stands in w as this value; its memory lies in blocks of B. -/
structure IsVB (B : Nat → Prop) (w : World) (x : VT) (p : Option Addr) (n c : Nat) : Prop where
  cap : n ≤ c
  big : c ≤ 9223372036854775807
  its : RItB B w x p n
namespace IsVB
variable {B B' S : Nat → Prop} {w w' : World} {x : VT} {p : Option Addr} {n c : Nat}
theorem ch (h : IsVB B w x p n c) (hc : Ch S w w') (hB : ∀ k, B k → ¬ S k) : IsVB B w' x p n c := ⟨h.cap, h.big, RItB.ch hc hB _ _ _ h.its⟩
theorem mono (h : IsVB B w x p n c) (hB : ∀ k, B k → B' k) : IsVB B' w x p n c := ⟨h.cap, h.big, RItB.mono hB _ _ _ h.its⟩
theorem flat (k i : Int) (s : ByteArray) : IsVB B w (.mk k i s []) none 0 0 := ⟨by omega, by omega, by rw [RItB_def]; exact ⟨rfl, fun h => by omega⟩⟩
end IsVB
theorem add_add (a : Addr) (i j : Nat) : (a.add i).add j = a.add (i + j) := by
  cases a with
  | mk b o s =>
    cases s with
    | none => rw [addr_add, addr_add, addr_add, Nat.add_assoc]
    | some t =>
      unfold Addr.add
      by_cases hi : i = 0 <;> by_cases hj : j = 0 <;> simp_all [Addr.add] <;> omega
theorem infoVal : (Tryz.prog.info? 125).map (fun i => (i.zero, i.size, i.bytes)) = some (some (.agg #[.int .i64 0, .int .i64 0, .string (bytesL []), .slice none 0 0]), 4, 56) := by kernel_rfl
abbrev Elt := VT × Option Addr × Nat × Nat
def Elt.cells (y : Elt) : List Value := cellsV y.1 y.2.1 y.2.2.1 y.2.2.2
theorem flat4 : ∀ (acc : List Elt) (i r : Nat) (y : Elt), acc[i]? = some y → r < 4 → (acc.flatMap Elt.cells)[i * 4 + r]? = y.cells[r]?
  | [], i, _, _, h, _ => by simp at h
  | z :: acc, 0, r, y, h, hr => by
    simp at h
    subst h
    rw [List.flatMap_cons, Nat.zero_mul, Nat.zero_add, List.getElem?_append_left (by simpa [Elt.cells, cellsV] using hr)]
  | z :: acc, i + 1, r, y, h, hr => by
    have hl : (Elt.cells z).length = 4 := rfl
    rw [List.flatMap_cons, List.getElem?_append_right (by omega), hl, show (i + 1) * 4 + r - 4 = i * 4 + r by omega]
    exact flat4 acc i r y (by simpa using h) hr
theorem RLB_of {B : Nat → Prop} {w : World} {ad : Addr} : ∀ (l : List Elt) (j : Nat), (∀ i y, l[i]? = some y → CellsV w (ad.add ((j + i) * 4)) y.1 y.2.1 y.2.2.1 y.2.2.2 ∧ IsVB B w y.1 y.2.1 y.2.2.1 y.2.2.2) → RLB B w (l.map (·.1)) ad j
  | [], _, _ => trivial
  | y :: r, j, h => by
    simp only [List.map_cons, RLB]
    refine ⟨?_, RLB_of r (j + 1) fun i z hz => ?_⟩
    · obtain ⟨h1, h2⟩ := h 0 y rfl
      exact ⟨_, _, _, h1, h2.cap, h2.big, h2.its⟩
    · have := h (i + 1) z (by simpa using hz)
      rw [show j + 1 + i = j + (i + 1) by omega]
      exact this
/-- A list of values of one's own: the elements' memory lies elsewhere. -/
structure RowV (w : World) (base : Nat) (p : Option Addr) (n c : Nat) (acc : List Elt) : Prop where
  row : Row w base 125 4 p n c (acc.flatMap Elt.cells)
  len : acc.length = n
  elts : ∀ y ∈ acc, IsVB (fun k => base ≤ k ∧ k < w.heap.size ∧ ¬ rowS p n c k) w y.1 y.2.1 y.2.2.1 y.2.2.2
namespace RowV
variable {w w' : World} {base : Nat} {p : Option Addr} {n c : Nat} {acc : List Elt} {S : Nat → Prop}
theorem nil (w : World) (base : Nat) : RowV w base none 0 0 [] := ⟨Row.nil _ _ _ _, rfl, fun _ h => by cases h⟩
theorem ch (h : RowV w base p n c acc) (hc : Ch S w w') (hS : ∀ k, base ≤ k → ¬ S k) : RowV w' base p n c acc :=
  ⟨h.row.ch hc (fun k hk => hS k (h.row.lt hk).1), h.len, fun y hy => ((h.elts y hy).ch hc (fun k hk => hS k hk.1)).mono fun k hk => ⟨hk.1, Nat.lt_of_lt_of_le hk.2.1 hc.size, hk.2.2⟩⟩
theorem cap (h : RowV w base p n c acc) : n ≤ c := by
  have hh := h.row
  rcases hh.2 with ⟨e, he⟩ | ⟨g, cap, cur, e, _, _, hnc, _⟩
  · omega
  · simp only [Value.slice.injEq, true_and] at e
    omega
theorem big (h : RowV w base p n c acc) : c ≤ 9223372036854775807 := by
  have hh := h.row
  rcases hh.2 with ⟨e, he⟩ | ⟨g, cap, cur, e, _, _, _, hm, _⟩
  · simp only [Value.slice.injEq] at e
    omega
  · simp only [Value.slice.injEq, true_and] at e
    have : maxLen = 9223372036854775807 := by decide
    omega
theorem is (h : RowV w base p n c acc) (k i : Int) (s : ByteArray) : IsVB (fun b => base ≤ b ∧ b < w.heap.size) w (.mk k i s (acc.map (·.1))) p n c := by
  refine ⟨h.cap, h.big, ?_⟩
  rw [RItB_def]
  refine ⟨by simp [VT.items, h.len], fun hn => ?_⟩
  have hh := h.row
  rcases hh.2 with ⟨_, he⟩ | ⟨g, cap, cur, e, hb, hg, _⟩
  · omega
  · simp only [Value.slice.injEq, true_and] at e
    obtain ⟨rfl, rfl⟩ := e
    refine ⟨_, rfl, ⟨hb, (Array.getElem?_eq_some_iff.1 hg).1⟩, RLB_of acc 0 fun i y hy => ⟨?_, (h.elts y (List.mem_of_getElem? hy)).mono fun k hk => ⟨hk.1, hk.2.1⟩⟩⟩
    have cell : ∀ r, r < 4 → w.cell? (Addr.add ⟨g, 0, none⟩ (i * 4 + r)) = y.cells[r]? := fun r hr => by
      have hf := flat4 acc i r y hy hr
      have : r < y.cells.length := hr
      rw [List.getElem?_eq_getElem this] at hf ⊢
      exact World.ownsRow.cells (g := g) h.row rfl (i * 4 + r) _ hf
    rw [Nat.zero_add]
    have e0 := cell 0 (by omega)
    rw [Nat.add_zero] at e0
    refine ⟨e0, ?_, ?_, ?_⟩
    · rw [add_add]; exact cell 1 (by omega)
    · rw [add_add]; exact cell 2 (by omega)
    · rw [add_add]; exact cell 3 (by omega)
end RowV
end Go.Proofs.YtkebljkdkaagfaaGreatDoor.V
