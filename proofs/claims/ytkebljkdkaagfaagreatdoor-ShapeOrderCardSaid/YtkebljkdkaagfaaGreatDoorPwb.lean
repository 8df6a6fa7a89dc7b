/- The calls' table, words, texts in quotes. -/
import Derived.Test.YtkebljkdkaagfaaGreatDoorPwa
namespace Go.Proofs.YtkebljkdkaagfaaGreatDoor.E
open Go Tr
open V (rest rest_cases restL sizeB pk_rest cx_i cp_i extract_list)
set_option maxRecDepth 100000
set_option maxHeartbeats 1000000
/-! the tree of function 67 -/
def s67 : Script := .nil
theorem t67 : fnT Tryz.prog Tryz.f67 #[] s67 = .new (.cells #[.string (bytesL [108, 101, 110]), .int .i64 1, .func (.func 74) #[] #[], .string (bytesL [107, 105, 110, 100]), .int .i64 1, .func (.func 75) #[] #[], .string (bytesL [105, 110, 116]), .int .i64 1, .func (.func 76) #[] #[], .string (bytesL [116, 101, 120, 116]), .int .i64 1, .func (.func 77) #[] #[], .string (bytesL [115, 117, 109]), .int .i64 1, .func (.func 78) #[] #[], .string (bytesL [115, 111, 114, 116]), .int .i64 1, .func (.func 79) #[] #[], .string (bytesL [114, 101, 118]), .int .i64 1, .func (.func 80) #[] #[], .string (bytesL [97, 116]), .int .i64 2, .func (.func 81) #[] #[], .string (bytesL [116, 97, 107, 101]), .int .i64 2, .func (.func 82) #[] #[], .string (bytesL [100, 114, 111, 112]), .int .i64 2, .func (.func 83) #[] #[], .string (bytesL [109, 105, 110]), .int .i64 2, .func (.func 84) #[] #[], .string (bytesL [109, 97, 120]), .int .i64 2, .func (.func 85) #[] #[], .string (bytesL [104, 97, 115]), .int .i64 2, .func (.func 86) #[] #[], .string (bytesL [112, 117, 116]), .int .i64 3, .func (.func 87) #[] #[]] 120 (0, 0)) (fun n1 => .done (.returned (.slice (some ⟨n1, 0, none⟩) 14 14))) := by kernel_rfl
/-! the tree of function 63 -/
abbrev fx63_3 (qs0 : ByteArray) (n1 : Nat) (l2 : Option Addr × Nat × Nat) : List (Tmp × Value) := [(0, .string qs0), (2, .pointer (some ⟨n1, 0, none⟩)), (6, .slice l2.1 l2.2.1 l2.2.2), (7, .int .i64 (↑l2.snd.fst : Int))]
abbrev m63_3 : List (Tmp × Comp) := [(8, .leaf (.int .i64))]
abbrev mx63_3 : List (Tmp × Comp) := []
abbrev mr63_3 : List (Tmp × Comp) := [(3, .leaf .bool)]
def s63_3 : Script := .sym (.ix (.ld .str (.ld (.int .i64) (.ld .any (.ld .str (.sym (.ld .str (.ld (.int .i64) (.ld .any .nil))) .nil)))))) .nil
theorem t63_3 (qs0 : ByteArray) (n1 : Nat) (l2 : Option Addr × Nat × Nat) (x_8 : Int) (gg3 : Nat → Value) : pieceT Tryz.prog (at_ Tryz.f63 [1, 0, 1, 0, 0]) 19 (fx63_3 qs0 n1 l2 ++ mvals m63_3 (x_8, ())) gg3 (m63_3.map (·.1)) (mx63_3.map (·.1)) (mr63_3.map (·.1)) s63_3 = .br (Decidable.decide (x_8 < (↑l2.snd.fst : Int))) (.idx l2.1 x_8 l2.2.1 3 (fun a4 => .load a4 .str (fun s5 => .load (a4.add 1) (.int .i64) (fun x6 => .load (a4.add 2) .any (fun v7 => .new (.cells #[.string (bytesL []), .int .i64 0, .nilFunc] 120 (0, 0)) (fun n8 => .store ⟨n8, 0, none⟩ (.string s5) (.store ⟨n8, 1, none⟩ (.int .i64 x6) (.store ⟨n8, 2, none⟩ v7 (.load ⟨n8, 0, none⟩ .str (fun s9 => .br (s9.toList == qs0.toList) (.load ⟨n8, 0, none⟩ .str (fun s10 => .load ⟨n8, 1, none⟩ (.int .i64) (fun x11 => .load ⟨n8, 2, none⟩ .any (fun v12 => .store ⟨n1, 0, none⟩ (.string s10) (.store ⟨n1, 1, none⟩ (.int .i64 x11) (.store ⟨n1, 2, none⟩ v12 (.fin .ret [(3, .bool true)]))))))) (.fin .normal [(8, .int .i64 (IntKind.i64.wrap (x_8 + 1)))]))))))))))) (.fin (.exit 0) []) := by kernel_rfl
def s63 : Script := .cl (.one (.leaf .sl)) (.lp 0 [0, 2, 6, 7] [8] mx63_3 mr63_3 (.ld .str (.ld (.int .i64) (.ld .any .nil))) (.ld .str (.ld (.int .i64) (.ld .any .nil))))
theorem t63 (qs0 : ByteArray) : fnT Tryz.prog Tryz.f63 #[.string qs0] s63 = .new (.cells #[.string (bytesL []), .int .i64 0, .nilFunc] 120 (0, 0)) (fun n1 => .call 67 #[] (.one (.leaf .sl)) (fun l2 => .loop (at_ Tryz.f63 [1, 0, 1, 0, 0]) 19 (fx63_3 qs0 n1 l2) [(8, .int .i64 0)] mx63_3 mr63_3 0 (fun u13 g13 => .store ⟨n1, 0, none⟩ (.string (bytesL [])) (.store ⟨n1, 1, none⟩ (.int .i64 0) (.store ⟨n1, 2, none⟩ .nilFunc (.load ⟨n1, 0, none⟩ .str (fun s14 => .load ⟨n1, 1, none⟩ (.int .i64) (fun x15 => .load ⟨n1, 2, none⟩ .any (fun v16 => .done (.returned (.tuple #[.agg #[.string s14, .int .i64 x15, v16], .bool false]))))))))) (fun u17 g17 => .load ⟨n1, 0, none⟩ .str (fun s18 => .load ⟨n1, 1, none⟩ (.int .i64) (fun x19 => .load ⟨n1, 2, none⟩ .any (fun v20 => .done (.returned (.tuple #[.agg #[.string s18, .int .i64 x19, v20], .bool u17.1])))))))) := by kernel_rfl
theorem ba_eq {a b : ByteArray} (h : a.data.toList = b.data.toList) : a = b := by
  cases a with
  | mk a => cases b with
    | mk b => exact congrArg _ (Array.ext' h)
/-- What the package-level tables hold. -/
structure GlE (w : World) : Prop where
  words : ∀ (j : Nat) (t : Txt), wordsM[j]? = some t → w.cell? ⟨2, j, none⟩ = some (.string (bytesL t))
  signs : ∀ (j : Nat) (t : Txt), signsM[j]? = some t → w.cell? ⟨1, j, none⟩ = some (.string (bytesL t))
  tabs : Tabs w
  ev : V.Ev w
  big : 11 ≤ w.heap.size
theorem GlE.ch {w w' : World} {B : Nat} (h : GlE w) (hc : Ch (B ≤ ·) w w') (hB : 11 ≤ B) : GlE w' where
  words j t ht := hc.cellv (h.words j t ht) (fun (h : B ≤ 2) => by omega)
  signs j t ht := hc.cellv (h.signs j t ht) (fun (h : B ≤ 1) => by omega)
  tabs := h.tabs.ch hc hB
  ev := h.ev.ch hc (fun (h : B ≤ 7) => by omega)
  big := Nat.le_trans h.big hc.size
theorem GlE.no {w w' : World} (h : GlE w) (hc : Ch No w w') : GlE w' := h.ch (B := w.heap.size + 11) (hc.mono fun _ h => h.elim) (by omega)
/-! ### The calls -/
/-- What each call runs. -/
def doF : List FuncId := [74, 75, 76, 77, 78, 79, 80, 81, 82, 83, 84, 85, 86, 87]
def doV (i : Nat) : Value := .func (.func ((doF[i]?).getD 0)) #[] #[]
def bltL (i : Nat) : List Value := [.string (bytesL (nameB i)), .int .i64 (takesB i : Nat), doV i]
def bltCells : List Value := (List.range 14).flatMap bltL
theorem bltCells_at {i r : Nat} (hi : i < 14) (hr : r < 3) : bltCells[i * 3 + r]? = (bltL i)[r]? := by
  have : ∀ i, i < 14 → ∀ r, r < 3 → bltCells[i * 3 + r]? = (bltL i)[r]? := by
    intro i hi r hr
    rcases (by omega : i = 0 ∨ i = 1 ∨ i = 2 ∨ i = 3 ∨ i = 4 ∨ i = 5 ∨ i = 6 ∨ i = 7 ∨ i = 8 ∨ i = 9 ∨ i = 10 ∨ i = 11 ∨ i = 12 ∨ i = 13) with rfl | rfl | rfl | rfl | rfl | rfl | rfl | rfl | rfl | rfl | rfl | rfl | rfl | rfl <;>
      rcases (by omega : r = 0 ∨ r = 1 ∨ r = 2) with rfl | rfl | rfl <;> rfl
  exact this i hi r hr
theorem callsM_get {i : Nat} (hi : i < 14) : ∃ p, callsM[i]? = some p ∧ nameB i = p.1 := by
  have hl : callsM.length = 14 := rfl
  exact ⟨callsM[i]'(by omega), List.getElem?_eq_getElem (by omega), by unfold nameB; rw [List.getElem?_eq_getElem (by omega)]; rfl⟩
theorem findB_some {k : Nat} {t : Txt} (hk : k < 14) (h : nameB k = t) (hl : ∀ j, j < k → nameB j ≠ t) : findB t = some k := by
  have hlen : callsM.length = 14 := rfl
  unfold findB
  rw [List.findIdx?_eq_some_iff_getElem]
  refine ⟨by omega, ?_, fun j hj => ?_⟩
  · obtain ⟨p, hp, hn⟩ := callsM_get hk
    rw [List.getElem?_eq_getElem (by omega)] at hp
    simp only [Option.some.injEq] at hp
    rw [hp, ← h, hn]
    exact beq_self_eq_true _
  · obtain ⟨p, hp, hn⟩ := callsM_get (i := j) (by omega)
    rw [List.getElem?_eq_getElem (by omega)] at hp
    simp only [Option.some.injEq] at hp
    rw [hp, ← hn]
    have := hl j hj
    simpa using this
theorem findB_none {t : Txt} (hl : ∀ j, j < 14 → nameB j ≠ t) : findB t = none := by
  unfold findB
  rw [List.findIdx?_eq_none_iff]
  intro p hp
  obtain ⟨j, hj, e⟩ := List.getElem_of_mem hp
  have hlen : callsM.length = 14 := rfl
  obtain ⟨p', hp', hn⟩ := callsM_get (i := j) (by omega)
  rw [List.getElem?_eq_getElem hj, e] at hp'
  simp only [Option.some.injEq] at hp'
  have := hl j (by omega)
  rw [hn, ← hp'] at this
  simpa using this
def bltV (i : Nat) : Value := .agg #[.string (bytesL (nameB i)), .int .i64 (takesB i : Nat), doV i]
theorem builtins_any (w : World) : Calls Tryz.prog 67 #[] w fun e w' => Ch No w w' ∧ ∃ g, w.heap.size ≤ g ∧ e = .returned (.slice (some ⟨g, 0, none⟩) 14 14) ∧ Blk w' g bltCells tBlt := by
  refine calls_of_fnT mixed Tryz.func67 (s := s67) ?_
  rw [t67]
  exact nw fun w1 h1 z1 b1 => ⟨h1, _, Nat.le_refl _, rfl, b1⟩
theorem find_any (w : World) (s : ByteArray) : Calls Tryz.prog 63 #[.string s] w fun e w' => Ch No w w' ∧ match findB s.data.toList with
    | some i => i < 14 ∧ nameB i = s.data.toList ∧ e = .returned (.tuple #[bltV i, .bool true])
    | none => e = .returned (.tuple #[.agg #[.string (bytesL []), .int .i64 0, .nilFunc], .bool false]) := by
  refine calls_of_fnT mixed Tryz.func63 (s := s63) ?_
  rw [t63]
  refine nw fun w1 h1 z1 b1 => cl_i (builtins_any w1) ?_
  rintro e w2 ⟨h2, g, hg, rfl, g2⟩
  refine ⟨(some ⟨g, 0, none⟩, 14, 14), rfl, ?_⟩
  dsimp only
  have b2 := b1.ch h2 (fun h => h)
  generalize hn1 : w.heap.size = n1 at *
  refine loop_i mixed m63_3 s63_3 (by kernel_rfl) (by kernel_rfl)
    (fun (v : Int × Unit) w' => ∃ k : Nat, v.1 = k ∧ k ≤ 14 ∧ Ch No w w' ∧ Blk w' g bltCells tBlt ∧ Blk w' n1 [.string (bytesL []), .int .i64 0, .nilFunc] tBlt ∧ ∀ j, j < k → nameB j ≠ s.data.toList)
    (fun (v : Int × Unit) _ => 14 - v.1.toNat) (0, ()) rfl ⟨0, rfl, by omega, h1.trans h2, g2, b2, fun j hj => by omega⟩ ?_
  rintro ⟨_, ⟨⟩⟩ gg w3 ⟨k, rfl, hk, h3, g3, b3, hne⟩
  rw [t63_3]
  dsimp only
  refine br_both (fun e => ?_) fun e => ?_
  · have e : (k : Int) < (14 : Nat) := lt_t e
    have hk' : k < 14 := by omega
    refine ix_i (by omega) (by omega) ?_
    rw [addr_add, Int.toNat_natCast, Nat.zero_add]
    have c0 : w3.cell? ⟨g, k * 3, none⟩ = some (.string (bytesL (nameB k))) := by rw [g3.cell]; exact bltCells_at hk' (r := 0) (by omega)
    have c1 : w3.cell? ⟨g, k * 3 + 1, none⟩ = some (.int .i64 (takesB k : Nat)) := by rw [g3.cell]; exact bltCells_at hk' (r := 1) (by omega)
    have c2 : w3.cell? ⟨g, k * 3 + 2, none⟩ = some (doV k) := by rw [g3.cell]; exact bltCells_at hk' (r := 2) (by omega)
    simp only [addr_add]
    refine ld_str c0 (ld_int c1 (ld_any c2 (nw fun w4 h4 z4 b4 => st_blk b4 (by simp) rfl fun w5 h5 z5 b5 => st_blk b5 (by simp) rfl fun w6 h6 z6 b6 => st_blk b6 (by simp) rfl fun w7 h7 z7 b7 => ?_)))
    have h57 := h5.trans (h6.trans h7)
    have hlt1 := b3.lt
    have hltg := g3.lt
    have b7' := (b3.ch h4 (fun h => h)).ch h57 (fun e : n1 = w3.heap.size => by omega)
    have g7 := (g3.ch h4 (fun h => h)).ch h57 (fun e : g = w3.heap.size => by omega)
    have H7 : Ch No w w7 := (h3.trans h4).then_ h57 (fun i hi (e : i = w3.heap.size) => by have := h3.size; omega)
    refine ld_str (b7.cell 0) (br_both (fun e => ?_) fun e => ?_)
    · have e : nameB k = s.data.toList := by
        have e' : ((bytesL (nameB k)).toList == s.toList) = true := e
        rw [tb_list, ByteArray.toList_eq] at e'
        simpa using e'
      refine ld_str (b7.cell 0) (ld_int (b7.cell 1) (ld_any (b7.cell 2) ?_))
      refine st_blk b7' (by simp) rfl fun w8 h8 z8 b8 => st_blk b8 (by simp) rfl fun w9 h9 z9 b9 => st_blk b9 (by simp) rfl fun w10 h10 z10 b10 => ?_
      refine ⟨(true, ()), rfl, fun g => ?_⟩
      refine ld_str (b10.cell 0) (ld_int (b10.cell 1) (ld_any (b10.cell 2) ⟨H7.then_ (h8.trans (h9.trans h10)) (fun i hi (e : i = n1) => by omega), ?_⟩))
      rw [findB_some hk' e hne]
      exact ⟨hk', e, rfl⟩
    · have e : nameB k ≠ s.data.toList := by
        have e' : ((bytesL (nameB k)).toList == s.toList) = false := e
        rw [tb_list, ByteArray.toList_eq] at e'
        simpa using e'
      refine ⟨((IntKind.i64.wrap ((k : Int) + 1)), ()), rfl, ⟨k + 1, wrap_succ (by omega) (by omega), by omega, H7, g7, b7', fun j hj => ?_⟩, ?_⟩
      · rcases (by omega : j < k ∨ j = k) with h | rfl
        · exact hne j h
        · exact e
      · show 14 - (IntKind.i64.wrap ((k : Int) + 1)).toNat < 14 - ((k : Nat) : Int).toNat
        rw [wrap_succ (by omega) (by omega)]
        omega
  · have e : ((14 : Nat) : Int) ≤ (k : Int) := lt_f e
    refine ⟨rfl, (), rfl, fun g => ?_⟩
    refine st_blk b3 (by simp) rfl fun w4 h4 z4 b4 => st_blk b4 (by simp) rfl fun w5 h5 z5 b5 => st_blk b5 (by simp) rfl fun w6 h6 z6 b6 => ?_
    refine ld_str (b6.cell 0) (ld_int (b6.cell 1) (ld_any (b6.cell 2) ⟨h3.then_ (h4.trans (h5.trans h6)) (fun i hi (e : i = n1) => by omega), ?_⟩))
    rw [findB_none (fun j hj => hne j (by omega))]
end Go.Proofs.YtkebljkdkaagfaaGreatDoor.E
