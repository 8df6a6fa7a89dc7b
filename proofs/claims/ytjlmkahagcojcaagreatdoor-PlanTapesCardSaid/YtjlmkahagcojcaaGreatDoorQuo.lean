/- quote: a text's bytes in quotes. -/
import Derived.Test.YtjlmkahagcojcaaGreatDoorRun
import Derived.Test.YtjlmkahagcojcaaGreatDoorShelf
import Derived.Lib.ConvBytes
import Derived.Lib.RuneCount
import Derived.Lib.RuneCountTail
import Derived.Lib.QuoteLoop
import Derived.Laws.RangeAny
namespace Go.Proofs.YtjlmkahagcojcaaGreatDoor
open Go Tr
open Go.Lib (byteCells strCells)
open Go.RowKit (Below)
set_option maxRecDepth 100000
/-! ### Iterators over texts -/
def Itr (w : World) (k : Nat) (s : ByteArray) (pos : Nat) : Prop := w.heap[k]? = some (.stringIter s pos)
theorem Itr.lt {w : World} {k : Nat} {s : ByteArray} {pos : Nat} (h : Itr w k s pos) : k < w.heap.size := (Array.getElem?_eq_some_iff.1 h).1
theorem Itr.ch {S : Nat → Prop} {w w' : World} {k : Nat} {s : ByteArray} {pos : Nat} (h : Itr w k s pos) (hc : Ch S w w') (hn : ¬ S k) : Itr w' k s pos := (hc.block k h.lt hn).trans h
theorem Itr.write {base b : Nat} {w w1 : World} {p p1 : Option Addr} {n c n1 c1 : Nat} {bs bs1 : List UInt8} {k : Nat} {s : ByteArray} {pos : Nat} (h : Itr w k s pos) (hb : Bld base w b p n c bs) (g : GrewW base b w p n c w1 p1 n1 c1 bs1) : Itr w1 k s pos := by
  refine h.ch g.ch fun hk => ?_
  unfold Itr at h
  rcases hk with rfl | hk
  · obtain ⟨a, _, hb'⟩ := hb.blk
    unfold Blk at hb'
    rw [h] at hb'; cases hb'
  · rcases hb.row.2 with ⟨h', _⟩ | ⟨g, cap, cur, h', _, hg, _⟩
    · unfold rowS at hk; rw [h'] at hk; cases hk
    · unfold rowS at hk
      rw [h'] at hk
      obtain rfl : g = k := by simpa [Value.ownBlock] using hk
      rw [h] at hg; cases hg
section
variable {P : Program} {R : Ending → World → Prop} {Q : Exit → List (Tmp × Value) → World → Prop} {w : World}
theorem nwI {s : ByteArray} {pos : Nat} {f : Nat → T} (h : ∀ w1, Ch No w w1 → w1.heap.size = w.heap.size + 1 → Itr w1 w.heap.size s pos → wpT P R Q (f w.heap.size) .pl w1) : wpT P R Q (.new (.stringIter s pos) f) .pl w :=
  h _ ((Ch.refl _ _).alloc _) (by simp) (by show (w.heap.push _)[w.heap.size]? = _; simp)
theorem nx_s {s : ByteArray} {pos : Nat} {k : Nat} {f : CVars [.leaf (.int .i64), .leaf (.int .i32)] → T} {fe : T} (hI : Itr w k s pos)
    (h1 : pos < s.size → ∀ w1, Ch (· = k) w w1 → w1.heap.size = w.heap.size → Itr w1 k s (pos + (Utf8.decode s pos).2) → wpT P R Q (f ((pos : Int), ((Utf8.decode s pos).1 : Int), ())) .pl w1)
    (h2 : ¬ pos < s.size → wpT P R Q fe .pl w) : wpT P R Q (.nxt (vNext (Instr.next (.pointer (some ⟨k, 0, none⟩)) true 0)) [.leaf (.int .i64), .leaf (.int .i32)] f fe) .pl w := by
  have hlt := hI.lt
  unfold Itr at hI
  by_cases h : pos < s.size
  · refine .inl ⟨((pos : Int), ((Utf8.decode s pos).1 : Int), ()), { w with heap := w.heap.setIfInBounds k (.stringIter s (pos + (Utf8.decode s pos).2)) }, ?_, h1 h _ ⟨rfl, rfl, rfl, by simp, fun j hj hn => ?_⟩ (by simp) ?_⟩
    · simp only [vNext, Instr.next, getObj, setObj, Sem.run_bind, Sem.run, hI, Result.andThen, h, if_true]
      rfl
    · have : k ≠ j := fun e => hn e.symm
      simp [Array.getElem?_setIfInBounds, this]
    · unfold Itr
      simp [Array.getElem?_setIfInBounds, hlt]
  · refine .inr ⟨w, ?_, h2 h⟩
    simp [vNext, Instr.next, getObj, Sem.run, hI, h, Result.andThen]
end
/-! ### What is written -/
def hexL (n : Nat) : UInt8 := if n < 10 then UInt8.ofNat (48 + n) else UInt8.ofNat (87 + n)
def hexB (u : UInt8) : List UInt8 := [92, 120, hexL (u.toNat / 16), hexL (u.toNat % 16)]
def plainR (c wd : Nat) : Bool := (decide (32 ≤ c) && decide (c ≤ 126)) || (decide (160 ≤ c) && decide (1 < wd))
def pieceQ (s : ByteArray) (pos c wd : Nat) : List UInt8 :=
  if c = 34 ∨ c = 92 then [92, s.data.toList.getD pos 0]
  else if c = 10 then [92, 110]
  else if c = 9 then [92, 116]
  else if plainR c wd then Lib.encodeRune c
  else ((s.data.toList.drop pos).take wd).flatMap hexB
def quoteF (s : ByteArray) : Nat → Nat → List UInt8
  | 0, _ => []
  | k + 1, pos => if pos < s.size then pieceQ s pos (Utf8.decode s pos).1 (Utf8.decode s pos).2 ++ quoteF s k (pos + (Utf8.decode s pos).2) else []
/-- A text in quotes. -/
def quoteB (s : ByteArray) : List UInt8 := 34 :: (quoteF s s.size 0 ++ [34])
/-! the tree of function 118 -/
abbrev fx118_3 (qa0 : Addr) (qs1 : ByteArray) (n2 : Nat) : List (Tmp × Value) := [(0, .pointer (some qa0)), (1, .string qs1), (13, .pointer (some ⟨n2, 0, none⟩))]
abbrev m118_3 : List (Tmp × Comp) := []
abbrev mx118_3 : List (Tmp × Comp) := []
abbrev mr118_3 : List (Tmp × Comp) := []
abbrev fx118_6 (qa0 : Addr) (qs1 : ByteArray) (n2 : Nat) (r4 : Int × Int × Unit) (r5 : Int × Int × Unit) : List (Tmp × Value) := [(0, .pointer (some qa0)), (1, .string qs1), (4, .int .i64 r4.1), (5, .int .i32 r4.2.1), (7, .int .i64 r5.2.1), (13, .pointer (some ⟨n2, 0, none⟩))]
abbrev mx118_6 : List (Tmp × Comp) := [(50, .leaf .bool)]
def s118_6 : Script := .sym (.lit (.lit .nil)) (.lit (.lit .nil))
theorem t118_6 (qa0 : Addr) (qs1 : ByteArray) (n2 : Nat) (r4 : Int × Int × Unit) (r5 : Int × Int × Unit) (gg6 : Nat → Value) : pieceT Tryz.prog (at_ Tryz.f118 [1, 0, 1, 0, 0, 1, 1, 0, 1, 1, 0, 0]) 83 (fx118_6 qa0 qs1 n2 r4 r5) gg6 (mx118_6.map (·.1)) [] [] s118_6 = .br (r4.snd.fst == 34) (.fin .normal [(50, .bool true)]) (.fin .normal [(50, .bool (r4.snd.fst == 92))]) := by kernel_rfl
abbrev fx118_16 (qa0 : Addr) (qs1 : ByteArray) (n2 : Nat) (l15 : Option Addr × Nat × Nat) : List (Tmp × Value) := [(0, .pointer (some qa0)), (1, .string qs1), (13, .pointer (some ⟨n2, 0, none⟩)), (31, .slice l15.1 l15.2.1 l15.2.2), (32, .int .i64 (↑l15.snd.fst : Int))]
abbrev m118_16 : List (Tmp × Comp) := [(33, .leaf (.int .i64))]
abbrev mx118_16 : List (Tmp × Comp) := []
abbrev mr118_16 : List (Tmp × Comp) := []
def s118_16 : Script := .sym (.ix (.ld (.int .u8) (.cl (.tup [.leaf (.int .i64), .leaf .any]) (.ix (.cl (.one (.leaf .any)) (.ix (.cl (.one (.leaf .any)) .nil))))))) .nil
theorem t118_16 (qa0 : Addr) (qs1 : ByteArray) (n2 : Nat) (l15 : Option Addr × Nat × Nat) (x_33 : Int) (gg16 : Nat → Value) : pieceT Tryz.prog (at_ Tryz.f118 [1, 0, 1, 0, 0, 1, 1, 0, 1, 1, 0, 1, 1, 1, 1, 1, 1, 1, 1, 1, 0, 0]) 83 (fx118_16 qa0 qs1 n2 l15 ++ mvals m118_16 (x_33, ())) gg16 (m118_16.map (·.1)) (mx118_16.map (·.1)) (mr118_16.map (·.1)) s118_16 = .br (Decidable.decide (x_33 < (↑l15.snd.fst : Int))) (.idx l15.1 x_33 l15.2.1 1 (fun a17 => .load a17 (.int .u8) (fun x18 => .call 35 #[.pointer (some qa0), .string (bytesL [92, 120])] (.tup [.leaf (.int .i64), .leaf .any]) (fun r19 => .bidx (bytesL [48, 49, 50, 51, 52, 53, 54, 55, 56, 57, 97, 98, 99, 100, 101, 102]) (x18.fdiv (2 ^ Min.min (Int.toNat 4) IntKind.u8.bits)) (fun c20 => .call 119 #[.pointer (some qa0), .int .u8 c20] (.one (.leaf .any)) (fun v21 => .bidx (bytesL [48, 49, 50, 51, 52, 53, 54, 55, 56, 57, 97, 98, 99, 100, 101, 102]) (IntKind.u8.wrap (↑(BitVec.ofInt IntKind.u8.bits x18 &&& BitVec.ofInt IntKind.u8.bits 15).toNat : Int)) (fun c22 => .call 119 #[.pointer (some qa0), .int .u8 c22] (.one (.leaf .any)) (fun v23 => .fin .normal [(33, .int .i64 (IntKind.i64.wrap (x_33 + 1)))])))))))) (.fin (.exit 3) []) := by kernel_rfl
def s118_3 : Script := .nx [.leaf (.int .i64), .leaf (.int .i32)] (.lit (.nd (.cl (.tup [.leaf (.int .i32), .leaf (.int .i64)]) (.ct 0 [0, 1, 4, 5, 7, 13] mx118_6 (.sym (.cl (.one (.leaf .any)) (.ix (.cl (.one (.leaf .any)) .nil))) (.sym (.cl (.tup [.leaf (.int .i64), .leaf .any]) .nil) (.sym (.cl (.tup [.leaf (.int .i64), .leaf .any]) .nil) (.cl (.one (.leaf .bool)) (.sym (.cl (.tup [.leaf (.int .i64), .leaf .any]) .nil) (.nop (.nop (.nop (.nop (.nop (.nd (.rn (.one (.leaf .sl)) (.lp 3 [0, 1, 13, 31, 32] [33] mx118_16 mr118_16 .nil .nil))))))))))))))))) (.lit .nil)
theorem t118_3 (qa0 : Addr) (qs1 : ByteArray) (n2 : Nat) (gg3 : Nat → Value) : pieceT Tryz.prog (at_ Tryz.f118 [1, 0, 1, 0, 0]) 83 (fx118_3 qa0 qs1 n2 ++ mvals m118_3 (())) gg3 (m118_3.map (·.1)) (mx118_3.map (·.1)) (mr118_3.map (·.1)) s118_3 = .nxt (vNext (Instr.next (.pointer (some ⟨n2, 0, none⟩)) true 0)) [.leaf (.int .i64), .leaf (.int .i32)] (fun r4 => .need (Decidable.decide (0 ≤ r4.fst ∧ r4.fst ≤ (↑qs1.size : Int) ∧ (↑qs1.size : Int) ≤ (↑qs1.size : Int))) (.call 107 #[.string (qs1.extract r4.fst.toNat qs1.size)] (.tup [.leaf (.int .i32), .leaf (.int .i64)]) (fun r5 => .cut (at_ Tryz.f118 [1, 0, 1, 0, 0, 1, 1, 0, 1, 1, 0, 0]) 83 (fx118_6 qa0 qs1 n2 r4 r5) mx118_6 (fun u7 g7 => .br u7.1 (.call 119 #[.pointer (some qa0), .int .u8 92] (.one (.leaf .any)) (fun v8 => .bidx qs1 r4.1 (fun c9 => .call 119 #[.pointer (some qa0), .int .u8 c9] (.one (.leaf .any)) (fun v10 => .fin .normal [])))) (.br (r4.snd.fst == 10) (.call 35 #[.pointer (some qa0), .string (bytesL [92, 110])] (.tup [.leaf (.int .i64), .leaf .any]) (fun r11 => .fin .normal [])) (.br (r4.snd.fst == 9) (.call 35 #[.pointer (some qa0), .string (bytesL [92, 116])] (.tup [.leaf (.int .i64), .leaf .any]) (fun r12 => .fin .normal [])) (.call 141 #[.int .i32 r4.2.1, .int .i64 r5.2.1] (.one (.leaf .bool)) (fun b13 => .br b13 (.call 142 #[.pointer (some qa0), .int .i32 r4.2.1] (.tup [.leaf (.int .i64), .leaf .any]) (fun r14 => .fin .normal [])) (.need (Decidable.decide (0 ≤ r4.fst ∧ r4.fst ≤ IntKind.i64.wrap (r4.fst + r5.snd.fst) ∧ IntKind.i64.wrap (r4.fst + r5.snd.fst) ≤ (↑qs1.size : Int))) (.run (vNext (convert 9 92 (.string (qs1.extract r4.fst.toNat (IntKind.i64.wrap (r4.fst + r5.snd.fst)).toNat)))) (.one (.leaf .sl)) (fun l15 => .loop (at_ Tryz.f118 [1, 0, 1, 0, 0, 1, 1, 0, 1, 1, 0, 1, 1, 1, 1, 1, 1, 1, 1, 1, 0, 0]) 83 (fx118_16 qa0 qs1 n2 l15) [(33, .int .i64 0)] mx118_16 mr118_16 3 (fun u24 g24 => .fin .normal []) (fun u25 g25 => .stuck)))))))))))) (.fin (.exit 0) []) := by kernel_rfl
def s118 : Script := .cl (.one (.leaf .any)) (.lp 0 [0, 1, 13] [] mx118_3 mr118_3 (.cl (.one (.leaf .any)) .nil) .nil)
theorem t118 (qa0 : Addr) (qs1 : ByteArray) : fnT Tryz.prog Tryz.f118 #[.pointer (some qa0), .string qs1] s118 = .call 119 #[.pointer (some qa0), .int .u8 34] (.one (.leaf .any)) (fun v1 => .new (.stringIter qs1 0) (fun n2 => .loop (at_ Tryz.f118 [1, 0, 1, 0, 0]) 83 (fx118_3 qa0 qs1 n2) [] mx118_3 mr118_3 0 (fun u26 g26 => .call 119 #[.pointer (some qa0), .int .u8 34] (.one (.leaf .any)) (fun v27 => .done (.returned (.tuple #[])))) (fun u28 g28 => .stuck))) := by kernel_rfl
/-! the tree of function 141 -/
def s141 : Script := .sym (.lit (.lit (.sym (.lit (.lit (.lit (.lit .nil)))) (.lit (.lit (.sym (.lit (.lit (.lit (.lit .nil)))) (.lit (.lit (.lit (.lit .nil)))))))))) (.lit (.lit (.lit (.lit (.lit (.sym (.lit (.lit (.lit (.lit .nil)))) (.lit (.lit (.lit (.lit .nil))))))))))
theorem t141 (qx0 : Int) (qx1 : Int) : fnT Tryz.prog Tryz.f141 #[.int .i32 qx0, .int .i64 qx1] s141 = .br (Decidable.decide (qx0 ≥ 32)) (.br (Decidable.decide (qx0 ≤ 126)) (.done (.returned (.bool true))) (.br (Decidable.decide (qx0 ≥ 160)) (.done (.returned (.bool (Decidable.decide (qx1 > 1))))) (.done (.returned (.bool false))))) (.br (Decidable.decide (qx0 ≥ 160)) (.done (.returned (.bool (Decidable.decide (qx1 > 1))))) (.done (.returned (.bool false)))) := by kernel_rfl
theorem plain_any (c wd : Int) (h0 : 0 ≤ c) (h1 : 0 ≤ wd) (w : World) : Calls Tryz.prog 141 #[.int .i32 c, .int .i64 wd] w fun e w' => e = .returned (.bool (plainR c.toNat wd.toNat)) ∧ w' = w := by
  refine calls_of_fnT mixed Tryz.func141 (s := s141) ?_
  rw [t141]
  obtain ⟨m, rfl⟩ := Int.eq_ofNat_of_zero_le h0
  obtain ⟨n, rfl⟩ := Int.eq_ofNat_of_zero_le h1
  simp only [Int.toNat_natCast]
  refine br_both (fun e => br_both (fun e' => ⟨?_, rfl⟩) fun e' => br_both (fun e'' => ⟨?_, rfl⟩) fun e'' => ⟨?_, rfl⟩) fun e => br_both (fun e' => ⟨?_, rfl⟩) fun e' => ⟨?_, rfl⟩
  · have e := of_decide_eq_true e
    have e' := of_decide_eq_true e'
    have h1 : 32 ≤ m := by omega
    have h2 : m ≤ 126 := by omega
    simp [plainR, h1, h2]
  · have e := of_decide_eq_true e
    have e' := of_decide_eq_false e'
    have e'' := of_decide_eq_true e''
    have h2 : ¬ m ≤ 126 := by omega
    have h3 : 160 ≤ m := by omega
    simp [plainR, h2, h3]
    omega
  · have e' := of_decide_eq_false e'
    have e'' := of_decide_eq_false e''
    have h2 : ¬ m ≤ 126 := by omega
    have h3 : ¬ 160 ≤ m := by omega
    simp [plainR, h2, h3]
  · have e' := of_decide_eq_true e'
    have h2 : ¬ m ≤ 126 := by omega
    have h3 : 160 ≤ m := by omega
    simp [plainR, h2, h3]
    omega
  · have e := of_decide_eq_false e
    have e' := of_decide_eq_false e'
    have h2 : ¬ 32 ≤ m := by omega
    have h3 : ¬ 160 ≤ m := by omega
    simp [plainR, h2, h3]
theorem Tabs_ch {w w' : World} {base : Nat} (h : Lib.Utf8Tabs 3 4 w) (hc : Ch (base ≤ ·) w w') (hb : 9 ≤ base) : Lib.Utf8Tabs 3 4 w' := by
  refine ⟨fun c hc' => hc.cellv (h.1 c hc') (fun (h : base ≤ 3) => by omega), fun i hi => ?_⟩
  obtain ⟨h1, h2⟩ := h.2 i hi
  exact ⟨hc.cellv h1 (fun (h : base ≤ 4) => by omega), hc.cellv h2 (fun (h : base ≤ 4) => by omega)⟩
theorem quoteF_fuel (s : ByteArray) : ∀ (k k' pos : Nat), s.size - pos ≤ k → s.size - pos ≤ k' → quoteF s k pos = quoteF s k' pos
  | 0, 0, _, _, _ => rfl
  | 0, k' + 1, pos, h, _ => by
    have : ¬ pos < s.size := by omega
    simp [quoteF, this]
  | k + 1, 0, pos, _, h => by
    have : ¬ pos < s.size := by omega
    simp [quoteF, this]
  | k + 1, k' + 1, pos, h, h' => by
    simp only [quoteF]
    by_cases hp : pos < s.size
    · rw [if_pos hp, if_pos hp]
      have := Lib.decode_width_pos s pos hp
      rw [quoteF_fuel s k k' _ (by omega) (by omega)]
    · rw [if_neg hp, if_neg hp]
theorem quoteF_step (s : ByteArray) (pos : Nat) (h : pos < s.size) : quoteF s s.size pos = pieceQ s pos (Utf8.decode s pos).1 (Utf8.decode s pos).2 ++ quoteF s s.size (pos + (Utf8.decode s pos).2) := by
  obtain ⟨k, hk⟩ : ∃ k, s.size = k + 1 := ⟨s.size - 1, by omega⟩
  have := Lib.decode_width_pos s pos h
  conv => lhs; rw [hk, quoteF, if_pos h]
  rw [quoteF_fuel s k s.size _ (by omega) (by omega)]
theorem hexB_len (l : List UInt8) : (l.flatMap hexB).length = 4 * l.length := by
  induction l with
  | nil => rfl
  | cons a r ih => simp only [List.flatMap_cons, List.length_append, ih, List.length_cons]; simp [hexB]; omega
theorem pieceQ_len (s : ByteArray) (pos c wd : Nat) (hw : 1 ≤ wd) : (pieceQ s pos c wd).length ≤ 4 * wd := by
  unfold pieceQ
  split
  · simp; omega
  split
  · simp; omega
  split
  · simp; omega
  split
  · have := (Lib.runeCells_le c).2
    rw [Lib.runeCells_length] at this
    omega
  · rw [hexB_len, List.length_take]; omega
theorem decode_in (s : ByteArray) (pos : Nat) (h : pos < s.size) : Lib.decodeGo (s.extract pos s.size) = Utf8.decode s pos ∧ pos + (Utf8.decode s pos).2 ≤ s.size := by
  have hsz : (s.extract pos s.size).size = s.size - pos := by simp [ByteArray.size_extract]
  have ht := Lib.tail_decode s pos 0
  rw [Nat.add_zero] at ht
  have hw := Lib.width_le (s.extract pos s.size) (by omega)
  rw [ht, hsz] at hw
  refine ⟨?_, by omega⟩
  unfold Lib.decodeGo
  rw [if_neg (by omega), ht]
theorem hexL_at (n : Nat) (h : n < 16) : ∃ hlt : n < (bytesL [48, 49, 50, 51, 52, 53, 54, 55, 56, 57, 97, 98, 99, 100, 101, 102]).size, (bytesL [48, 49, 50, 51, 52, 53, 54, 55, 56, 57, 97, 98, 99, 100, 101, 102])[n]'hlt = hexL n := by
  have key : ∀ m : Fin 16, (bytesL [48, 49, 50, 51, 52, 53, 54, 55, 56, 57, 97, 98, 99, 100, 101, 102])[m.val]'m.isLt = hexL m.val := by decide
  exact ⟨h, key ⟨n, h⟩⟩
theorem Bld.itr {base b : Nat} {w w' : World} {p : Option Addr} {n c : Nat} {bs : List UInt8} {k : Nat} {s : ByteArray} {pos : Nat} (h : Bld base w b p n c bs) (hI : Itr w k s pos) (hc : Ch (· = k) w w') : Bld base w' b p n c bs := by
  obtain ⟨a, ha, hb⟩ := h.blk
  unfold Itr at hI
  refine ⟨⟨a, ha, hb.ch hc (fun e => ?_)⟩, h.row.ch hc (fun j hj e => ?_), h.lo⟩
  · subst e
    unfold Blk at hb
    rw [hI] at hb; cases hb
  · subst e
    rcases h.row.2 with ⟨h', _⟩ | ⟨g, cap, cur, h', _, hg, _⟩
    · unfold rowS at hj; rw [h'] at hj; cases hj
    · unfold rowS at hj
      rw [h'] at hj
      obtain rfl : g = _ := by simpa [Value.ownBlock] using hj
      rw [hI] at hg; cases hg
theorem GrewW.itr {base b : Nat} {w w1 w2 : World} {p p1 : Option Addr} {n c n1 c1 : Nat} {bs : List UInt8} {k : Nat} {s : ByteArray} {pos : Nat} (g : GrewW base b w p n c w1 p1 n1 c1 bs) (hI : Itr w1 k s pos) (hc : Ch (· = k) w1 w2) (hk : w.heap.size ≤ k) : GrewW base b w p n c w2 p1 n1 c1 bs :=
  ⟨g.bld.itr hI hc, g.ch.then_ hc (fun i hi (e : i = k) => by omega), g.lies⟩
end Go.Proofs.YtjlmkahagcojcaaGreatDoor
