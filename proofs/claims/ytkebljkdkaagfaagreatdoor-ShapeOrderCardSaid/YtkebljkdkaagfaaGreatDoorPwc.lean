/- Words. -/
import Derived.Test.YtkebljkdkaagfaaGreatDoorPwb
namespace Go.Proofs.YtkebljkdkaagfaaGreatDoor.E
open Go Tr
open V (rest rest_cases restL sizeB pk_rest cx_i cp_i extract_list)
set_option maxRecDepth 100000
set_option maxHeartbeats 1000000
/-! the tree of function 59 -/
abbrev fx59_1 (qa0 : Addr) (qa1 : Addr) : List (Tmp × Value) := [(0, .pointer (some qa0)), (1, .pointer (some qa1))]
abbrev m59_1 : List (Tmp × Comp) := []
abbrev mx59_1 : List (Tmp × Comp) := []
abbrev mr59_1 : List (Tmp × Comp) := []
abbrev fx59_2 (qa0 : Addr) (qa1 : Addr) : List (Tmp × Value) := [(0, .pointer (some qa0)), (1, .pointer (some qa1))]
abbrev mx59_2 : List (Tmp × Comp) := [(44, .leaf .bool)]
def s59_2 : Script := .qt (.ld (.int .i64) (.ld .str (.sym (.lit (.lit (.lit (.ld .str (.lit (.lit (.lit (.lit (.ld (.int .i64) (.lit (.ix (.lit (.lit (.sym (.lit (.lit (.lit (.ld .str (.lit (.lit (.lit (.lit (.ld (.int .i64) (.lit (.ix (.lit (.lit .nil))))))))))))) (.lit (.lit (.lit (.lit (.lit (.lit (.lit (.lit (.lit (.lit .nil)))))))))))))))))))))))) (.lit (.lit (.lit (.lit (.lit (.lit (.lit (.lit (.lit (.lit (.lit (.lit (.lit (.lit (.lit (.lit (.lit (.lit (.lit (.lit (.lit .nil))))))))))))))))))))))))
theorem t59_2 (qa0 : Addr) (qa1 : Addr) (gg2 : Nat → Value) : pieceT Tryz.prog (at_ Tryz.f59 [1, 0, 0, 0, 0, 0]) 94 (fx59_2 qa0 qa1) gg2 (mx59_2.map (·.1)) [] [] s59_2 = .drawn (.load (qa0.add 1) (.int .i64) (fun x3 => .load qa0 .str (fun s4 => .br (Decidable.decide (x3 < (↑s4.size : Int))) (.load qa0 .str (fun s5 => .load (qa0.add 1) (.int .i64) (fun x6 => .bidx s5 x6 (fun c7 => .br (Decidable.decide (c7 ≥ 97)) (.load qa0 .str (fun s8 => .load (qa0.add 1) (.int .i64) (fun x9 => .bidx s8 x9 (fun c10 => .undrawn (.fin .normal [(44, .bool (Decidable.decide (c10 ≤ 122)))]))))) (.undrawn (.fin .normal [(44, .bool false)])))))) (.undrawn (.fin .normal [(44, .bool false)]))))) := by kernel_rfl
def s59_1 : Script := .ct 1 [0, 1] mx59_2 (.sym (.ld (.int .i64) .nil) .nil)
theorem t59_1 (qa0 : Addr) (qa1 : Addr) (gg1 : Nat → Value) : pieceT Tryz.prog (at_ Tryz.f59 [1, 0, 0, 0]) 94 (fx59_1 qa0 qa1 ++ mvals m59_1 (())) gg1 (m59_1.map (·.1)) (mx59_1.map (·.1)) (mr59_1.map (·.1)) s59_1 = .cut (at_ Tryz.f59 [1, 0, 0, 0, 0, 0]) 94 (fx59_2 qa0 qa1) mx59_2 (fun u11 g11 => .br u11.1 (.load (qa0.add 1) (.int .i64) (fun x12 => .store (qa0.add 1) (.int .i64 (IntKind.i64.wrap (x12 + 1))) (.fin .normal []))) (.fin (.exit 0) [])) := by kernel_rfl
abbrev fx59_28 (qa1 : Addr) (s17 : ByteArray) (s18 : ByteArray) (s19 : ByteArray) (s20 : ByteArray) (s21 : ByteArray) (s22 : ByteArray) (s23 : ByteArray) (s24 : ByteArray) (s25 : ByteArray) (s26 : ByteArray) (s27 : ByteArray) : List (Tmp × Value) := [(1, .pointer (some qa1)), (68, .agg #[.string s17, .string s18, .string s19, .string s20, .string s21, .string s22, .string s23, .string s24, .string s25, .string s26, .string s27])]
abbrev m59_28 : List (Tmp × Comp) := [(69, .leaf (.int .i64))]
abbrev mx59_28 : List (Tmp × Comp) := []
abbrev mr59_28 : List (Tmp × Comp) := []
def s59_28 : Script := .sym (.rn (.one (.leaf .str)) (.ld .str (.sym .nil .nil))) .nil
theorem t59_28 (qa1 : Addr) (s17 : ByteArray) (s18 : ByteArray) (s19 : ByteArray) (s20 : ByteArray) (s21 : ByteArray) (s22 : ByteArray) (s23 : ByteArray) (s24 : ByteArray) (s25 : ByteArray) (s26 : ByteArray) (s27 : ByteArray) (x_69 : Int) (gg28 : Nat → Value) : pieceT Tryz.prog (at_ Tryz.f59 [1, 1, 1, 0, 1, 0, 0]) 94 (fx59_28 qa1 s17 s18 s19 s20 s21 s22 s23 s24 s25 s26 s27 ++ mvals m59_28 (x_69, ())) gg28 (m59_28.map (·.1)) (mx59_28.map (·.1)) (mr59_28.map (·.1)) s59_28 = .br (Decidable.decide (x_69 < 11)) (.run (vNext (Go.Instr.index 117 (Go.Value.agg #[Go.Value.string s17, Go.Value.string s18, Go.Value.string s19, Go.Value.string s20, Go.Value.string s21, Go.Value.string s22, Go.Value.string s23, Go.Value.string s24, Go.Value.string s25, Go.Value.string s26, Go.Value.string s27]) (Go.Value.int IntKind.i64 x_69))) (.one (.leaf .str)) (fun s29 => .load (qa1.add 2) .str (fun s30 => .br (s29.toList == s30.toList) (.fin .ret []) (.fin .normal [(69, .int .i64 (IntKind.i64.wrap (x_69 + 1)))])))) (.fin (.exit 2) []) := by kernel_rfl
def s59 : Script := .lp 0 [0, 1] [] mx59_1 mr59_1 (.hd0 (.hq 0 (.hq 1 (.hq 2 (.hq 3 (.hq 4 (.ld .str (.hq 5 (.hq 6 (.hq 7 (.hq 8 (.ld (.int .i64) (.hq 9 (.hq 10 (.hq 11 (.hq 12 (.ld (.int .i64) (.hq 13 (.nd (.hq 14 (.hq 15 (.he 16 (.ld .str (.ld .str (.ld .str (.ld .str (.ld .str (.ld .str (.ld .str (.ld .str (.ld .str (.ld .str (.ld .str (.lp 2 [1, 68] [69] mx59_28 mr59_28 (.ld .str (.cl (.tup [.agg [.str, .int .i64, .any], .leaf .bool]) (.sym (.ld (.int .i64) (.clx .nil)) .nil))) .nil)))))))))))))))))))))))))))))))))) .nil
theorem t59 (qa0 : Addr) (qa1 : Addr) : fnT Tryz.prog Tryz.f59 #[.pointer (some qa0), .pointer (some qa1)] s59 = .store qa1 (.int .i64 2) (.loop (at_ Tryz.f59 [1, 0, 0, 0]) 94 (fx59_1 qa0 qa1) [] mx59_1 mr59_1 0 (fun u13 g13 => .hdrawn (.load qa0 .str (fun s14 => .load (qa1.add 1) (.int .i64) (fun x15 => .load (qa0.add 1) (.int .i64) (fun x16 => .need (Decidable.decide (0 ≤ x15 ∧ x15 ≤ x16 ∧ x16 ≤ (↑s14.size : Int))) (.eff (.store (qa1.add 2) (.string (s14.extract x15.toNat x16.toNat)) (.back (.undrawn (.load ⟨2, 0, none⟩ .str (fun s17 => .load ⟨2, 1, none⟩ .str (fun s18 => .load ⟨2, 2, none⟩ .str (fun s19 => .load ⟨2, 3, none⟩ .str (fun s20 => .load ⟨2, 4, none⟩ .str (fun s21 => .load ⟨2, 5, none⟩ .str (fun s22 => .load ⟨2, 6, none⟩ .str (fun s23 => .load ⟨2, 7, none⟩ .str (fun s24 => .load ⟨2, 8, none⟩ .str (fun s25 => .load ⟨2, 9, none⟩ .str (fun s26 => .load ⟨2, 10, none⟩ .str (fun s27 => .loop (at_ Tryz.f59 [1, 1, 1, 0, 1, 0, 0]) 94 (fx59_28 qa1 s17 s18 s19 s20 s21 s22 s23 s24 s25 s26 s27) [(69, .int .i64 0)] mx59_28 mr59_28 2 (fun u31 g31 => .load (qa1.add 2) .str (fun s32 => .call 63 #[.string s32] (.tup [.agg [.str, .int .i64, .any], .leaf .bool]) (fun r33 => .new (.cells #[.string (bytesL []), .int .i64 0, .nilFunc] 120 (0, 0)) (fun n34 => .store ⟨n34, 0, none⟩ (.string r33.1.1) (.store ⟨n34, 1, none⟩ (.int .i64 r33.1.2.1) (.store ⟨n34, 2, none⟩ r33.fst.snd.snd.1 (.br (!r33.snd.fst) (.load (qa1.add 1) (.int .i64) (fun x35 => .callx 48 #[.int .i64 34, .int .i64 x35] (fun ch36 => .done (.panicked ch36)))) (.done (.returned (.tuple #[])))))))))) (fun u37 g37 => .done (.returned (.tuple #[])))))))))))))))))))))))) (fun u38 g38 => .stuck)) := by kernel_rfl
theorem rest_get {s : ByteArray} {i j : Nat} {c : UInt8} (hij : i ≤ j) (hr : rest s j = c :: rest s (j + 1)) : (rest s i)[j - i]? = some c := by
  have h : (rest s j)[0]? = some c := by rw [hr]; rfl
  show (List.drop i _)[j - i]? = _
  rw [List.getElem?_drop, show i + (j - i) = j by omega]
  have h' : (List.drop j s.data.toList)[0]? = some c := h
  rw [List.getElem?_drop] at h'
  exact h'
theorem take_next {s : ByteArray} {i j : Nat} {c : UInt8} (hij : i ≤ j) (hr : rest s j = c :: rest s (j + 1)) : (rest s i).take (j + 1 - i) = (rest s i).take (j - i) ++ [c] := by
  rw [show j + 1 - i = (j - i) + 1 by omega, List.take_add_one, rest_get hij hr]
  rfl
theorem word_any (w : World) (b n : Nat) (s : ByteArray) (i : Nat) (q : PQ) (hb : PB w b s i q) (hn : TB w n 0 (i : Nat) [] 0) (hG : GlE w) (hne : b ≠ n) (hbb : 11 ≤ b) (hnb : 11 ≤ n) (hi : i ≤ s.size) (hs : s.size ≤ 100) :
    Calls Tryz.prog 59 #[.pointer (some ⟨b, 0, none⟩), .pointer (some ⟨n, 0, none⟩)] w fun e w' => Ch (fun k => k = b ∨ k = n) w w' ∧
      if wordsM.contains ((rest s i).takeWhile isL) = true ∨ (findB ((rest s i).takeWhile isL)).isSome = true then e = .returned (.tuple #[]) ∧ ∃ j, i ≤ j ∧ j ≤ s.size ∧ (rest s i).dropWhile isL = rest s j ∧ PB w' b s j q ∧ TB w' n 2 (i : Nat) ((rest s i).takeWhile isL) 0
      else Thrown w w' e 34 (i : Nat) := by
  refine calls_of_fnT mixed Tryz.func59 (s := s59) ?_
  rw [t59]
  refine st_blk hn (by simp) rfl fun w1 h1 z1 n1 => ?_
  have b1 := hb.ch h1 (fun e => hne e)
  refine loop_i mixed m59_1 s59_1 (by kernel_rfl) (by kernel_rfl)
    (fun (_ : Unit) w' => ∃ j : Nat, i ≤ j ∧ j ≤ s.size ∧ PB w' b s j q ∧ TB w' n 2 (i : Nat) [] 0 ∧ Ch (fun k => k = b ∨ k = n) w w' ∧ (rest s i).takeWhile isL = (rest s i).take (j - i) ++ (rest s j).takeWhile isL ∧ (rest s i).dropWhile isL = (rest s j).dropWhile isL)
    (fun (_ : Unit) w' => left_ b s w') () rfl ⟨i, Nat.le_refl _, hi, b1, n1, h1.mono fun k h => .inr h, by rw [Nat.sub_self]; rfl, rfl⟩ ?_
  rintro ⟨⟩ g w2 ⟨j, hij, hj, b2, n2, h2, htk, hdr⟩
  rw [t59_1]
  simp only [addr_add, Nat.zero_add]
  refine cut_i mixed s59_2 (fun (v : Bool × Unit) w' => w' = w2.drew ∧ v.1 = hdP 97 122 (rest s j)) (by kernel_rfl) (fun g => ?_) ?_
  · rw [t59_2]
    simp only [addr_add, Nat.zero_add]
    exact dg_i b2 hj 97 122 (K := fun v => .fin .normal [(_, .bool v)]) ⟨rfl, (_, ()), rfl, rfl, rfl⟩
  rintro ⟨u, ⟨⟩⟩ g w3 ⟨rfl, hu⟩
  dsimp only at hu
  subst hu
  have hd := (Ch.refl No w2).drew
  have b3 := b2.ch hd (fun h => h)
  have n3 : TB w2.drew n 2 (i : Nat) [] 0 := Blk.ch n2 hd (fun h => h)
  have h3 := h2.trans hd.no
  have l3 : left_ b s w2 = s.size - j := left_at b2
  generalize w2.drew = w3 at *
  refine br_both (fun e => ?_) fun e => ?_
  · rcases rest_cases s j hj with ⟨hr, _⟩ | ⟨hlt, hr⟩
    · rw [hr] at e; cases e
    rw [hr, hdP_low] at e
    refine ld_int b3.c1 (st_next b3 (by omega) fun w4 h4 b4 => ?_)
    refine ⟨(), rfl, ⟨j + 1, by omega, by omega, b4, Blk.ch n3 h4 (fun e => hne e.symm), h3.trans (h4.mono fun k h => .inl h), ?_, ?_⟩, ?_⟩
    · rw [take_next hij hr, htk, hr, List.takeWhile_cons_of_pos (p := isL) e, List.append_assoc]
      rfl
    · rw [hdr, hr, List.dropWhile_cons_of_pos (p := isL) e]
    · show left_ b s w4 < left_ b s w2
      rw [left_at b4, l3]
      omega
  refine ⟨rfl, (), rfl, fun g => ?_⟩
  have hend : (rest s j).takeWhile isL = [] ∧ (rest s j).dropWhile isL = rest s j := by
    rcases rest_cases s j hj with ⟨hr, _⟩ | ⟨hlt, hr⟩
    · rw [hr]; exact ⟨rfl, rfl⟩
    · rw [hr, hdP_low] at e
      have e : isL (s[j]'hlt) = false := e
      rw [hr, List.takeWhile_cons_of_neg (p := isL) (by rw [e]; exact Bool.false_ne_true), List.dropWhile_cons_of_neg (p := isL) (by rw [e]; exact Bool.false_ne_true)]
      exact ⟨rfl, rfl⟩
  rw [hend.1, List.append_nil] at htk
  rw [hend.2] at hdr
  rw [hdr]
  generalize hT : (rest s i).takeWhile isL = tw at *
  simp only [addr_add, Nat.zero_add]
  have hd3 := (Ch.refl No w3).drew
  have b4 := b3.ch hd3 (fun h => h)
  have n4 : TB w3.drew n 2 (i : Nat) [] 0 := Blk.ch n3 hd3 (fun h => h)
  have h4 := h3.trans hd3.no
  refine hd_i (fun w' => PB w' b s j q ∧ w'.cell? ⟨n, 1, none⟩ = some (.int .i64 (i : Nat))) ⟨b4, Blk.cell n4 1⟩ ?_
  generalize w3.drew = w4 at *
  have hex : s.extract ((i : Nat) : Int).toNat ((j : Nat) : Int).toNat = bytesL tw := ba_eq (by rw [Int.toNat_natCast, Int.toNat_natCast, extract_list, tb_data, htk])
  refine lh_str (fun w' h => h.1.c0) (lh_int (fun w' h => h.2) (lh_int (fun w' h => h.1.c1) (nd3 (by omega) (by omega) (by omega) (eff_i ?_))))
  rw [hex]
  refine st_blk n4 (by simp) rfl fun w5 h5 z5 n5 => ?_
  have b5 := b4.ch h5 (fun e => hne e)
  have h05 : Ch (fun k => k = b ∨ k = n) w w5 := h4.trans (h5.mono fun k h => .inr h)
  have G5 : GlE w5 := hG.ch (B := 11) (h05.mono fun k h => by rcases h with rfl | rfl <;> assumption) (Nat.le_refl _)
  replace n5 : TB w5 n 2 (i : Nat) tw 0 := n5
  refine bk ⟨b5, Blk.cell n5 1⟩ (un_h ?_)
  refine ld_str (G5.words 0 _ rfl) (ld_str (G5.words 1 _ rfl) (ld_str (G5.words 2 _ rfl) (ld_str (G5.words 3 _ rfl) (ld_str (G5.words 4 _ rfl) (ld_str (G5.words 5 _ rfl) (ld_str (G5.words 6 _ rfl) (ld_str (G5.words 7 _ rfl) (ld_str (G5.words 8 _ rfl) (ld_str (G5.words 9 _ rfl) (ld_str (G5.words 10 _ rfl) ?_))))))))))
  refine loop_i mixed m59_28 s59_28 (by kernel_rfl) (by kernel_rfl)
    (fun (v : Int × Unit) w' => ∃ k : Nat, v.1 = k ∧ k ≤ 11 ∧ w' = w5 ∧ ∀ m t, m < k → wordsM[m]? = some t → t ≠ tw)
    (fun (v : Int × Unit) _ => 11 - v.1.toNat) (0, ()) rfl ⟨0, rfl, by omega, rfl, fun m t hm => by omega⟩ ?_
  rintro ⟨_, ⟨⟩⟩ gg w6 ⟨k, rfl, hk, rfl, hno⟩
  rw [t59_28]
  refine br_both (fun e => ?_) fun e => ?_
  · have e : (k : Int) < 11 := lt_t e
    have hk' : k < 11 := by omega
    have hlen : wordsM.length = 11 := rfl
    obtain ⟨t, ht⟩ : ∃ t, wordsM[k]? = some t := ⟨wordsM[k]'(by omega), List.getElem?_eq_getElem (by omega)⟩
    refine t_run (x := bytesL t) (w' := w6) ?_ ?_
    · rcases (by omega : k = 0 ∨ k = 1 ∨ k = 2 ∨ k = 3 ∨ k = 4 ∨ k = 5 ∨ k = 6 ∨ k = 7 ∨ k = 8 ∨ k = 9 ∨ k = 10) with rfl | rfl | rfl | rfl | rfl | rfl | rfl | rfl | rfl | rfl | rfl <;>
        (obtain rfl := Option.some.inj ht; kernel_rfl)
    have hty : (bytesL t).toList = t := tb_list t
    refine ld_str (Blk.cell n5 2) (br_both (fun e => ?_) fun e => ?_)
    · have e : t = tw := by
        rw [tb_list, tb_list] at e
        simpa using e
      subst e
      refine ⟨(), rfl, fun g => ⟨h05, ?_⟩⟩
      rw [if_pos (.inl (List.contains_iff_mem.2 (List.mem_of_getElem? ht)))]
      exact ⟨rfl, j, hij, hj, rfl, b5, n5⟩
    · have hne' : t ≠ tw := by
        rw [tb_list, tb_list] at e
        simpa using e
      refine ⟨((IntKind.i64.wrap ((k : Int) + 1)), ()), rfl, ⟨k + 1, wrap_succ (by omega) (by omega), by omega, rfl, fun m t' hm ht' => ?_⟩, ?_⟩
      · rcases (by omega : m < k ∨ m = k) with h | rfl
        · exact hno m t' h ht'
        · rw [ht] at ht'
          obtain rfl := Option.some.inj ht'
          exact hne'
      · show 11 - (IntKind.i64.wrap ((k : Int) + 1)).toNat < 11 - ((k : Nat) : Int).toNat
        rw [wrap_succ (by omega) (by omega)]
        omega
  · have e : (11 : Int) ≤ (k : Int) := lt_f e
    refine ⟨rfl, (), rfl, fun g => ?_⟩
    have hnw : ¬ wordsM.contains tw = true := fun h => by
      obtain ⟨m, hm, e⟩ := List.getElem_of_mem (List.contains_iff_mem.1 h)
      have hlen : wordsM.length = 11 := rfl
      exact hno m tw (by omega) (by rw [List.getElem?_eq_getElem hm, e]) rfl
    refine ld_str (Blk.cell n5 2) (cl_i (find_any w6 (bytesL tw)) ?_)
    rintro e w7 ⟨h7, hf⟩
    rw [tb_data] at hf
    have b7 := b5.ch h7 (fun h => h)
    have n7 : TB w7 n 2 (i : Nat) tw 0 := Blk.ch n5 h7 (fun h => h)
    have h07 := h05.trans h7.no
    have hnlt : n < w7.heap.size := Blk.lt n7
    have hblt : b < w7.heap.size := Blk.lt b7
    have fin : ∀ {x y z : Value} {t : TypeId} {w8 : World}, Ch No w7 w8 → ∀ {w9 : World}, Ch (· = w7.heap.size) w8 w9 → Ch (fun k => k = b ∨ k = n) w w9 ∧ PB w9 b s j q ∧ TB w9 n 2 (i : Nat) tw 0 := fun {x y z t w8} h8 {w9} h9 =>
      ⟨(h07.trans h8.no).then_ h9 (fun i hi (e : i = w7.heap.size) => by have := h07.size; omega), (b7.ch h8 (fun h => h)).ch h9 (fun e : b = w7.heap.size => by omega), Blk.ch (Blk.ch n7 h8 (fun h => h)) h9 (fun e : n = w7.heap.size => by omega)⟩
    cases hq : findB tw with
    | none =>
      rw [hq] at hf
      subst hf
      refine ⟨((bytesL [], 0, .nilFunc, ()), false, ()), rfl, ?_⟩
      refine nw fun w8 h8 z8 b8 => st_blk b8 (by simp) rfl fun w9 h9 z9 b9 => st_blk b9 (by simp) rfl fun w10 h10 z10 b10 => st_blk b10 (by simp) rfl fun w11 h11 z11 b11 => ?_
      obtain ⟨H, B, T⟩ := fin (x := .nilFunc) (y := .nilFunc) (z := .nilFunc) (t := 0) h8 (h9.trans (h10.trans h11))
      refine br_true rfl (ld_int (Blk.cell T 1) (cx_i (giveUp_any _ _ w11) ?_))
      rintro r w12 ⟨h12, ht⟩
      obtain ⟨fb, f1, rfl, f3⟩ := ht
      refine ⟨_, rfl, H.trans h12.no, ?_⟩
      rw [if_neg (by rintro (h | h); exact hnw h; cases h)]
      exact ⟨fb, Nat.le_trans H.size f1, rfl, f3⟩
    | some m =>
      rw [hq] at hf
      obtain ⟨hm, hnm, rfl⟩ := hf
      refine ⟨((bytesL (nameB m), (takesB m : Nat), doV m, ()), true, ()), rfl, ?_⟩
      refine nw fun w8 h8 z8 b8 => st_blk b8 (by simp) rfl fun w9 h9 z9 b9 => st_blk b9 (by simp) rfl fun w10 h10 z10 b10 => st_blk b10 (by simp) rfl fun w11 h11 z11 b11 => ?_
      obtain ⟨H, B, T⟩ := fin (x := .nilFunc) (y := .nilFunc) (z := .nilFunc) (t := 0) h8 (h9.trans (h10.trans h11))
      refine br_false rfl ⟨H, ?_⟩
      rw [if_pos (.inr rfl)]
      exact ⟨rfl, j, hij, hj, rfl, B, T⟩
end Go.Proofs.YtkebljkdkaagfaaGreatDoor.E
