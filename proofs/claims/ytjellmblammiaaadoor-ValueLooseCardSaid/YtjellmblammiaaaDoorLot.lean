/- ValueLoose's text: a lawful text of the value. -/
import Derived.Test.YtjellmblammiaaaDoorLoo
namespace Go.Proofs.YtjellmblammiaaaDoor
open Go Tr
set_option maxRecDepth 100000
/-! the tree of function 18 -/
abbrev fx18_3 (qa0 : Addr) (n1 : Nat) (x2 : Int) : List (Tmp × Value) := [(0, .pointer (some qa0)), (3, .pointer (some ⟨n1, 0, none⟩)), (11, .int .i64 x2)]
abbrev mx18_3 : List (Tmp × Comp) := [(12, .leaf .bool)]
def s18_3 : Script := .sym .nil .nil
theorem t18_3 (qa0 : Addr) (n1 : Nat) (x2 : Int) (g : Nat → Value) : pieceT Tryd.prog (at_ Tryd.f18 [1, 0, 1, 0, 0]) 98 (fx18_3 qa0 n1 x2) g (mx18_3.map (·.1)) [] [] s18_3 =
  .br (x2 == 1)
    (.fin .normal [(12, .bool true)])
    (.fin .normal [(12, .bool (x2 == 0))]) := by kernel_rfl
abbrev fx18_10 (qa0 : Addr) (n1 : Nat) (g4 : Nat → Value) : List (Tmp × Value) := [(0, .pointer (some qa0)), (3, .pointer (some ⟨n1, 0, none⟩)), (4, g4 4)]
abbrev m18_10 : List (Tmp × Comp) := [(5, .leaf .str), (6, .leaf (.int .i64))]
abbrev mx18_10 : List (Tmp × Comp) := [(5, .leaf .str)]
abbrev mr18_10 : List (Tmp × Comp) := []
abbrev fx18_14 (qa0 : Addr) (n1 : Nat) (s_5 : ByteArray) (x_6 : Int) (c13 : Int) : List (Tmp × Value) := [(0, .pointer (some qa0)), (3, .pointer (some ⟨n1, 0, none⟩)), (5, .string s_5), (6, .int .i64 x_6), (7, .int .u8 c13)]
abbrev mx18_14 : List (Tmp × Comp) := [(48, .leaf .bool)]
def s18_14 : Script := .sym (.lit (.lit (.sym (.lit (.lit (.sym (.lit (.lit (.sym (.lit (.cl (.one (.leaf (.int .i64))) (.lit (.lit .nil)))) (.lit (.lit (.lit .nil)))))) (.lit (.lit (.lit (.lit (.lit (.lit .nil))))))))) (.lit (.lit (.lit (.lit (.lit (.lit (.lit (.lit (.lit .nil)))))))))))) (.lit (.lit (.lit (.lit (.lit (.lit (.lit (.lit (.lit (.lit (.lit (.lit .nil))))))))))))
theorem t18_14 (qa0 : Addr) (n1 : Nat) (s_5 : ByteArray) (x_6 : Int) (c13 : Int) (g : Nat → Value) : pieceT Tryd.prog (at_ Tryd.f18 [1, 0, 1, 0, 1, 1, 1, 0, 1, 0, 1, 0, 0, 1, 0, 0, 1, 0]) 98 (fx18_14 qa0 n1 s_5 x_6 c13) g (mx18_14.map (·.1)) [] [] s18_14 =
  .br (Decidable.decide (c13 ≥ 32))
    (.br (Decidable.decide (c13 < 127))
      (.br (c13 != 34)
        (.br (c13 != 92)
          (.call 37 #[.pointer (some qa0), .int .i64 2] (.one (.leaf (.int .i64))) (fun x15 =>
            .fin .normal [(48, .bool (x15 == 0))]))
          (.fin .normal [(48, .bool false)]))
        (.fin .normal [(48, .bool false)]))
      (.fin .normal [(48, .bool false)]))
    (.fin .normal [(48, .bool false)]) := by kernel_rfl
def s18_10 : Script := .ld .str (.sym (.ld .str (.ix (.ct 0 [0, 3, 5, 6, 7] mx18_14 (.sym (.ld .str (.nop (.nop (.nop (.nd (.nd .nil)))))) (.cl (.one (.leaf .str)) (.nd .nil)))))) .nil)
theorem t18_10 (qa0 : Addr) (n1 : Nat) (g4 : Nat → Value) (s_5 : ByteArray) (x_6 : Int) (g : Nat → Value) : pieceT Tryd.prog (at_ Tryd.f18 [1, 0, 1, 0, 1, 1, 1, 0, 1, 0, 1, 0, 0]) 98 (fx18_10 qa0 n1 g4 ++ mvals m18_10 (s_5, x_6, ())) g (m18_10.map (·.1)) (mx18_10.map (·.1)) (mr18_10.map (·.1)) s18_10 =
  .load ⟨n1, 2, none⟩ .str (fun s11 =>
    .br (Decidable.decide (x_6 < (↑s11.size : Int)))
      (.load ⟨n1, 2, none⟩ .str (fun s12 =>
        .bidx s12 x_6 (fun c13 =>
          .cut (at_ Tryd.f18 [1, 0, 1, 0, 1, 1, 1, 0, 1, 0, 1, 0, 0, 1, 0, 0, 1, 0]) 98 (fx18_14 qa0 n1 s_5 x_6 c13) mx18_14 (fun u16 g16 =>
            .br u16.1
              (.load ⟨n1, 2, none⟩ .str (fun s17 =>
                .need (Decidable.decide (0 ≤ x_6 ∧ x_6 ≤ IntKind.i64.wrap (x_6 + 1) ∧ IntKind.i64.wrap (x_6 + 1) ≤ (↑s17.size : Int)))
                  (.need (Decidable.decide (s_5.size + (s17.extract x_6.toNat (IntKind.i64.wrap (x_6 + 1)).toNat).size ≤ 9223372036854775807))
                    (.fin .normal [(5, .string (s_5 ++ s17.extract x_6.toNat (IntKind.i64.wrap (x_6 + 1)).toNat)), (6, .int .i64 (IntKind.i64.wrap (x_6 + 1)))]))))
              (.call 38 #[.pointer (some qa0), .int .u8 c13] (.one (.leaf .str)) (fun s18 =>
                .need (Decidable.decide (s_5.size + s18.size ≤ 9223372036854775807))
                  (.fin .normal [(5, .string (s_5 ++ s18)), (6, .int .i64 (IntKind.i64.wrap (x_6 + 1)))])))))))
      (.fin (.exit 1) [(5, .string s_5)])) := by kernel_rfl
abbrev fx18_22 (qa0 : Addr) (n1 : Nat) (g4 : Nat → Value) : List (Tmp × Value) := [(0, .pointer (some qa0)), (3, .pointer (some ⟨n1, 0, none⟩)), (4, g4 4)]
abbrev m18_22 : List (Tmp × Comp) := [(8, .leaf .str), (9, .leaf (.int .i64))]
abbrev mx18_22 : List (Tmp × Comp) := [(8, .leaf .str)]
abbrev mr18_22 : List (Tmp × Comp) := []
def s18_22 : Script := .ld .sl (.sym (.sym (.cl (.one (.leaf .str)) (.nd (.nd (.cl (.one (.leaf .str)) (.nd (.ld .sl (.ix (.ld (.int .i64) (.ld (.int .i64) (.ld .str (.ld .sl (.cl (.one (.leaf .str)) (.nd .nil))))))))))))) (.ld .sl (.ix (.ld (.int .i64) (.ld (.int .i64) (.ld .str (.ld .sl (.cl (.one (.leaf .str)) (.nd .nil))))))))) .nil)
theorem t18_22 (qa0 : Addr) (n1 : Nat) (g4 : Nat → Value) (s_8 : ByteArray) (x_9 : Int) (g : Nat → Value) : pieceT Tryd.prog (at_ Tryd.f18 [1, 1, 1, 0, 1, 0, 0]) 98 (fx18_22 qa0 n1 g4 ++ mvals m18_22 (s_8, x_9, ())) g (m18_22.map (·.1)) (mx18_22.map (·.1)) (mr18_22.map (·.1)) s18_22 =
  .load ⟨n1, 3, none⟩ .sl (fun l23 =>
    .br (Decidable.decide (x_9 < (↑l23.snd.fst : Int)))
      (.br (Decidable.decide (x_9 > 0))
        (.call 20 #[.pointer (some qa0)] (.one (.leaf .str)) (fun s24 =>
          .need (Decidable.decide (s_8.size + s24.size ≤ 9223372036854775807))
            (.need (Decidable.decide ((s_8 ++ s24).size + (bytesL [44]).size ≤ 9223372036854775807))
              (.call 20 #[.pointer (some qa0)] (.one (.leaf .str)) (fun s25 =>
                .need (Decidable.decide ((s_8 ++ s24 ++ bytesL [44]).size + s25.size ≤ 9223372036854775807))
                  (.load ⟨n1, 3, none⟩ .sl (fun l26 =>
                    .idx l26.1 x_9 l26.2.1 4 (fun a27 =>
                      .load a27 (.int .i64) (fun x28 =>
                        .load (a27.add 1) (.int .i64) (fun x29 =>
                          .load (a27.add 2) .str (fun s30 =>
                            .load (a27.add 3) .sl (fun l31 =>
                              .call 18 #[.pointer (some qa0), .agg #[.int .i64 x28, .int .i64 x29, .string s30, .slice l31.1 l31.2.1 l31.2.2]] (.one (.leaf .str)) (fun s32 =>
                                .need (Decidable.decide ((s_8 ++ s24 ++ bytesL [44] ++ s25).size + s32.size ≤ 9223372036854775807))
                                  (.fin .normal [(8, .string (s_8 ++ s24 ++ bytesL [44] ++ s25 ++ s32)), (9, .int .i64 (IntKind.i64.wrap (x_9 + 1)))]))))))))))))))
        (.load ⟨n1, 3, none⟩ .sl (fun l33 =>
          .idx l33.1 x_9 l33.2.1 4 (fun a34 =>
            .load a34 (.int .i64) (fun x35 =>
              .load (a34.add 1) (.int .i64) (fun x36 =>
                .load (a34.add 2) .str (fun s37 =>
                  .load (a34.add 3) .sl (fun l38 =>
                    .call 18 #[.pointer (some qa0), .agg #[.int .i64 x35, .int .i64 x36, .string s37, .slice l38.1 l38.2.1 l38.2.2]] (.one (.leaf .str)) (fun s39 =>
                      .need (Decidable.decide (s_8.size + s39.size ≤ 9223372036854775807))
                        (.fin .normal [(8, .string (s_8 ++ s39)), (9, .int .i64 (IntKind.i64.wrap (x_9 + 1)))]))))))))))
      (.fin (.exit 3) [(8, .string s_8)])) := by kernel_rfl
def s18 : Script := .ld (.int .i64) (.ct 0 [0, 3, 11] mx18_3 (.sym (.ld (.int .i64) (.ld (.int .i64) (.ld .str (.ld .sl (.cl (.one (.leaf .str)) .nil))))) (.sym (.lp 1 [0, 3, 4] [5, 6] mx18_10 mr18_10 (.nd .nil) .nil) (.cl (.one (.leaf .str)) (.nd (.lp 3 [0, 3, 4] [8, 9] mx18_22 mr18_22 (.cl (.one (.leaf .str)) (.nd (.nd .nil))) .nil))))))
theorem t18 (qa0 : Addr) (qx1_0 : Int) (qx1_1 : Int) (qs1_2 : ByteArray) (qa1_3 : Option Addr) (qn1_3 : Nat) (qc1_3 : Nat) : fnT Tryd.prog Tryd.f18 #[.pointer (some qa0), .agg #[.int .i64 qx1_0, .int .i64 qx1_1, .string qs1_2, .slice qa1_3 qn1_3 qc1_3]] s18 =
  .new (.cells #[.int .i64 qx1_0, .int .i64 qx1_1, .string qs1_2, .slice qa1_3 qn1_3 qc1_3] 24 (0, 0)) (fun n1 =>
    .load ⟨n1, 0, none⟩ (.int .i64) (fun x2 =>
      .cut (at_ Tryd.f18 [1, 0, 1, 0, 0]) 98 (fx18_3 qa0 n1 x2) mx18_3 (fun u4 g4 =>
        .br u4.1
          (.load ⟨n1, 0, none⟩ (.int .i64) (fun x5 =>
            .load ⟨n1, 1, none⟩ (.int .i64) (fun x6 =>
              .load ⟨n1, 2, none⟩ .str (fun s7 =>
                .load ⟨n1, 3, none⟩ .sl (fun l8 =>
                  .call 21 #[.agg #[.int .i64 x5, .int .i64 x6, .string s7, .slice l8.1 l8.2.1 l8.2.2]] (.one (.leaf .str)) (fun s9 =>
                    .done (.returned (.string s9))))))))
          (.br (x2 == 2)
            (.loop (at_ Tryd.f18 [1, 0, 1, 0, 1, 1, 1, 0, 1, 0, 1, 0, 0]) 98 (fx18_10 qa0 n1 g4) [(5, .string (bytesL [34])), (6, .int .i64 0)] mx18_10 mr18_10 1 (fun u19 g19 =>
              .need (Decidable.decide (u19.fst.size + (bytesL [34]).size ≤ 9223372036854775807))
                (.done (.returned (.string (u19.fst ++ bytesL [34]))))) (fun u20 g20 =>
              .stuck))
            (.call 20 #[.pointer (some qa0)] (.one (.leaf .str)) (fun s21 =>
              .need (Decidable.decide ((bytesL [91]).size + s21.size ≤ 9223372036854775807))
                (.loop (at_ Tryd.f18 [1, 1, 1, 0, 1, 0, 0]) 98 (fx18_22 qa0 n1 g4) [(8, .string (bytesL [91] ++ s21)), (9, .int .i64 0)] mx18_22 mr18_22 3 (fun u40 g40 =>
                  .call 20 #[.pointer (some qa0)] (.one (.leaf .str)) (fun s41 =>
                    .need (Decidable.decide (u40.fst.size + s41.size ≤ 9223372036854775807))
                      (.need (Decidable.decide ((u40.fst ++ s41).size + (bytesL [93]).size ≤ 9223372036854775807))
                        (.done (.returned (.string (u40.fst ++ s41 ++ bytesL [93]))))))) (fun u42 g42 =>
                  .stuck)))))))) := by kernel_rfl

/-! plain law -/
/-- Bytes between quotes that are read as these. -/
def BdP (b s : List UInt8) : Prop := ∃ j, ∀ n acc r, readQ (n + j) acc (b ++ r) = readQ n (acc ++ s) r
theorem BdP.nil : BdP [] [] := ⟨0, fun n acc r => by simp⟩
theorem BdP.app {b s b' s' : List UInt8} (h : BdP b s) (h' : BdP b' s') : BdP (b ++ b') (s ++ s') := by
  obtain ⟨j, h⟩ := h
  obtain ⟨j', h'⟩ := h'
  refine ⟨j' + j, fun n acc r => ?_⟩
  rw [← Nat.add_assoc, List.append_assoc, h, h', List.append_assoc]
theorem BdP.plain {c : UInt8} (h1 : 32 ≤ c.toNat) (h2 : c.toNat < 127) (h3 : c.toNat ≠ 34) (h4 : c.toNat ≠ 92) : BdP [c] [c] := ⟨1, fun n acc r => by
  have hp : pk (c :: r) = c.toNat := rfl
  have := readQ_plain n acc (c :: r) (by omega) (by omega) (by omega)
  rw [hp] at this
  simpa using this⟩
theorem BdP.hex {c d1 d2 : UInt8} (h1 : hexP d1.toNat = some (c.toNat / 16)) (h2 : hexP d2.toNat = some (c.toNat % 16)) : BdP [92, 120, d1, d2] [c] := ⟨1, fun n acc r => by
  have := readQ_back n acc (92 :: 120 :: d1 :: d2 :: r) rfl
  have he : escM (120 :: d1 :: d2 :: r) = some (c, r) := by
    unfold escM
    have hp : pk (120 :: d1 :: d2 :: r) = 120 := rfl
    have hp1 : pk (120 :: d1 :: d2 :: r).tail = d1.toNat := rfl
    have hp2 : pk (120 :: d1 :: d2 :: r).tail.tail = d2.toNat := rfl
    rw [hp, hp1, hp2, if_neg (by decide), if_neg (by decide), if_neg (by decide), if_neg (by decide), if_pos rfl, h1, h2]
    have : UInt8.ofNat (c.toNat / 16 * 16 + c.toNat % 16) = c := by
      rw [show c.toNat / 16 * 16 + c.toNat % 16 = c.toNat by omega]; simp
    dsimp only
    rw [this]
    rfl
  have e : (92 :: 120 :: d1 :: d2 :: r : List UInt8).tail = 120 :: d1 :: d2 :: r := rfl
  rw [e, he] at this
  exact this⟩
theorem BdP.bd {b s : List UInt8} (h : BdP b s) : Bd b s := fun r acc => by
  obtain ⟨j, h⟩ := h
  refine ⟨1 + j, ?_⟩
  rw [h, readQ_end 0 _ _ rfl]
  rfl
theorem FmI_cons (x : VT) (l : List VT) (t : List UInt8) : FmI (x :: l) t = ∃ tx b1 rest, Fm x tx ∧ Bl b1 ∧ t = tx ++ (b1 ++ rest) ∧ ((l = [] ∧ rest = [93]) ∨ ∃ b2 t', Bl b2 ∧ rest = 44 :: (b2 ++ t') ∧ FmI l t') := by rw [FmI]
/-- The text of the first i items. -/
def PreI (l : List VT) (i : Nat) (t : List UInt8) : Prop := (i = 0 → t = []) ∧
  (0 < i → ∀ b1 tail, Bl b1 → ((l.drop i = [] ∧ tail = [93]) ∨ ∃ b2 t', Bl b2 ∧ tail = 44 :: (b2 ++ t') ∧ FmI (l.drop i) t') → FmI l (t ++ (b1 ++ tail)))
theorem PreI.zero (l : List VT) : PreI l 0 [] := ⟨fun _ => rfl, fun h => by omega⟩
theorem PreI.first {l : List VT} {y : VT} {ty : List UInt8} (hy : l[0]? = some y) (hf : Fm y ty) : PreI l 1 ty := by
  refine ⟨fun h => by omega, fun _ b1 tail hb ht => ?_⟩
  cases l with
  | nil => cases hy
  | cons z r =>
    cases hy
    rw [FmI_cons]
    exact ⟨ty, b1, tail, hf, hb, rfl, ht⟩
theorem PreI.next {l : List VT} {i : Nat} {t : List UInt8} {y : VT} {ty b1 b2 : List UInt8} (h : PreI l i t) (hi : 0 < i) (hy : l[i]? = some y) (hf : Fm y ty) (hb1 : Bl b1) (hb2 : Bl b2) : PreI l (i + 1) (t ++ b1 ++ [44] ++ b2 ++ ty) := by
  refine ⟨fun h => by omega, fun _ b1' tail hb ht => ?_⟩
  have hd : l.drop i = y :: l.drop (i + 1) := by
    have hlt := (List.getElem?_eq_some_iff.1 hy).1
    rw [List.drop_eq_getElem_cons hlt]
    congr 1
    exact (List.getElem?_eq_some_iff.1 hy).2
  have := h.2 hi b1 (44 :: (b2 ++ (ty ++ (b1' ++ tail)))) hb1 (.inr ⟨b2, _, hb2, rfl, by
    rw [hd, FmI_cons]
    exact ⟨ty, b1', tail, hf, hb, rfl, ht⟩⟩)
  simpa [List.append_assoc] using this
theorem PreI.end_ {l : List VT} {t b1 : List UInt8} (h : PreI l l.length t) (hl : l ≠ []) (hb : Bl b1) : FmI l (t ++ (b1 ++ [93])) :=
  h.2 (List.length_pos_iff.2 hl) b1 [93] hb (.inl ⟨List.drop_length, rfl⟩)
theorem check_flat {x : VT} (h : Good x) (hk : x.kind = 0 ∨ x.kind = 1) : checkV x = 0 := by
  rw [Good_def] at h
  obtain ⟨x0, x3, xi, xs, xl, xt, xn, xg⟩ := h
  have hl := xl (by omega)
  unfold checkV
  rw [partV_def, if_neg (by decide), if_neg (by omega), if_neg ?_, if_neg (by omega), if_neg (by omega), if_neg (by omega), hl]
  · rfl
  · rintro (⟨h1, h2⟩ | ⟨h1, h2⟩ | ⟨h1, h2⟩)
    · exact h1 (xi h2)
    · exact h1 (xs h2)
    · rw [hl] at h1; exact absurd h1 (by simp)
theorem ext_one (s : ByteArray) (i : Nat) (h : i < s.size) : s.extract i (i + 1) = bytesL [s[i]] := by
  apply ByteArray.ext
  rw [ByteArray.data_extract]
  apply Array.ext'
  rw [Array.toList_extract, List.extract_eq_take_drop, show i + 1 - i = 1 by omega]
  have : s.data.toList.drop i = s[i] :: s.data.toList.drop (i + 1) := by
    rw [List.drop_eq_getElem_cons (by simpa using h)]
    rfl
  rw [this]
  rfl
theorem take_succ (s : ByteArray) (i : Nat) (h : i < s.size) : s.data.toList.take (i + 1) = s.data.toList.take i ++ [s[i]] := by
  have hl : i < s.data.toList.length := by simpa using h
  rw [List.take_add_one, List.getElem?_eq_getElem hl]
  rfl
/-! the walk -/
def LooseR (w0 w : World) (nl : Nat) (q : Option Addr) (n d a : Nat) (x : VT) (e : Ending) (w' : World) : Prop :=
  ∃ t, e = .returned (.string (bytesL t)) ∧ Fm x t ∧ t.length ≤ 5 * costV x ∧ (∃ a', LS w0 w' nl q n d a' ∧ a' ≤ a + 5 * costV x) ∧ Ch (· = nl) w w'
set_option maxHeartbeats 1000000 in
theorem loose_words {w0 w w1 : World} {nl : Nat} {q : Option Addr} {n d a : Nat} {x : VT} {p : Option Addr} {m c : Nat} (hL : LS w0 w nl q n d a) (h1 : Ch No w w1) (b1 : Blk w1 w.heap.size (cellsV x p m c) 24) (hx : Good x) (e2 : x.kind = 2) (ha : a + 5 * costV x ≤ 100000) (g4 : Nat → Value) :
    wpT Tryd.prog (LooseR w0 w nl q n d a x) (fun _ _ _ => False) (.loop (at_ Tryd.f18 [1, 0, 1, 0, 1, 1, 1, 0, 1, 0, 1, 0, 0]) 98 (fx18_10 ⟨nl, 0, none⟩ w.heap.size g4) [(5, .string (bytesL [34])), (6, .int .i64 0)] mx18_10 mr18_10 1 (fun u19 g19 =>
              .need (Decidable.decide (u19.fst.size + (bytesL [34]).size ≤ 9223372036854775807))
                (.done (.returned (.string (u19.fst ++ bytesL [34]))))) (fun u20 g20 =>
              .stuck)) .pl w1 := by
  have hnl : w.heap.size ≠ nl := by have := hL.blk.lt; omega
  have L1 := hL.no h1
  rw [Good_def] at hx
  have hts := hx.2.2.2.2.2.1
  have hcost : 4 * x.text.size + 30 ≤ costV x := by rw [costV_def]; omega
  refine loop_i mixed m18_10 s18_10 (by kernel_rfl) (by kernel_rfl)
    (fun (v : ByteArray × Int × Unit) w' => ∃ (tt : List UInt8) (i : Nat), v.1 = bytesL (34 :: tt) ∧ v.2.1 = (i : Int) ∧ i ≤ x.text.size ∧ BdP tt (x.text.data.toList.take i) ∧ tt.length ≤ 4 * i ∧ (∃ a', LS w0 w' nl q n d a' ∧ a' ≤ a + 3 * i) ∧ Ch (· = nl) w1 w')
    (fun (v : ByteArray × Int × Unit) _ => x.text.size - v.2.1.toNat) (bytesL [34], 0, ()) rfl
    ⟨[], 0, rfl, rfl, by omega, BdP.nil, by simp, ⟨a, L1, by omega⟩, Ch.refl _ _⟩ ?_
  rintro ⟨_, _, ⟨⟩⟩ g w2 ⟨tt, i, rfl, rfl, hi, hbd, htl, ⟨a2, L2, ha2⟩, h2⟩
  rw [t18_10]
  have b2 := b1.ch h2 hnl
  refine ld_str (b2.cell 2) (br_both (fun e => ?_) fun e => ?_)
  · have hlt : i < x.text.size := by have : (i : Int) < (x.text.size : Int) := of_decide_eq_true e; omega
    refine ld_str (b2.cell 2) (bi_i (by omega) (by rw [Int.toNat_natCast]; exact hlt) ?_)
    have hti := take_succ x.text i hlt
    have hxe := ext_one x.text i hlt
    have hsz34 : (bytesL (34 :: tt)).size ≤ 200 := by rw [bytesL_size, List.length_cons]; omega
    rw [show (x.text[((i : Int)).toNat]'(by rw [Int.toNat_natCast]; exact hlt)) = x.text[i] from rfl]
    generalize x.text[i] = cb at *
    have hw : IntKind.i64.wrap ((i : Int) + 1) = ((i + 1 : Nat) : Int) := by rw [IntKind.wrap_i64]; omega
    refine cut_i mixed s18_14 (fun (v : Bool × Unit) w' => (v.1 = true → 32 ≤ cb.toNat ∧ cb.toNat < 127 ∧ cb.toNat ≠ 34 ∧ cb.toNat ≠ 92) ∧ (∃ a3, LS w0 w' nl q n d a3 ∧ a3 ≤ a2 + 1) ∧ Ch (· = nl) w2 w') (by kernel_rfl) (fun g => ?_) ?_
    · rw [t18_14]
      have no : ∀ b : Bool, b = false → wpT Tryd.prog (LooseR w0 w nl q n d a x) (fun e L w' => e = .normal ∧ ∃ v, L = mvals mx18_14 v ∧ (fun (v : Bool × Unit) w' => (v.1 = true → 32 ≤ cb.toNat ∧ cb.toNat < 127 ∧ cb.toNat ≠ 34 ∧ cb.toNat ≠ 92) ∧ (∃ a3, LS w0 w' nl q n d a3 ∧ a3 ≤ a2 + 1) ∧ Ch (· = nl) w2 w') v w') (.fin .normal [(48, .bool b)]) .pl w2 := by
        rintro b rfl
        exact ⟨rfl, (false, ()), rfl, (fun h => by cases h), ⟨a2, L2, by omega⟩, Ch.refl _ _⟩
      refine br_both (fun f1 => br_both (fun f2 => br_both (fun f3 => br_both (fun f4 => ?_) fun _ => no _ rfl) fun _ => no _ rfl) fun _ => no _ rfl) fun _ => no _ rfl
      have f1 := of_decide_eq_true f1
      have f2 := of_decide_eq_true f2
      simp only [bne_iff_ne, ne_eq] at f3 f4
      refine cl_i (nextc_any L2 (by omega) 2 (by omega)) ?_
      rintro e' w3 ⟨r, rfl, hr, ⟨a3, L3, ha3⟩, h3⟩
      exact ⟨(r : Int), rfl, rfl, (_, ()), rfl, fun _ => ⟨by omega, by omega, by omega, by omega⟩, ⟨a3, L3, ha3⟩, h3⟩
    rintro ⟨v, ⟨⟩⟩ g w3 ⟨hv, ⟨a3, L3, ha3⟩, h3⟩
    dsimp only at hv
    have b3 := b2.ch h3 hnl
    refine br_both (fun e' => ?_) fun e' => ?_
    · obtain ⟨p1, p2, p3, p4⟩ := hv e'
      refine ld_str (b3.cell 2) ?_
      dsimp only
      rw [hw, Int.toNat_natCast, Int.toNat_natCast]
      refine ⟨decide_eq_true (by omega), decide_eq_true (by rw [hxe, bytesL_size (a := [cb])]; show _ + 1 ≤ _; omega), (_, ((i + 1 : Nat) : Int), ()), rfl, ⟨tt ++ [cb], i + 1, ?_, rfl, by omega, ?_, ?_, ⟨a3, L3, by omega⟩, h2.trans h3⟩, by dsimp only; omega⟩
      · rw [hxe]; exact bytesL_app _ _
      · rw [hti]; exact hbd.app (BdP.plain p1 p2 p3 p4)
      · rw [List.length_append, List.length_cons, List.length_nil]; omega
    · refine cl_i (hexed_any L3 (by omega) cb) ?_
      rintro e'' w4 ⟨d1, d2, rfl, x1, x2, ⟨a4, L4, ha4⟩, h4⟩
      refine ⟨bytesL [92, 120, d1, d2], rfl, ?_⟩
      dsimp only
      rw [hw]
      refine ⟨decide_eq_true (by rw [bytesL_size (a := [92, 120, d1, d2])]; show _ + 4 ≤ _; omega), (_, ((i + 1 : Nat) : Int), ()), rfl, ⟨tt ++ [92, 120, d1, d2], i + 1, ?_, rfl, by omega, ?_, ?_, ⟨a4, L4, by omega⟩, h2.trans (h3.trans h4)⟩, by dsimp only; omega⟩
      · exact bytesL_app _ _
      · rw [hti]; exact hbd.app (BdP.hex x1 x2)
      · rw [List.length_append, List.length_cons, List.length_cons, List.length_cons, List.length_cons, List.length_nil]; omega
  · have hge : i = x.text.size := by have : ¬ (i : Int) < (x.text.size : Int) := of_decide_eq_false e; omega
    refine ⟨rfl, (bytesL (34 :: tt), ()), rfl, fun g' => ?_⟩
    refine ⟨decide_eq_true (by simp only [bytesL_size, List.length_cons, List.length_nil]; omega), ?_⟩
    subst hge
    rw [List.take_of_length_le (by simp)] at hbd
    refine ⟨34 :: (tt ++ [34]), ?_, ?_, ?_, ⟨a2, L2, by omega⟩, h1.no.trans h2⟩
    · show Ending.returned (.string (bytesL (34 :: tt) ++ bytesL [34])) = _
      rw [bytesL_app]; rfl
    · rw [Fm_def]
      exact .inr (.inr (.inl ⟨e2, tt, rfl, hbd.bd⟩))
    · rw [List.length_cons, List.length_append, List.length_cons, List.length_nil]; omega
set_option maxHeartbeats 1000000 in
theorem loose_text (w0 : World) (nl : Nat) (q : Option Addr) (n d : Nat) (hT : Tabs w0) (h7g : 7 ≤ w0.heap.size) (k : Nat) : ∀ (x : VT) (p : Option Addr) (m c : Nat) (w : World) (a : Nat), SizeOf.sizeOf x < k → IsV w0 x p m c → Good x → Fit x → LS w0 w nl q n d a → a + 5 * costV x ≤ 100000 →
    Calls Tryd.prog 18 #[.pointer (some ⟨nl, 0, none⟩), valV x p m c] w (LooseR w0 w nl q n d a x) := by
  induction k with
  | zero => intro x p m c w a h; omega
  | succ k ih =>
    intro x p m c w a hk hx hg hf hL ha
    refine calls_of_fnT mixed Tryd.func18 (s := s18) ?_
    unfold valV
    rw [t18]
    have hnl : w.heap.size ≠ nl := by have := hL.blk.lt; omega
    refine nw fun w1 h1 z1 (b1 : Blk w1 w.heap.size (cellsV x p m c) 24) => ?_
    refine ld_int (b1.cell 0) ?_
    refine cut_i mixed s18_3 (fun (v : Bool × Unit) w' => w' = w1 ∧ (v.1 = true ↔ x.kind = 1 ∨ x.kind = 0)) (by kernel_rfl) (fun g => ?_) ?_
    · rw [t18_3]
      refine br_both (fun e => ⟨rfl, (true, ()), rfl, rfl, ?_⟩) fun e => ⟨rfl, (x.kind == 0, ()), rfl, rfl, ?_⟩
      · have e : x.kind = 1 := by simpa using e
        simp [e]
      · have e : ¬ x.kind = 1 := by simpa using e
        simp [e]
    rintro ⟨v, ⟨⟩⟩ g4 w1' ⟨rfl, hv⟩
    dsimp only at hv
    have L1 := hL.no h1
    have hgd := hg
    rw [Good_def] at hgd
    obtain ⟨x0, x3, xi, xs, xl, xt, xn, xg⟩ := hgd
    refine br_both (fun e => ?_) fun e => ?_
    · have hk01 := hv.1 e
      have hck := check_flat hg hk01.symm
      have hvx : validV x = x := by unfold validV; rw [if_pos hck]
      refine ld_v b1 (cl_i (Print_any x p m c w1' (hx.no L1.ch) hf (hT.no L1.ch) (Nat.le_trans h7g L1.ch.size)) ?_)
      rintro r w2 ⟨rfl, h2⟩
      have hfm := print_form _ x (Nat.lt_succ_self _) hg
      have hpl := print_len _ x (Nat.lt_succ_self _) hf
      have hpt : printTxt x = printV x := by unfold printTxt; rw [hvx]
      rw [hpt]
      exact ⟨bytesL (printV x), rfl, printV x, rfl, hfm, by omega, ⟨a, L1.no h2, by omega⟩, h1.no.trans h2.no⟩
    have hk23 : ¬ (x.kind = 1 ∨ x.kind = 0) := fun h => by rw [hv.2 h] at e; cases e
    refine br_both (fun e2 => ?_) fun e2 => ?_
    · have e2 : x.kind = 2 := by simpa using e2
      exact loose_words hL h1 b1 hg e2 ha g4
    · have e2 : ¬ x.kind = 2 := by simpa using e2
      have e3 : x.kind = 3 := by omega
      have hcv := costV_def x
      refine cl_i (blanksc_any L1 (by omega)) ?_
      rintro r w2 ⟨b0, rfl, hb0, hl0, ⟨a2, L2, ha2⟩, h2⟩
      refine ⟨bytesL b0, rfl, decide_eq_true (by rw [bytesL_size (a := b0)]; show 1 + _ ≤ _; omega), ?_⟩
      have hlen := RIt_len hx.its
      have hcap := hx.cap
      have hbig := hx.big
      refine loop_i mixed m18_22 s18_22 (by kernel_rfl) (by kernel_rfl)
        (fun (v : ByteArray × Int × Unit) w' => ∃ (tt : List UInt8) (i : Nat), v.1 = bytesL (91 :: (b0 ++ tt)) ∧ v.2.1 = (i : Int) ∧ i ≤ m ∧ PreI x.items i tt ∧ tt.length ≤ 5 * costL (x.items.take i) ∧ (∃ a', LS w0 w' nl q n d a' ∧ a' ≤ a + 1 + 5 * costL (x.items.take i)) ∧ Ch (· = nl) w1' w')
        (fun (v : ByteArray × Int × Unit) _ => m - v.2.1.toNat) (bytesL [91] ++ bytesL b0, 0, ()) rfl
        ⟨[], 0, by rw [bytesL_app, List.append_nil]; rfl, rfl, by omega, PreI.zero _, by simp, ⟨a2, L2, by omega⟩, h2⟩ ?_
      rintro ⟨_, _, ⟨⟩⟩ g w3 ⟨tt, i, rfl, rfl, hi, hpre, htl, ⟨a3, L3, ha3⟩, h3⟩
      rw [t18_22]
      have b3 := b1.ch h3 hnl
      have hcl := costL_le (l := x.items) i
      have hw : IntKind.i64.wrap ((i : Int) + 1) = ((i + 1 : Nat) : Int) := by rw [IntKind.wrap_i64]; omega
      have hs0 : (bytesL (91 :: (b0 ++ tt))).size ≤ 100100 := by rw [bytesL_size, List.length_cons, List.length_append]; omega
      refine ld_sl (b3.cell 3) (br_both (fun e => ?_) fun e => ?_)
      · have hi : i < m := by have : (i : Int) < (m : Int) := of_decide_eq_true e; omega
        obtain ⟨y, hy⟩ : ∃ u, x.items[i]? = some u := ⟨_, List.getElem?_eq_getElem (by omega)⟩
        obtain ⟨ad, r, my, cy, rfl, cv, vy⟩ := hx.get hy
        have hct := costL_take hy
        have hcl1 := costL_le (l := x.items) (i + 1)
        have hgy : Good y := GoodL_mem xg y (List.mem_of_getElem? hy)
        have hfy : Fit y := by rw [Fit_def] at hf; exact FitL_get hf.2.2.2 hy
        have hsy := VT.size_lt hy
        refine br_both (fun e' => ?_) fun e' => ?_
        · have hi0 : 0 < i := by have : (i : Int) > 0 := of_decide_eq_true e'; omega
          refine cl_i (blanksc_any L3 (by omega)) ?_
          rintro r1 w4 ⟨s1, rfl, hb1, hl1, ⟨a4, L4, ha4⟩, h4⟩
          refine ⟨bytesL s1, rfl, decide_eq_true (by rw [bytesL_size (a := s1)]; omega), ?_⟩
          try dsimp only
          rw [bytesL_app]
          have hs1 : (bytesL (91 :: (b0 ++ tt) ++ s1)).size ≤ 100200 := by rw [bytesL_size, List.length_append]; rw [bytesL_size] at hs0; omega
          refine ⟨decide_eq_true (by rw [bytesL_size (a := [44])]; show _ + 1 ≤ _; omega), ?_⟩
          rw [bytesL_app]
          have hs2 : (bytesL (91 :: (b0 ++ tt) ++ s1 ++ [44])).size ≤ 100300 := by rw [bytesL_size, List.length_append]; rw [bytesL_size] at hs1; show _ + 1 ≤ _; omega
          refine cl_i (blanksc_any L4 (by omega)) ?_
          rintro r2 w5 ⟨s2, rfl, hb2, hl2, ⟨a5, L5, ha5⟩, h5⟩
          refine ⟨bytesL s2, rfl, decide_eq_true (by rw [bytesL_size (a := s2)]; omega), ?_⟩
          try dsimp only
          rw [bytesL_app]
          have b5 := (b3.ch h4 hnl).ch h5 hnl
          have C := cv.ch (w' := w5) (fun a v ha => L5.ch.cellv ha (fun h => h))
          refine ld_sl (b5.cell 3) (ix_i (by omega) (by dsimp only; omega) ?_)
          rw [Int.toNat_natCast]
          refine ld_int C.c0 (ld_int C.c1 (ld_str C.c2 (ld_sl C.c3 ?_)))
          refine cl_i (ih y r my cy w5 a5 (by omega) vy hgy hfy L5 (by omega)) ?_
          rintro e'' w6 ⟨ty, rfl, hfm, hty, ⟨a6, L6, ha6⟩, h6⟩
          refine ⟨bytesL ty, rfl, decide_eq_true (by rw [bytesL_size (a := ty)]; simp only [bytesL_size, List.length_append] at *; omega), ?_⟩
          try dsimp only
          rw [hw, bytesL_app]
          refine ⟨(_, ((i + 1 : Nat) : Int), ()), rfl, ⟨tt ++ s1 ++ [44] ++ s2 ++ ty, i + 1, ?_, rfl, by omega, hpre.next hi0 hy hfm hb1 hb2, ?_, ⟨a6, L6, by omega⟩, h3.trans (h4.trans (h5.trans h6))⟩, by dsimp only; omega⟩
          · simp [List.append_assoc]
          · simp only [List.length_append, List.length_cons, List.length_nil]; omega
        · have hi0 : i = 0 := by have : ¬ (i : Int) > 0 := of_decide_eq_false e'; omega
          subst hi0
          have C := cv.ch (w' := w3) (fun a v ha => L3.ch.cellv ha (fun h => h))
          refine ld_sl (b3.cell 3) (ix_i (by omega) (by dsimp only; omega) ?_)
          rw [Int.toNat_natCast]
          refine ld_int C.c0 (ld_int C.c1 (ld_str C.c2 (ld_sl C.c3 ?_)))
          refine cl_i (ih y r my cy w3 a3 (by omega) vy hgy hfy L3 (by omega)) ?_
          rintro e'' w4 ⟨ty, rfl, hfm, hty, ⟨a4, L4, ha4⟩, h4⟩
          refine ⟨bytesL ty, rfl, decide_eq_true (by rw [bytesL_size (a := ty)]; omega), ?_⟩
          try dsimp only
          rw [hw, bytesL_app]
          have htt := hpre.1 rfl
          subst htt
          refine ⟨(_, ((0 + 1 : Nat) : Int), ()), rfl, ⟨ty, 0 + 1, ?_, rfl, by omega, PreI.first hy hfm, by omega, ⟨a4, L4, by omega⟩, h3.trans h4⟩, by dsimp only; omega⟩
          simp [List.append_assoc]
      · have him : i = m := by have : ¬ (i : Int) < (m : Int) := of_decide_eq_false e; omega
        refine ⟨rfl, (bytesL (91 :: (b0 ++ tt)), ()), rfl, fun g' => ?_⟩
        refine cl_i (blanksc_any L3 (by omega)) ?_
        rintro r1 w4 ⟨s1, rfl, hb1, hl1, ⟨a4, L4, ha4⟩, h4⟩
        refine ⟨bytesL s1, rfl, decide_eq_true (by rw [bytesL_size (a := s1)]; dsimp only; omega), ?_⟩
        dsimp only
        rw [bytesL_app]
        refine ⟨decide_eq_true (by rw [bytesL_size (a := [93])]; rw [bytesL_size, List.length_append]; rw [bytesL_size] at hs0; show _ + 1 ≤ _; omega), ?_⟩
        rw [bytesL_app]
        rw [List.take_of_length_le (by omega)] at htl ha3
        refine ⟨91 :: (b0 ++ tt) ++ s1 ++ [93], rfl, ?_, ?_, ⟨a4, L4, by omega⟩, h1.no.trans (h3.trans h4)⟩
        · rw [Fm_def]
          refine .inr (.inr (.inr ⟨e3, ?_⟩))
          cases hl : x.items with
          | nil =>
            rw [hl] at hlen
            have hm0 : m = 0 := hlen.symm
            have htt := hpre.1 (by omega)
            subst htt
            exact ⟨b0 ++ s1, [93], bl_app hb0 hb1, by simp [List.append_assoc], .inl ⟨rfl, rfl⟩⟩
          | cons z r =>
            rw [him, ← hlen] at hpre
            have := hpre.end_ (by rw [hl]; simp) hb1
            rw [hl] at this
            exact ⟨b0, tt ++ (s1 ++ [93]), hb0, by simp [List.append_assoc], .inr this⟩
        · simp only [List.length_append, List.length_cons, List.length_nil]
          omega
end Go.Proofs.YtjellmblammiaaaDoor
