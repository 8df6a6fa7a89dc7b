/- A line's words and numbers: fault, next, end, more, number. -/
import Derived.Test.YtjlmkahagcojcaaGreatDoorBas
import Derived.Test.YtjlmkahagcojcaaGreatDoorShelf
import Derived.Test.YtjlmkahagcojcaaGreatDoorRps
import Derived.Lib.AppendStr
namespace Go.Proofs.YtjlmkahagcojcaaGreatDoor
open Go Tr
set_option maxRecDepth 100000
/-! the tree of function 22 -/
def s22 : Script := .ld (.int .i64) .nil
theorem t22 (qa0 : Addr) (qx1 : Int) (er : Int) : fnT Tryz.prog Tryz.f22 #[.pointer (some qa0), .int .i64 qx1, .iface 69 (.int .i64 er)] s22 =
  .load (qa0.add 1) (.int .i64) (fun x1 =>
    .new (.cells #[.int .i64 x1, .int .i64 qx1, .iface 69 (.int .i64 er)] 122 (0, 0)) (fun n2 =>
      .done (.returned (.iface 120 (.pointer (some ⟨n2, 0, none⟩)))))) := by kernel_rfl
/-! the tree of function 56 -/
abbrev fx56_1 (qa0 : Addr) : List (Tmp × Value) := [(0, .pointer (some qa0)), (2, .string (bytesL [])), (3, .int .i64 0)]
abbrev m56_1 : List (Tmp × Comp) := []
abbrev mx56_1 : List (Tmp × Comp) := []
abbrev mr56_1 : List (Tmp × Comp) := []
abbrev fx56_2 (qa0 : Addr) : List (Tmp × Value) := [(0, .pointer (some qa0))]
abbrev mx56_2 : List (Tmp × Comp) := [(26, .leaf .bool)]
def s56_2 : Script := .qt (.ld (.int .i64) (.ld .str (.sym (.lit (.lit (.lit (.ld .str (.lit (.lit (.lit (.lit (.ld (.int .i64) (.lit (.ix (.lit (.lit .nil))))))))))))) (.lit (.lit (.lit (.lit (.lit (.lit (.lit (.lit (.lit (.lit .nil)))))))))))))
theorem t56_2 (qa0 : Addr) (g : Nat → Value) : pieceT Tryz.prog (at_ Tryz.f56 [1, 0, 0, 0, 0, 0]) 78 (fx56_2 qa0) g (mx56_2.map (·.1)) [] [] s56_2 =
  .drawn
    (.load (qa0.add 2) (.int .i64) (fun x3 =>
      .load qa0 .str (fun s4 =>
        .br (Decidable.decide (x3 < (↑s4.size : Int)))
          (.load qa0 .str (fun s5 =>
            .load (qa0.add 2) (.int .i64) (fun x6 =>
              .bidx s5 x6 (fun c7 =>
                .undrawn
                  (.fin .normal [(26, .bool (c7 == 32))])))))
          (.undrawn
            (.fin .normal [(26, .bool false)]))))) := by kernel_rfl
def s56_1 : Script := .ct 1 [0] mx56_2 (.sym (.ld (.int .i64) .nil) .nil)
theorem t56_1 (qa0 : Addr) (g : Nat → Value) : pieceT Tryz.prog (at_ Tryz.f56 [1, 0, 0, 0]) 78 (fx56_1 qa0 ++ mvals m56_1 (())) g (m56_1.map (·.1)) (mx56_1.map (·.1)) (mr56_1.map (·.1)) s56_1 =
  .cut (at_ Tryz.f56 [1, 0, 0, 0, 0, 0]) 78 (fx56_2 qa0) mx56_2 (fun u8 g8 =>
    .br u8.1
      (.load (qa0.add 2) (.int .i64) (fun x9 =>
        .store (qa0.add 2) (.int .i64 (IntKind.i64.wrap (x9 + 1)))
          (.fin .normal [])))
      (.fin (.exit 0) [])) := by kernel_rfl
abbrev fx56_12 (qa0 : Addr) (x11 : Int) : List (Tmp × Value) := [(0, .pointer (some qa0)), (2, .string (bytesL [])), (3, .int .i64 0), (4, .int .i64 x11)]
abbrev m56_12 : List (Tmp × Comp) := []
abbrev mx56_12 : List (Tmp × Comp) := []
abbrev mr56_12 : List (Tmp × Comp) := []
abbrev fx56_13 (qa0 : Addr) (x11 : Int) : List (Tmp × Value) := [(0, .pointer (some qa0)), (4, .int .i64 x11)]
abbrev mx56_13 : List (Tmp × Comp) := [(59, .leaf .bool)]
def s56_13 : Script := .qt (.ld (.int .i64) (.ld .str (.sym (.lit (.lit (.lit (.ld .str (.lit (.lit (.lit (.lit (.ld (.int .i64) (.lit (.ix (.lit (.lit .nil))))))))))))) (.lit (.lit (.lit (.lit (.lit (.lit (.lit (.lit (.lit (.lit .nil)))))))))))))
theorem t56_13 (qa0 : Addr) (x11 : Int) (g : Nat → Value) : pieceT Tryz.prog (at_ Tryz.f56 [1, 1, 1, 0, 0, 0, 0, 0]) 78 (fx56_13 qa0 x11) g (mx56_13.map (·.1)) [] [] s56_13 =
  .drawn
    (.load (qa0.add 2) (.int .i64) (fun x14 =>
      .load qa0 .str (fun s15 =>
        .br (Decidable.decide (x14 < (↑s15.size : Int)))
          (.load qa0 .str (fun s16 =>
            .load (qa0.add 2) (.int .i64) (fun x17 =>
              .bidx s16 x17 (fun c18 =>
                .undrawn
                  (.fin .normal [(59, .bool (c18 != 32))])))))
          (.undrawn
            (.fin .normal [(59, .bool false)]))))) := by kernel_rfl
def s56_12 : Script := .ct 1 [0, 4] mx56_13 (.sym (.ld (.int .i64) .nil) .nil)
theorem t56_12 (qa0 : Addr) (x11 : Int) (g : Nat → Value) : pieceT Tryz.prog (at_ Tryz.f56 [1, 1, 1, 0, 0, 0]) 78 (fx56_12 qa0 x11 ++ mvals m56_12 (())) g (m56_12.map (·.1)) (mx56_12.map (·.1)) (mr56_12.map (·.1)) s56_12 =
  .cut (at_ Tryz.f56 [1, 1, 1, 0, 0, 0, 0, 0]) 78 (fx56_13 qa0 x11) mx56_13 (fun u19 g19 =>
    .br u19.1
      (.load (qa0.add 2) (.int .i64) (fun x20 =>
        .store (qa0.add 2) (.int .i64 (IntKind.i64.wrap (x20 + 1)))
          (.fin .normal [])))
      (.fin (.exit 2) [])) := by kernel_rfl
def s56 : Script := .lp 0 [0, 2, 3] [] mx56_1 mr56_1 (.ld (.int .i64) (.lp 2 [0, 2, 3, 4] [] mx56_12 mr56_12 (.qt (.ld .str (.ld (.int .i64) (.nd .nil)))) .nil)) .nil
theorem t56 (qa0 : Addr) : fnT Tryz.prog Tryz.f56 #[.pointer (some qa0)] s56 =
  .loop (at_ Tryz.f56 [1, 0, 0, 0]) 78 (fx56_1 qa0) [] mx56_1 mr56_1 0 (fun u10 g10 =>
    .load (qa0.add 2) (.int .i64) (fun x11 =>
      .loop (at_ Tryz.f56 [1, 1, 1, 0, 0, 0]) 78 (fx56_12 qa0 x11) [] mx56_12 mr56_12 2 (fun u21 g21 =>
        .drawn
          (.load qa0 .str (fun s22 =>
            .load (qa0.add 2) (.int .i64) (fun x23 =>
              .need (Decidable.decide (0 ≤ x11 ∧ x11 ≤ x23 ∧ x23 ≤ (↑s22.size : Int)))
                (.undrawn
                  (.done (.returned (.tuple #[.string (s22.extract x11.toNat x23.toNat), .int .i64 x11])))))))) (fun u24 g24 =>
        .stuck))) (fun u25 g25 =>
    .stuck) := by kernel_rfl
/-! the tree of function 58 -/
def s58 : Script := .cl (.tup [.leaf .str, .leaf (.int .i64)]) (.sym (.cl (.one (.leaf .any)) .nil) .nil)
theorem t58 (qa0 : Addr) : fnT Tryz.prog Tryz.f58 #[.pointer (some qa0)] s58 =
  .call 56 #[.pointer (some qa0)] (.tup [.leaf .str, .leaf (.int .i64)]) (fun r1 =>
    .br (!r1.fst.toList == (bytesL []).toList)
      (.call 22 #[.pointer (some qa0), .int .i64 r1.2.1, .iface 69 (.int .i64 61)] (.one (.leaf .any)) (fun v2 =>
        .done (.returned v2)))
      (.done (.returned .nilIface))) := by kernel_rfl
/-! the tree of function 127 -/
def s127 : Script := .qt (.ld .str (.ld (.int .i64) (.nd (.cl (.one (.leaf .str)) .nil))))
theorem t127 (qa0 : Addr) : fnT Tryz.prog Tryz.f127 #[.pointer (some qa0)] s127 =
  .drawn
    (.load qa0 .str (fun s1 =>
      .load (qa0.add 2) (.int .i64) (fun x2 =>
        .need (Decidable.decide (0 ≤ x2 ∧ x2 ≤ (↑s1.size : Int) ∧ (↑s1.size : Int) ≤ (↑s1.size : Int)))
          (.call 148 #[.string (s1.extract x2.toNat s1.size), .string (bytesL [32])] (.one (.leaf .str)) (fun s3 =>
            .undrawn
              (.done (.returned (.bool (!s3.toList == (bytesL []).toList))))))))) := by kernel_rfl
/-! the tree of function 97 -/
def s97 : Script := .cl (.tup [.leaf .str, .leaf (.int .i64)]) (.cl (.tup [.leaf (.int .i64), .leaf .bool]) (.sym (.cl (.one (.leaf .any)) .nil) .nil))
theorem t97 (qa0 : Addr) (qb1 : Bool) : fnT Tryz.prog Tryz.f97 #[.pointer (some qa0), .bool qb1] s97 =
  .call 56 #[.pointer (some qa0)] (.tup [.leaf .str, .leaf (.int .i64)]) (fun r1 =>
    .call 94 #[.string r1.1, .bool qb1] (.tup [.leaf (.int .i64), .leaf .bool]) (fun r2 =>
      .br (!r2.snd.fst)
        (.call 22 #[.pointer (some qa0), .int .i64 r1.2.1, .iface 69 (.int .i64 62)] (.one (.leaf .any)) (fun v3 =>
          .done (.returned (.tuple #[.int .i64 0, v3]))))
        (.done (.returned (.tuple #[.int .i64 r2.1, .nilIface]))))) := by kernel_rfl
/-! the tree of function 94 -/
abbrev fx94_2 (r1 : ByteArray × Bool × Unit) : List (Tmp × Value) := [(6, .string r1.1), (7, .bool r1.2.1)]
abbrev mx94_2 : List (Tmp × Comp) := [(25, .leaf .bool)]
def s94_2 : Script := .sym (.lit (.lit (.lit .nil))) (.lit (.lit (.lit .nil)))
theorem t94_2 (r1 : ByteArray × Bool × Unit) (g : Nat → Value) : pieceT Tryz.prog (at_ Tryz.f94 [1, 1, 1, 0, 0]) 50 (fx94_2 r1) g (mx94_2.map (·.1)) [] [] s94_2 =
  .br (Decidable.decide ((↑r1.fst.size : Int) < 1))
    (.fin .normal [(25, .bool true)])
    (.fin .normal [(25, .bool (Decidable.decide ((↑r1.fst.size : Int) > 9)))]) := by kernel_rfl
abbrev fx94_5 (r1 : ByteArray × Bool × Unit) (l4 : Option Addr × Nat × Nat) : List (Tmp × Value) := [(7, .bool r1.2.1), (27, .slice l4.1 l4.2.1 l4.2.2), (28, .int .i64 (↑l4.snd.fst : Int))]
abbrev m94_5 : List (Tmp × Comp) := [(8, .leaf (.int .i64)), (29, .leaf (.int .i64))]
abbrev mx94_5 : List (Tmp × Comp) := [(8, .leaf (.int .i64))]
abbrev mr94_5 : List (Tmp × Comp) := [(4, .leaf (.int .i64)), (5, .leaf .bool)]
abbrev fx94_8 (r1 : ByteArray × Bool × Unit) (l4 : Option Addr × Nat × Nat) (x_8 : Int) (x_29 : Int) (x7 : Int) : List (Tmp × Value) := [(7, .bool r1.2.1), (8, .int .i64 x_8), (10, .int .u8 x7), (27, .slice l4.1 l4.2.1 l4.2.2), (28, .int .i64 (↑l4.snd.fst : Int)), (29, .int .i64 x_29)]
abbrev mx94_8 : List (Tmp × Comp) := [(38, .leaf .bool)]
def s94_8 : Script := .sym (.lit (.lit .nil)) (.lit (.lit .nil))
theorem t94_8 (r1 : ByteArray × Bool × Unit) (l4 : Option Addr × Nat × Nat) (x_8 : Int) (x_29 : Int) (x7 : Int) (g : Nat → Value) : pieceT Tryz.prog (at_ Tryz.f94 [1, 1, 1, 1, 1, 0, 1, 0, 0, 1, 1, 0, 0, 1, 0, 0]) 50 (fx94_8 r1 l4 x_8 x_29 x7) g (mx94_8.map (·.1)) [] [] s94_8 =
  .br (Decidable.decide (x7 < 48))
    (.fin .normal [(38, .bool true)])
    (.fin .normal [(38, .bool (Decidable.decide (x7 > 57)))]) := by kernel_rfl
def s94_5 : Script := .sym (.ix (.ld (.int .u8) (.ct 1 [7, 8, 10, 27, 28, 29] mx94_8 (.sym .nil .nil)))) .nil
theorem t94_5 (r1 : ByteArray × Bool × Unit) (l4 : Option Addr × Nat × Nat) (x_8 : Int) (x_29 : Int) (g : Nat → Value) : pieceT Tryz.prog (at_ Tryz.f94 [1, 1, 1, 1, 1, 0, 1, 0, 0]) 50 (fx94_5 r1 l4 ++ mvals m94_5 (x_8, x_29, ())) g (m94_5.map (·.1)) (mx94_5.map (·.1)) (mr94_5.map (·.1)) s94_5 =
  .br (Decidable.decide (x_29 < (↑l4.snd.fst : Int)))
    (.idx l4.1 x_29 l4.2.1 1 (fun a6 =>
      .load a6 (.int .u8) (fun x7 =>
        .cut (at_ Tryz.f94 [1, 1, 1, 1, 1, 0, 1, 0, 0, 1, 1, 0, 0, 1, 0, 0]) 50 (fx94_8 r1 l4 x_8 x_29 x7) mx94_8 (fun u9 g9 =>
          .br u9.1
            (.fin .ret [(4, .int .i64 0), (5, .bool false)])
            (.fin .normal [(8, .int .i64 (IntKind.i64.wrap (IntKind.i64.wrap (10 * x_8) + IntKind.i64.wrap (IntKind.u8.wrap (x7 - 48))))), (29, .int .i64 (IntKind.i64.wrap (x_29 + 1)))])))))
    (.fin (.exit 0) [(8, .int .i64 x_8)]) := by kernel_rfl
abbrev fx94_12 (qs0 : ByteArray) : List (Tmp × Value) := [(6, .string qs0), (7, .bool false)]
abbrev mx94_12 : List (Tmp × Comp) := [(25, .leaf .bool)]
def s94_12 : Script := .sym (.lit (.lit (.lit .nil))) (.lit (.lit (.lit .nil)))
theorem t94_12 (qs0 : ByteArray) (g : Nat → Value) : pieceT Tryz.prog (at_ Tryz.f94 [1, 1, 1, 0, 0]) 50 (fx94_12 qs0) g (mx94_12.map (·.1)) [] [] s94_12 =
  .br (Decidable.decide ((↑qs0.size : Int) < 1))
    (.fin .normal [(25, .bool true)])
    (.fin .normal [(25, .bool (Decidable.decide ((↑qs0.size : Int) > 9)))]) := by kernel_rfl
abbrev fx94_15 (l14 : Option Addr × Nat × Nat) : List (Tmp × Value) := [(7, .bool false), (27, .slice l14.1 l14.2.1 l14.2.2), (28, .int .i64 (↑l14.snd.fst : Int))]
abbrev m94_15 : List (Tmp × Comp) := [(8, .leaf (.int .i64)), (29, .leaf (.int .i64))]
abbrev mx94_15 : List (Tmp × Comp) := [(8, .leaf (.int .i64))]
abbrev mr94_15 : List (Tmp × Comp) := [(4, .leaf (.int .i64)), (5, .leaf .bool)]
abbrev fx94_18 (l14 : Option Addr × Nat × Nat) (x_8 : Int) (x_29 : Int) (x17 : Int) : List (Tmp × Value) := [(7, .bool false), (8, .int .i64 x_8), (10, .int .u8 x17), (27, .slice l14.1 l14.2.1 l14.2.2), (28, .int .i64 (↑l14.snd.fst : Int)), (29, .int .i64 x_29)]
abbrev mx94_18 : List (Tmp × Comp) := [(38, .leaf .bool)]
def s94_18 : Script := .sym (.lit (.lit .nil)) (.lit (.lit .nil))
theorem t94_18 (l14 : Option Addr × Nat × Nat) (x_8 : Int) (x_29 : Int) (x17 : Int) (g : Nat → Value) : pieceT Tryz.prog (at_ Tryz.f94 [1, 1, 1, 1, 1, 0, 1, 0, 0, 1, 1, 0, 0, 1, 0, 0]) 50 (fx94_18 l14 x_8 x_29 x17) g (mx94_18.map (·.1)) [] [] s94_18 =
  .br (Decidable.decide (x17 < 48))
    (.fin .normal [(38, .bool true)])
    (.fin .normal [(38, .bool (Decidable.decide (x17 > 57)))]) := by kernel_rfl
def s94_15 : Script := .sym (.ix (.ld (.int .u8) (.ct 1 [7, 8, 10, 27, 28, 29] mx94_18 (.sym .nil .nil)))) .nil
theorem t94_15 (l14 : Option Addr × Nat × Nat) (x_8 : Int) (x_29 : Int) (g : Nat → Value) : pieceT Tryz.prog (at_ Tryz.f94 [1, 1, 1, 1, 1, 0, 1, 0, 0]) 50 (fx94_15 l14 ++ mvals m94_15 (x_8, x_29, ())) g (m94_15.map (·.1)) (mx94_15.map (·.1)) (mr94_15.map (·.1)) s94_15 =
  .br (Decidable.decide (x_29 < (↑l14.snd.fst : Int)))
    (.idx l14.1 x_29 l14.2.1 1 (fun a16 =>
      .load a16 (.int .u8) (fun x17 =>
        .cut (at_ Tryz.f94 [1, 1, 1, 1, 1, 0, 1, 0, 0, 1, 1, 0, 0, 1, 0, 0]) 50 (fx94_18 l14 x_8 x_29 x17) mx94_18 (fun u19 g19 =>
          .br u19.1
            (.fin .ret [(4, .int .i64 0), (5, .bool false)])
            (.fin .normal [(8, .int .i64 (IntKind.i64.wrap (IntKind.i64.wrap (10 * x_8) + IntKind.i64.wrap (IntKind.u8.wrap (x17 - 48))))), (29, .int .i64 (IntKind.i64.wrap (x_29 + 1)))])))))
    (.fin (.exit 0) [(8, .int .i64 x_8)]) := by kernel_rfl
def s94 : Script := .sym (.cl (.tup [.leaf .str, .leaf .bool]) (.ct 1 [6, 7] mx94_2 (.sym .nil (.nop (.nop (.rn (.one (.leaf .sl)) (.lp 0 [7, 27, 28] [8, 29] mx94_5 mr94_5 (.sym .nil .nil) .nil))))))) (.ct 1 [6, 7] mx94_12 (.sym .nil (.nop (.nop (.rn (.one (.leaf .sl)) (.lp 0 [7, 27, 28] [8, 29] mx94_15 mr94_15 (.lit .nil) .nil))))))
theorem t94 (qs0 : ByteArray) (qb1 : Bool) : fnT Tryz.prog Tryz.f94 #[.string qs0, .bool qb1] s94 =
  .br qb1
    (.call 126 #[.string qs0, .string (bytesL [45])] (.tup [.leaf .str, .leaf .bool]) (fun r1 =>
      .cut (at_ Tryz.f94 [1, 1, 1, 0, 0]) 50 (fx94_2 r1) mx94_2 (fun u3 g3 =>
        .br u3.1
          (.done (.returned (.tuple #[.int .i64 0, .bool false])))
          (.run (vNext (convert 9 92 (.string r1.1))) (.one (.leaf .sl)) (fun l4 =>
            .loop (at_ Tryz.f94 [1, 1, 1, 1, 1, 0, 1, 0, 0]) 50 (fx94_5 r1 l4) [(8, .int .i64 0), (29, .int .i64 0)] mx94_5 mr94_5 0 (fun u10 g10 =>
              .br r1.2.1
                (.done (.returned (.tuple #[.int .i64 (IntKind.i64.wrap (0 - u10.fst)), .bool true])))
                (.done (.returned (.tuple #[.int .i64 u10.1, .bool true])))) (fun u11 g11 =>
              .done (.returned (.tuple #[.int .i64 u11.1, .bool u11.2.1]))))))))
    (.cut (at_ Tryz.f94 [1, 1, 1, 0, 0]) 50 (fx94_12 qs0) mx94_12 (fun u13 g13 =>
      .br u13.1
        (.done (.returned (.tuple #[.int .i64 0, .bool false])))
        (.run (vNext (convert 9 92 (.string qs0))) (.one (.leaf .sl)) (fun l14 =>
          .loop (at_ Tryz.f94 [1, 1, 1, 1, 1, 0, 1, 0, 0]) 50 (fx94_15 l14) [(8, .int .i64 0), (29, .int .i64 0)] mx94_15 mr94_15 0 (fun u20 g20 =>
            .done (.returned (.tuple #[.int .i64 u20.1, .bool true]))) (fun u21 g21 =>
            .done (.returned (.tuple #[.int .i64 u21.1, .bool u21.2.1]))))))) := by kernel_rfl

abbrev tCur : TypeId := 108
/-- A cursor: r is what is left of the line s. -/
structure Cur (w : World) (b : Nat) (s : ByteArray) (no : Int) (r : List UInt8) : Prop where
  suf : r <:+ s.data.toList
  blk : Blk w b [.string s, .int .i64 no, .int .i64 ((s.size - r.length : Nat) : Int)] tCur
theorem Cur.ch {S : Nat → Prop} {w w' : World} {b : Nat} {s : ByteArray} {no : Int} {r : List UInt8} (h : Cur w b s no r) (hc : Ch S w w') (hn : ¬ S b) : Cur w' b s no r := ⟨h.suf, h.blk.ch hc hn⟩
theorem suf_len {s : ByteArray} {r : List UInt8} (h : r <:+ s.data.toList) : r.length ≤ s.size := h.length_le
theorem suf_get {s : ByteArray} {c : UInt8} {t : List UInt8} (h : c :: t <:+ s.data.toList) : ∃ hi : s.size - (c :: t).length < s.size, s[s.size - (c :: t).length] = c := by
  obtain ⟨p, hp⟩ := h
  have hl : s.size = p.length + (t.length + 1) := by
    show s.data.toList.length = _
    rw [← hp]; simp
  have e : s.size - (c :: t).length = p.length := by rw [hl, List.length_cons]; omega
  refine ⟨by rw [e]; omega, ?_⟩
  have : s.data.toList[p.length]? = some c := by rw [← hp]; simp
  have h3 : s.data.toList[s.size - (c :: t).length]? = some c := by rw [e]; exact this
  obtain ⟨hj, h4⟩ := List.getElem?_eq_some_iff.1 h3
  exact h4
theorem suf_drop {s : ByteArray} {r : List UInt8} (h : r <:+ s.data.toList) : s.data.toList.drop (s.size - r.length) = r := by
  obtain ⟨p, hp⟩ := h
  have hl : s.size = p.length + r.length := by
    show s.data.toList.length = _
    rw [← hp]; simp
  rw [← hp, hl, Nat.add_sub_cancel]
  simp
theorem skip_suf (r : List UInt8) : skipS r <:+ r := List.dropWhile_suffix _
theorem dw_suf (r : List UInt8) : dw r <:+ r := List.dropWhile_suffix _
theorem after_suf (r : List UInt8) : afterS r <:+ r := (List.dropWhile_suffix _).trans (List.dropWhile_suffix _)
theorem word_app (r : List UInt8) : wordS r ++ afterS r = skipS r := List.takeWhile_append_dropWhile
def isSp : List UInt8 → Bool
  | [] => false
  | c :: _ => c == 32
def isWd : List UInt8 → Bool
  | [] => false
  | c :: _ => c != 32
theorem isSp_t {r : List UInt8} (h : isSp r = true) : ∃ t, r = 32 :: t := by
  cases r with
  | nil => simp [isSp] at h
  | cons c t => exact ⟨t, by simp only [isSp, beq_iff_eq] at h; rw [h]⟩
theorem isSp_f {r : List UInt8} (h : isSp r = false) : skipS r = r := by
  cases r with
  | nil => rfl
  | cons c t => exact skip_id (by simpa [isSp] using h)
theorem isWd_t {r : List UInt8} (h : isWd r = true) : ∃ c t, r = c :: t ∧ c ≠ 32 := by
  cases r with
  | nil => simp [isWd] at h
  | cons c t => exact ⟨c, t, rfl, by simpa [isWd] using h⟩
theorem isWd_f {r : List UInt8} (h : isWd r = false) : dw r = r ∧ tw r = [] := by
  cases r with
  | nil => exact ⟨rfl, rfl⟩
  | cons c t =>
    have : c = 32 := by simpa [isWd] using h
    subst this
    exact ⟨rfl, rfl⟩
theorem byte32 (c : UInt8) : ((c.toNat : Int) == 32) = (c == 32) := by
  by_cases h32 : c = 32
  · subst h32; rfl
  · have : ¬ ((c.toNat : Int) = 32) := fun e => h32 (UInt8.toNat_inj.1 (by show c.toNat = 32; omega))
    rw [beq_eq_false_iff_ne.2 this, beq_eq_false_iff_ne.2 h32]
theorem Cur.step {w : World} {b : Nat} {s : ByteArray} {no : Int} {c : UInt8} {t : List UInt8} (h : Cur w b s no (c :: t)) : ((s.size - (c :: t).length : Nat) : Int) + 1 = ((s.size - t.length : Nat) : Int) := by
  have := suf_len h.suf
  simp only [List.length_cons] at this ⊢
  omega

theorem fault_any (b : Nat) (s : ByteArray) (no : Int) (r : List UInt8) (at_ er : Int) (w : World) (h : Cur w b s no r) :
    Calls Tryz.prog 22 #[.pointer (some ⟨b, 0, none⟩), .int .i64 at_, .iface tErrno (.int .i64 er)] w fun e w' => ∃ v, e = .returned v ∧ ErrAt w' v no at_ er ∧ Ch No w w' := by
  refine calls_of_fnT mixed Tryz.func22 (s := s22) ?_
  rw [t22]
  refine ld_int (by rw [addr_add]; exact h.blk.cell 1) (nw fun w1 h1 z1 b1 => ?_)
  exact ⟨_, rfl, ⟨_, rfl, b1⟩, h1⟩

theorem next_any (b : Nat) (s : ByteArray) (no : Int) (r : List UInt8) (w : World) (h : Cur w b s no r) (hs : s.size < 9223372036854775807) :
    Calls Tryz.prog 56 #[.pointer (some ⟨b, 0, none⟩)] w fun e w' => e = .returned (.tuple #[.string (bytesL (wordS r)), .int .i64 ((s.size - (skipS r).length : Nat) : Int)]) ∧ Ch (· = b) w w' ∧ Cur w' b s no (afterS r) := by
  refine calls_of_fnT mixed Tryz.func56 (s := s56) ?_
  rw [t56]
  simp only [addr_add, Nat.zero_add]
  refine loop_i mixed m56_1 s56_1 (by kernel_rfl) (by kernel_rfl)
    (fun _ w' => ∃ r', Ch (· = b) w w' ∧ Cur w' b s no r' ∧ skipS r' = skipS r) (fun _ w' => match w'.cell? ⟨b, 2, none⟩ with | some (.int _ x) => s.size - x.toNat | _ => 0) () rfl ⟨r, Ch.refl _ _, h, rfl⟩ ?_
  rintro ⟨⟩ g w1 ⟨r1, h1, c1, e1⟩
  rw [t56_1]
  simp only [addr_add, Nat.zero_add]
  refine cut_i mixed s56_2 (fun (v : Bool × Unit) w' => w' = w1.drew ∧ v.1 = isSp r1) (by kernel_rfl) (fun g => ?_) ?_
  · rw [t56_2]
    simp only [addr_add, Nat.zero_add]
    refine dr_eq (lq_int (c1.blk.cell 2) (lq_str (c1.blk.cell 0) (br_both (fun e => ?_) fun e => ?_)))
    · have e := lt_t e
      refine lq_str (c1.blk.cell 0) (lq_int (c1.blk.cell 2) ?_)
      cases r1 with
      | nil => simp at e
      | cons c t =>
        obtain ⟨hi, hc⟩ := suf_get c1.suf
        refine bi_i (by omega) (by rw [Int.toNat_natCast]; exact hi) (un_eq ⟨rfl, (_, ()), rfl, rfl, ?_⟩)
        simp only [Int.toNat_natCast]
        rw [hc]
        exact byte32 c
    · have e := lt_f e
      refine un_eq ⟨rfl, (_, ()), rfl, rfl, ?_⟩
      cases r1 with
      | nil => rfl
      | cons c t =>
        exfalso
        have := suf_len c1.suf

        simp only [List.length_cons] at this e
        omega
  rintro ⟨u, ⟨⟩⟩ g w2 ⟨rfl, hu⟩
  dsimp only at hu
  have hd := (Ch.refl (· = b) w1).drew
  have d1 : Cur w1.drew b s no r1 := ⟨c1.suf, c1.blk⟩
  refine br_both (fun e => ?_) fun e => ?_
  · subst e
    obtain ⟨t, rfl⟩ := isSp_t hu.symm
    have hst := d1.step
    have := suf_len c1.suf
    simp only [List.length_cons] at this
    refine ld_int (d1.blk.cell 2) (st_blk d1.blk (by simp) rfl fun w3 h3 z3 b3 => ⟨(), rfl, ?_⟩)
    rw [wrap_succ (by omega) (by simp only [List.length_cons]; omega), hst] at b3
    refine ⟨⟨t, h1.trans (hd.trans h3), ⟨(List.suffix_cons 32 t).trans c1.suf, b3⟩, ?_⟩, ?_⟩
    · rw [← e1]; rfl
    · rw [show w3.cell? ⟨b, 2, none⟩ = some (.int .i64 ((s.size - t.length : Nat) : Int)) from b3.cell 2, show w1.cell? ⟨b, 2, none⟩ = some (.int .i64 ((s.size - (32 :: t).length : Nat) : Int)) from c1.blk.cell 2]
      dsimp only
      simp only [Int.toNat_natCast, List.length_cons]
      omega
  · subst e
    have hr1 : r1 = skipS r := by rw [← e1, isSp_f hu.symm]
    refine ⟨rfl, (), rfl, fun g => ?_⟩
    refine ld_int (d1.blk.cell 2) ?_
    refine loop_i mixed m56_12 s56_12 (by kernel_rfl) (by kernel_rfl)
      (fun _ w' => ∃ r', Ch (· = b) w w' ∧ Cur w' b s no r' ∧ dw r' = afterS r ∧ r'.length ≤ r1.length ∧ r1.take (r1.length - r'.length) ++ tw r' = wordS r) (fun _ w' => match w'.cell? ⟨b, 2, none⟩ with | some (.int _ x) => s.size - x.toNat | _ => 0) () rfl ⟨r1, h1.trans hd, d1, by rw [hr1]; rfl, Nat.le_refl _, by rw [Nat.sub_self, hr1]; rfl⟩ ?_
    rintro ⟨⟩ g w3 ⟨r2, h2, c2, e2, l2, p2⟩
    rw [t56_12]
    simp only [addr_add, Nat.zero_add]
    refine cut_i mixed s56_13 (fun (v : Bool × Unit) w' => w' = w3.drew ∧ v.1 = isWd r2) (by kernel_rfl) (fun g => ?_) ?_
    · rw [t56_13]
      simp only [addr_add, Nat.zero_add]
      refine dr_eq (lq_int (c2.blk.cell 2) (lq_str (c2.blk.cell 0) (br_both (fun e => ?_) fun e => ?_)))
      · have e := lt_t e
        refine lq_str (c2.blk.cell 0) (lq_int (c2.blk.cell 2) ?_)
        cases r2 with
        | nil => simp at e
        | cons c t =>
          obtain ⟨hi, hc⟩ := suf_get c2.suf
          refine bi_i (by omega) (by rw [Int.toNat_natCast]; exact hi) (un_eq ⟨rfl, (_, ()), rfl, rfl, ?_⟩)
          simp only [Int.toNat_natCast]
          rw [hc]
          rw [byte32 c]
          show _ = (c != 32)
          unfold bne
          cases c == 32 <;> rfl
      · have e := lt_f e
        refine un_eq ⟨rfl, (_, ()), rfl, rfl, ?_⟩
        cases r2 with
        | nil => rfl
        | cons c t =>
          exfalso
          have := suf_len c2.suf

          simp only [List.length_cons] at this e
          omega
    rintro ⟨u, ⟨⟩⟩ g w4 ⟨rfl, hu⟩
    dsimp only at hu
    have hd3 := (Ch.refl (· = b) w3).drew
    have d3 : Cur w3.drew b s no r2 := ⟨c2.suf, c2.blk⟩
    refine br_both (fun e => ?_) fun e => ?_
    · subst e
      obtain ⟨c, t, rfl, hc⟩ := isWd_t hu.symm
      have hst := d3.step
      have hsl := suf_len c2.suf
      simp only [List.length_cons] at hsl l2
      refine ld_int (d3.blk.cell 2) (st_blk d3.blk (by simp) rfl fun w5 h5 z5 b5 => ⟨(), rfl, ?_⟩)
      rw [wrap_succ (by omega) (by simp only [List.length_cons]; omega), hst] at b5
      have hne : (c != 32) = true := by simpa using hc
      refine ⟨⟨t, h2.trans (hd3.trans h5), ⟨(List.suffix_cons c t).trans c2.suf, b5⟩, ?_, by omega, ?_⟩, ?_⟩
      · rw [← e2]; unfold dw; rw [List.dropWhile_cons, if_pos hne]
      · rw [← p2]
        have hsf : c :: t <:+ r1 := by
          have h4 := suf_drop c2.suf
          have h6 := suf_drop c1.suf
          rw [← h4, ← h6]
          have hsl1 := suf_len c1.suf
          rw [show s.size - (c :: t).length = (s.size - r1.length) + (r1.length - (t.length + 1)) by simp only [List.length_cons]; omega, ← List.drop_drop]
          exact List.drop_suffix _ _
        obtain ⟨q, hq⟩ := hsf
        have hql : r1.length = q.length + (t.length + 1) := by rw [← hq]; simp
        rw [hql, List.length_cons, show q.length + (t.length + 1) - t.length = q.length + 1 by omega, Nat.add_sub_cancel, ← hq]
        unfold tw
        rw [List.takeWhile_cons, if_pos hne]
        simp [List.take_append, List.take_of_length_le]
      · rw [show w5.cell? ⟨b, 2, none⟩ = some (.int .i64 ((s.size - t.length : Nat) : Int)) from b5.cell 2, show w3.cell? ⟨b, 2, none⟩ = some (.int .i64 ((s.size - (c :: t).length : Nat) : Int)) from c2.blk.cell 2]
        dsimp only
        simp only [Int.toNat_natCast, List.length_cons]
        omega
    · subst e
      have hr2 := isWd_f hu.symm
      rw [hr2.1] at e2
      rw [hr2.2, List.append_nil] at p2
      have hsl := suf_len c2.suf
      have hsl1 := suf_len c1.suf
      refine ⟨rfl, (), rfl, fun g => ?_⟩
      have hd4 := (Ch.refl (· = b) w3.drew).drew
      refine dr_eq (lq_str (d3.blk.cell 0) (lq_int (d3.blk.cell 2) (nd3 (by omega) (by omega) (by omega) (un_eq ?_))))
      refine ⟨?_, h2.trans (hd3.trans hd4), ⟨by rw [← e2]; exact c2.suf, by rw [← e2]; exact c2.blk⟩⟩
      have hw : s.extract ((s.size - r1.length : Nat) : Int).toNat ((s.size - r2.length : Nat) : Int).toNat = bytesL (wordS r) := by
        rw [← p2]
        simp only [Int.toNat_natCast]
        refine ByteArray.ext ?_
        rw [ByteArray.data_extract]
        apply Array.toList_inj.1
        show _ = (List.toArray _).toList
        rw [Array.toList_extract, List.extract_eq_take_drop, suf_drop c1.suf]
        congr 1
        omega
      rw [← hr1, hw]
end Go.Proofs.YtjlmkahagcojcaaGreatDoor
