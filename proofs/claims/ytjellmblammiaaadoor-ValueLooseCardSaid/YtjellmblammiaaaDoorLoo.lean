/- ValueLoose's helpers: the next number of a choice, blanks, a byte by hex. -/
import Derived.Test.YtjellmblammiaaaDoorPrs
import Derived.Test.YtjellmblammiaaaDoorCan
namespace Go.Proofs.YtjellmblammiaaaDoor
open Go Tr
set_option maxRecDepth 100000
/-! the tree of function 37 -/
def s37 : Script := .ld .sl (.sym .nil (.qt (.ld .sl (.ld (.int .i64) (.ld .sl (.nop (.rn (.one (.leaf (.int .i64))) (.ix (.ld (.int .i64) (.ld (.int .i64) (.sym (.nop (.nop (.nop (.nop (.nop (.nop (.rn (.one (.leaf (.int .i64))) .nil))))))) (.nop (.nop (.rn (.one (.leaf (.int .i64))) .nil))))))))))))))
theorem t37 (qa0 : Addr) (qx1 : Int) : fnT Tryd.prog Tryd.f37 #[.pointer (some qa0), .int .i64 qx1] s37 =
  .load qa0 .sl (fun l1 =>
    .br ((↑l1.snd.fst : Int) == 0)
      (.done (.returned (.int .i64 0)))
      (.drawn
        (.load qa0 .sl (fun l2 =>
          .load (qa0.add 1) (.int .i64) (fun x3 =>
            .load qa0 .sl (fun l4 =>
              .run (vNext (binOp .rem 3 (.int .i64 x3) (.int .i64 (↑l4.snd.fst : Int)))) (.one (.leaf (.int .i64))) (fun x5 =>
                .idx l2.1 x5 l2.2.1 1 (fun a6 =>
                  .load a6 (.int .i64) (fun x7 =>
                    .undrawn
                      (.load (qa0.add 1) (.int .i64) (fun x8 =>
                        .store (qa0.add 1) (.int .i64 (IntKind.i64.wrap (x8 + 1)))
                          (.br (Decidable.decide (x7 < 0))
                            (.run (vNext (binOp .rem 3 (.int .i64 (IntKind.i64.wrap (0 - IntKind.i64.wrap (x7 + 1)))) (.int .i64 qx1))) (.one (.leaf (.int .i64))) (fun x9 =>
                              .done (.returned (.int .i64 x9))))
                            (.run (vNext (binOp .rem 3 (.int .i64 x7) (.int .i64 qx1))) (.one (.leaf (.int .i64))) (fun x10 =>
                              .done (.returned (.int .i64 x10)))))))))))))))) := by kernel_rfl
/-! the tree of function 20 -/
def s20 : Script := .cl (.one (.leaf (.int .i64))) (.ix (.ld .str .nil))
theorem t20 (qa0 : Addr) : fnT Tryd.prog Tryd.f20 #[.pointer (some qa0)] s20 =
  .new (.cells #[.string (bytesL []), .string (bytesL [32]), .string (bytesL [9]), .string (bytesL [32, 32, 9])] 9 (0, 0)) (fun n1 =>
    .call 37 #[.pointer (some qa0), .int .i64 4] (.one (.leaf (.int .i64))) (fun x2 =>
      .idx (some ⟨n1, 0, none⟩) x2 4 1 (fun a3 =>
        .load a3 .str (fun s4 =>
          .done (.returned (.string s4)))))) := by kernel_rfl
/-! the tree of function 38 -/
def s38 : Script := .sym (.cl (.one (.leaf (.int .i64))) (.sym (.cl (.one (.leaf (.int .i64))) (.qt (.nop (.nop (.nop (.nd (.nd (.nop (.nop (.nop (.nd (.nd .nil)))))))))))) (.qt (.nop (.nop (.nop (.nd (.nd (.nop (.nop (.nop (.nd (.nd .nil))))))))))))) (.sym (.cl (.one (.leaf (.int .i64))) (.qt (.nop (.nop (.nop (.nd (.nd (.nop (.nop (.nop (.nd (.nd .nil)))))))))))) (.qt (.nop (.nop (.nop (.nd (.nd (.nop (.nop (.nop (.nd (.nd .nil))))))))))))
theorem t38 (qa0 : Addr) (qx1 : Int) : fnT Tryd.prog Tryd.f38 #[.pointer (some qa0), .int .u8 qx1] s38 =
  .br (Decidable.decide (IntKind.i64.wrap (IntKind.u8.wrap (qx1.tdiv 16)) > 9))
    (.call 37 #[.pointer (some qa0), .int .i64 2] (.one (.leaf (.int .i64))) (fun x1 =>
      .br (Decidable.decide (IntKind.i64.wrap (qx1.tmod 16) > 9))
        (.call 37 #[.pointer (some qa0), .int .i64 2] (.one (.leaf (.int .i64))) (fun x2 =>
          .drawn
            (.need (Decidable.decide (0 ≤ IntKind.i64.wrap (IntKind.i64.wrap (IntKind.u8.wrap (qx1.tdiv 16)) + IntKind.i64.wrap (6 * x1)) ∧ IntKind.i64.wrap (IntKind.i64.wrap (IntKind.u8.wrap (qx1.tdiv 16)) + IntKind.i64.wrap (6 * x1)) ≤ IntKind.i64.wrap (IntKind.i64.wrap (IntKind.i64.wrap (IntKind.u8.wrap (qx1.tdiv 16)) + IntKind.i64.wrap (6 * x1)) + 1) ∧ IntKind.i64.wrap (IntKind.i64.wrap (IntKind.i64.wrap (IntKind.u8.wrap (qx1.tdiv 16)) + IntKind.i64.wrap (6 * x1)) + 1) ≤ (↑22 : Int)))
              (.need (Decidable.decide ((bytesL [92, 120]).size + ((bytesL [48, 49, 50, 51, 52, 53, 54, 55, 56, 57, 97, 98, 99, 100, 101, 102, 65, 66, 67, 68, 69, 70]).extract (IntKind.i64.wrap (IntKind.i64.wrap (IntKind.u8.wrap (qx1.tdiv 16)) + IntKind.i64.wrap (6 * x1))).toNat (IntKind.i64.wrap (IntKind.i64.wrap (IntKind.i64.wrap (IntKind.u8.wrap (qx1.tdiv 16)) + IntKind.i64.wrap (6 * x1)) + 1)).toNat).size ≤ 9223372036854775807))
                (.need (Decidable.decide (0 ≤ IntKind.i64.wrap (IntKind.i64.wrap (qx1.tmod 16) + IntKind.i64.wrap (6 * x2)) ∧ IntKind.i64.wrap (IntKind.i64.wrap (qx1.tmod 16) + IntKind.i64.wrap (6 * x2)) ≤ IntKind.i64.wrap (IntKind.i64.wrap (IntKind.i64.wrap (qx1.tmod 16) + IntKind.i64.wrap (6 * x2)) + 1) ∧ IntKind.i64.wrap (IntKind.i64.wrap (IntKind.i64.wrap (qx1.tmod 16) + IntKind.i64.wrap (6 * x2)) + 1) ≤ (↑22 : Int)))
                  (.need (Decidable.decide ((bytesL [92, 120] ++ (bytesL [48, 49, 50, 51, 52, 53, 54, 55, 56, 57, 97, 98, 99, 100, 101, 102, 65, 66, 67, 68, 69, 70]).extract (IntKind.i64.wrap (IntKind.i64.wrap (IntKind.u8.wrap (qx1.tdiv 16)) + IntKind.i64.wrap (6 * x1))).toNat (IntKind.i64.wrap (IntKind.i64.wrap (IntKind.i64.wrap (IntKind.u8.wrap (qx1.tdiv 16)) + IntKind.i64.wrap (6 * x1)) + 1)).toNat).size + ((bytesL [48, 49, 50, 51, 52, 53, 54, 55, 56, 57, 97, 98, 99, 100, 101, 102, 65, 66, 67, 68, 69, 70]).extract (IntKind.i64.wrap (IntKind.i64.wrap (qx1.tmod 16) + IntKind.i64.wrap (6 * x2))).toNat (IntKind.i64.wrap (IntKind.i64.wrap (IntKind.i64.wrap (qx1.tmod 16) + IntKind.i64.wrap (6 * x2)) + 1)).toNat).size ≤ 9223372036854775807))
                    (.undrawn
                      (.done (.returned (.string (bytesL [92, 120] ++ (bytesL [48, 49, 50, 51, 52, 53, 54, 55, 56, 57, 97, 98, 99, 100, 101, 102, 65, 66, 67, 68, 69, 70]).extract (IntKind.i64.wrap (IntKind.i64.wrap (IntKind.u8.wrap (qx1.tdiv 16)) + IntKind.i64.wrap (6 * x1))).toNat (IntKind.i64.wrap (IntKind.i64.wrap (IntKind.i64.wrap (IntKind.u8.wrap (qx1.tdiv 16)) + IntKind.i64.wrap (6 * x1)) + 1)).toNat ++ (bytesL [48, 49, 50, 51, 52, 53, 54, 55, 56, 57, 97, 98, 99, 100, 101, 102, 65, 66, 67, 68, 69, 70]).extract (IntKind.i64.wrap (IntKind.i64.wrap (qx1.tmod 16) + IntKind.i64.wrap (6 * x2))).toNat (IntKind.i64.wrap (IntKind.i64.wrap (IntKind.i64.wrap (qx1.tmod 16) + IntKind.i64.wrap (6 * x2)) + 1)).toNat)))))))))))
        (.drawn
          (.need (Decidable.decide (0 ≤ IntKind.i64.wrap (IntKind.i64.wrap (IntKind.u8.wrap (qx1.tdiv 16)) + IntKind.i64.wrap (6 * x1)) ∧ IntKind.i64.wrap (IntKind.i64.wrap (IntKind.u8.wrap (qx1.tdiv 16)) + IntKind.i64.wrap (6 * x1)) ≤ IntKind.i64.wrap (IntKind.i64.wrap (IntKind.i64.wrap (IntKind.u8.wrap (qx1.tdiv 16)) + IntKind.i64.wrap (6 * x1)) + 1) ∧ IntKind.i64.wrap (IntKind.i64.wrap (IntKind.i64.wrap (IntKind.u8.wrap (qx1.tdiv 16)) + IntKind.i64.wrap (6 * x1)) + 1) ≤ (↑22 : Int)))
            (.need (Decidable.decide ((bytesL [92, 120]).size + ((bytesL [48, 49, 50, 51, 52, 53, 54, 55, 56, 57, 97, 98, 99, 100, 101, 102, 65, 66, 67, 68, 69, 70]).extract (IntKind.i64.wrap (IntKind.i64.wrap (IntKind.u8.wrap (qx1.tdiv 16)) + IntKind.i64.wrap (6 * x1))).toNat (IntKind.i64.wrap (IntKind.i64.wrap (IntKind.i64.wrap (IntKind.u8.wrap (qx1.tdiv 16)) + IntKind.i64.wrap (6 * x1)) + 1)).toNat).size ≤ 9223372036854775807))
              (.need (Decidable.decide (0 ≤ IntKind.i64.wrap (qx1.tmod 16) ∧ IntKind.i64.wrap (qx1.tmod 16) ≤ IntKind.i64.wrap (IntKind.i64.wrap (qx1.tmod 16) + 1) ∧ IntKind.i64.wrap (IntKind.i64.wrap (qx1.tmod 16) + 1) ≤ (↑22 : Int)))
                (.need (Decidable.decide ((bytesL [92, 120] ++ (bytesL [48, 49, 50, 51, 52, 53, 54, 55, 56, 57, 97, 98, 99, 100, 101, 102, 65, 66, 67, 68, 69, 70]).extract (IntKind.i64.wrap (IntKind.i64.wrap (IntKind.u8.wrap (qx1.tdiv 16)) + IntKind.i64.wrap (6 * x1))).toNat (IntKind.i64.wrap (IntKind.i64.wrap (IntKind.i64.wrap (IntKind.u8.wrap (qx1.tdiv 16)) + IntKind.i64.wrap (6 * x1)) + 1)).toNat).size + ((bytesL [48, 49, 50, 51, 52, 53, 54, 55, 56, 57, 97, 98, 99, 100, 101, 102, 65, 66, 67, 68, 69, 70]).extract (IntKind.i64.wrap (qx1.tmod 16)).toNat (IntKind.i64.wrap (IntKind.i64.wrap (qx1.tmod 16) + 1)).toNat).size ≤ 9223372036854775807))
                  (.undrawn
                    (.done (.returned (.string (bytesL [92, 120] ++ (bytesL [48, 49, 50, 51, 52, 53, 54, 55, 56, 57, 97, 98, 99, 100, 101, 102, 65, 66, 67, 68, 69, 70]).extract (IntKind.i64.wrap (IntKind.i64.wrap (IntKind.u8.wrap (qx1.tdiv 16)) + IntKind.i64.wrap (6 * x1))).toNat (IntKind.i64.wrap (IntKind.i64.wrap (IntKind.i64.wrap (IntKind.u8.wrap (qx1.tdiv 16)) + IntKind.i64.wrap (6 * x1)) + 1)).toNat ++ (bytesL [48, 49, 50, 51, 52, 53, 54, 55, 56, 57, 97, 98, 99, 100, 101, 102, 65, 66, 67, 68, 69, 70]).extract (IntKind.i64.wrap (qx1.tmod 16)).toNat (IntKind.i64.wrap (IntKind.i64.wrap (qx1.tmod 16) + 1)).toNat))))))))))))
    (.br (Decidable.decide (IntKind.i64.wrap (qx1.tmod 16) > 9))
      (.call 37 #[.pointer (some qa0), .int .i64 2] (.one (.leaf (.int .i64))) (fun x3 =>
        .drawn
          (.need (Decidable.decide (0 ≤ IntKind.i64.wrap (IntKind.u8.wrap (qx1.tdiv 16)) ∧ IntKind.i64.wrap (IntKind.u8.wrap (qx1.tdiv 16)) ≤ IntKind.i64.wrap (IntKind.i64.wrap (IntKind.u8.wrap (qx1.tdiv 16)) + 1) ∧ IntKind.i64.wrap (IntKind.i64.wrap (IntKind.u8.wrap (qx1.tdiv 16)) + 1) ≤ (↑22 : Int)))
            (.need (Decidable.decide ((bytesL [92, 120]).size + ((bytesL [48, 49, 50, 51, 52, 53, 54, 55, 56, 57, 97, 98, 99, 100, 101, 102, 65, 66, 67, 68, 69, 70]).extract (IntKind.i64.wrap (IntKind.u8.wrap (qx1.tdiv 16))).toNat (IntKind.i64.wrap (IntKind.i64.wrap (IntKind.u8.wrap (qx1.tdiv 16)) + 1)).toNat).size ≤ 9223372036854775807))
              (.need (Decidable.decide (0 ≤ IntKind.i64.wrap (IntKind.i64.wrap (qx1.tmod 16) + IntKind.i64.wrap (6 * x3)) ∧ IntKind.i64.wrap (IntKind.i64.wrap (qx1.tmod 16) + IntKind.i64.wrap (6 * x3)) ≤ IntKind.i64.wrap (IntKind.i64.wrap (IntKind.i64.wrap (qx1.tmod 16) + IntKind.i64.wrap (6 * x3)) + 1) ∧ IntKind.i64.wrap (IntKind.i64.wrap (IntKind.i64.wrap (qx1.tmod 16) + IntKind.i64.wrap (6 * x3)) + 1) ≤ (↑22 : Int)))
                (.need (Decidable.decide ((bytesL [92, 120] ++ (bytesL [48, 49, 50, 51, 52, 53, 54, 55, 56, 57, 97, 98, 99, 100, 101, 102, 65, 66, 67, 68, 69, 70]).extract (IntKind.i64.wrap (IntKind.u8.wrap (qx1.tdiv 16))).toNat (IntKind.i64.wrap (IntKind.i64.wrap (IntKind.u8.wrap (qx1.tdiv 16)) + 1)).toNat).size + ((bytesL [48, 49, 50, 51, 52, 53, 54, 55, 56, 57, 97, 98, 99, 100, 101, 102, 65, 66, 67, 68, 69, 70]).extract (IntKind.i64.wrap (IntKind.i64.wrap (qx1.tmod 16) + IntKind.i64.wrap (6 * x3))).toNat (IntKind.i64.wrap (IntKind.i64.wrap (IntKind.i64.wrap (qx1.tmod 16) + IntKind.i64.wrap (6 * x3)) + 1)).toNat).size ≤ 9223372036854775807))
                  (.undrawn
                    (.done (.returned (.string (bytesL [92, 120] ++ (bytesL [48, 49, 50, 51, 52, 53, 54, 55, 56, 57, 97, 98, 99, 100, 101, 102, 65, 66, 67, 68, 69, 70]).extract (IntKind.i64.wrap (IntKind.u8.wrap (qx1.tdiv 16))).toNat (IntKind.i64.wrap (IntKind.i64.wrap (IntKind.u8.wrap (qx1.tdiv 16)) + 1)).toNat ++ (bytesL [48, 49, 50, 51, 52, 53, 54, 55, 56, 57, 97, 98, 99, 100, 101, 102, 65, 66, 67, 68, 69, 70]).extract (IntKind.i64.wrap (IntKind.i64.wrap (qx1.tmod 16) + IntKind.i64.wrap (6 * x3))).toNat (IntKind.i64.wrap (IntKind.i64.wrap (IntKind.i64.wrap (qx1.tmod 16) + IntKind.i64.wrap (6 * x3)) + 1)).toNat)))))))))))
      (.drawn
        (.need (Decidable.decide (0 ≤ IntKind.i64.wrap (IntKind.u8.wrap (qx1.tdiv 16)) ∧ IntKind.i64.wrap (IntKind.u8.wrap (qx1.tdiv 16)) ≤ IntKind.i64.wrap (IntKind.i64.wrap (IntKind.u8.wrap (qx1.tdiv 16)) + 1) ∧ IntKind.i64.wrap (IntKind.i64.wrap (IntKind.u8.wrap (qx1.tdiv 16)) + 1) ≤ (↑22 : Int)))
          (.need (Decidable.decide ((bytesL [92, 120]).size + ((bytesL [48, 49, 50, 51, 52, 53, 54, 55, 56, 57, 97, 98, 99, 100, 101, 102, 65, 66, 67, 68, 69, 70]).extract (IntKind.i64.wrap (IntKind.u8.wrap (qx1.tdiv 16))).toNat (IntKind.i64.wrap (IntKind.i64.wrap (IntKind.u8.wrap (qx1.tdiv 16)) + 1)).toNat).size ≤ 9223372036854775807))
            (.need (Decidable.decide (0 ≤ IntKind.i64.wrap (qx1.tmod 16) ∧ IntKind.i64.wrap (qx1.tmod 16) ≤ IntKind.i64.wrap (IntKind.i64.wrap (qx1.tmod 16) + 1) ∧ IntKind.i64.wrap (IntKind.i64.wrap (qx1.tmod 16) + 1) ≤ (↑22 : Int)))
              (.need (Decidable.decide ((bytesL [92, 120] ++ (bytesL [48, 49, 50, 51, 52, 53, 54, 55, 56, 57, 97, 98, 99, 100, 101, 102, 65, 66, 67, 68, 69, 70]).extract (IntKind.i64.wrap (IntKind.u8.wrap (qx1.tdiv 16))).toNat (IntKind.i64.wrap (IntKind.i64.wrap (IntKind.u8.wrap (qx1.tdiv 16)) + 1)).toNat).size + ((bytesL [48, 49, 50, 51, 52, 53, 54, 55, 56, 57, 97, 98, 99, 100, 101, 102, 65, 66, 67, 68, 69, 70]).extract (IntKind.i64.wrap (qx1.tmod 16)).toNat (IntKind.i64.wrap (IntKind.i64.wrap (qx1.tmod 16) + 1)).toNat).size ≤ 9223372036854775807))
                (.undrawn
                  (.done (.returned (.string (bytesL [92, 120] ++ (bytesL [48, 49, 50, 51, 52, 53, 54, 55, 56, 57, 97, 98, 99, 100, 101, 102, 65, 66, 67, 68, 69, 70]).extract (IntKind.i64.wrap (IntKind.u8.wrap (qx1.tdiv 16))).toNat (IntKind.i64.wrap (IntKind.i64.wrap (IntKind.u8.wrap (qx1.tdiv 16)) + 1)).toNat ++ (bytesL [48, 49, 50, 51, 52, 53, 54, 55, 56, 57, 97, 98, 99, 100, 101, 102, 65, 66, 67, 68, 69, 70]).extract (IntKind.i64.wrap (qx1.tmod 16)).toNat (IntKind.i64.wrap (IntKind.i64.wrap (qx1.tmod 16) + 1)).toNat))))))))))) := by kernel_rfl

/-- Ints that stand somewhere. -/
def AtI (w : World) (p : Option Addr) (n : Nat) : Prop := 0 < n → ∃ ad, p = some ad ∧ ∀ j, j < n → ∃ z : Int, w.cell? (ad.add j) = some (.int .i64 z) ∧ Rng z
/-- The writer of loose texts: nl, new since w0, holds a choice that stands in w0, and a place. -/
structure LS (w0 w : World) (nl : Nat) (q : Option Addr) (n c : Nat) (a : Nat) : Prop where
  ch : Ch No w0 w
  new : w0.heap.size ≤ nl
  blk : Blk w nl [.slice q n c, .int .i64 (a : Int)] 43
  ints : AtI w0 q n
section
variable {w0 w w' : World} {nl : Nat} {q : Option Addr} {n c a : Nat}
theorem LS.no (h : LS w0 w nl q n c a) (hc : Ch No w w') : LS w0 w' nl q n c a := ⟨h.ch.trans hc, h.new, h.blk.ch hc (fun h => h), h.ints⟩
theorem LS.upd (h : LS w0 w nl q n c a) (hc : Ch (· = nl) w w') {a' : Nat} (hb : Blk w' nl [.slice q n c, .int .i64 (a' : Int)] 43) : LS w0 w' nl q n c a' :=
  ⟨h.ch.then_ hc (fun i hi e => by have := h.new; omega), h.new, hb, h.ints⟩
end
theorem run_rem (x y : Int) (hy : y ≠ 0) (w : World) : (vNext (binOp .rem 3 (.int .i64 x) (.int .i64 y))).run Tryd.prog w = .ok (.value (.int .i64 (x.tmod y))) w := by
  rw [Go.binOp_rem]
  unfold Op.intDiv
  rw [if_neg hy]
  rfl
theorem tmod_nat (a n : Nat) : ((a : Int)).tmod (n : Int) = ((a % n : Nat) : Int) := by
  rw [Int.tmod_eq_emod_of_nonneg (by omega)]
  rfl
theorem nextc_any {w0 w : World} {nl : Nat} {q : Option Addr} {n c a : Nat} (h : LS w0 w nl q n c a) (ha : a < 4611686018427387904) (k : Nat) (hk : 0 < k) :
    Calls Tryd.prog 37 #[.pointer (some ⟨nl, 0, none⟩), .int .i64 (k : Int)] w fun e w' => ∃ r : Nat, e = .returned (.int .i64 (r : Int)) ∧ r < k ∧ (∃ a', LS w0 w' nl q n c a' ∧ a' ≤ a + 1) ∧ Ch (· = nl) w w' := by
  refine calls_of_fnT mixed Tryd.func37 (s := s37) ?_
  rw [t37]
  simp only [addr_add, Nat.zero_add]
  have b := h.blk
  refine ld_sl (b.cell 0) ?_
  refine br_both (fun e => ⟨0, rfl, hk, ⟨a, h, by omega⟩, Ch.refl _ _⟩) fun e => ?_
  have hn : 0 < n := by
    rcases Nat.eq_zero_or_pos n with h0 | h0
    · subst h0; cases e
    · exact h0
  obtain ⟨ad, rfl, hz⟩ := h.ints hn
  obtain ⟨z, hz, rz⟩ := hz (a % n) (Nat.mod_lt _ hn)
  have hz : w.cell? (ad.add (a % n)) = some (.int .i64 z) := h.ch.cellv hz (fun h => h)
  refine ⟨fun w'' => Ch No w w'', (Ch.refl _ _).drew, ?_⟩
  have B : ∀ w'', Ch No w w'' → Blk w'' nl [.slice (some ad) n c, .int .i64 (a : Int)] 43 := fun w'' h' => b.ch h' (fun h => h)
  refine ⟨(some ad, n, c), fun w'' h' => (B w'' h').cell 0, (a : Int), fun w'' h' => (B w'' h').cell 1, (some ad, n, c), fun w'' h' => (B w'' h').cell 0, ?_⟩
  refine ⟨((a % n : Nat) : Int), fun w'' _ => by
    have := run_rem (a : Int) (n : Int) (by omega) w''
    rw [tmod_nat] at this
    exact this, ?_⟩
  have hmn := Nat.mod_lt a hn
  refine ix_i (by omega) (by dsimp only; omega) ?_
  rw [Int.toNat_natCast, Nat.mul_one]
  refine ⟨z, fun w'' h' => h'.cellv hz (fun h => h), ?_⟩
  intro w1 h1
  refine ld_int ((B w1 h1).cell 1) ?_
  have hw : IntKind.i64.wrap ((a : Int) + 1) = ((a + 1 : Nat) : Int) := by rw [IntKind.wrap_i64]; omega
  rw [hw]
  refine st_blk (B w1 h1) (by simp) rfl fun w2 h2 z2 b2 => ?_
  have L2 : LS w0 w2 nl (some ad) n c (a + 1) := (h.no h1).upd h2 b2
  have H2 : Ch (· = nl) w w2 := h1.no.trans h2
  unfold Rng at rz
  refine br_both (fun e => ?_) fun e => ?_
  · have e : z < 0 := of_decide_eq_true e
    have hwz : IntKind.i64.wrap (0 - IntKind.i64.wrap (z + 1)) = (((-(z + 1)).toNat : Nat) : Int) := by rw [IntKind.wrap_i64, IntKind.wrap_i64]; omega
    rw [hwz]
    refine t_run (x := (((-(z + 1)).toNat % k : Nat) : Int)) (w' := w2) (by
      have := run_rem (((-(z + 1)).toNat : Nat) : Int) (k : Int) (by omega) w2
      rw [tmod_nat] at this
      exact this) ?_
    exact ⟨_, rfl, Nat.mod_lt _ hk, ⟨a + 1, L2, by omega⟩, H2⟩
  · have e : ¬ z < 0 := of_decide_eq_false e
    have hwz : z = ((z.toNat : Nat) : Int) := by omega
    rw [hwz]
    refine t_run (x := ((z.toNat % k : Nat) : Int)) (w' := w2) (by
      have := run_rem ((z.toNat : Nat) : Int) (k : Int) (by omega) w2
      rw [tmod_nat] at this
      exact this) ?_
    exact ⟨_, rfl, Nat.mod_lt _ hk, ⟨a + 1, L2, by omega⟩, H2⟩
theorem blanksc_any {w0 w : World} {nl : Nat} {q : Option Addr} {n c a : Nat} (h : LS w0 w nl q n c a) (ha : a < 4611686018427387904) :
    Calls Tryd.prog 20 #[.pointer (some ⟨nl, 0, none⟩)] w fun e w' => ∃ l : List UInt8, e = .returned (.string (bytesL l)) ∧ Bl l ∧ l.length ≤ 3 ∧ (∃ a', LS w0 w' nl q n c a' ∧ a' ≤ a + 1) ∧ Ch (· = nl) w w' := by
  refine calls_of_fnT mixed Tryd.func20 (s := s20) ?_
  rw [t20]
  refine nw fun w1 h1 z1 (b1 : Blk w1 w.heap.size [.string (bytesL []), .string (bytesL [32]), .string (bytesL [9]), .string (bytesL [32, 32, 9])] 9) => ?_
  refine cl_i (nextc_any (h.no h1) ha 4 (by omega)) ?_
  rintro e w2 ⟨r, rfl, hr, ⟨a', L2, ha'⟩, h2⟩
  refine ⟨(r : Int), rfl, ?_⟩
  have hnl : nl ≠ w.heap.size := by have := h.blk.lt; omega
  have b2 := b1.ch h2 (fun e => hnl e.symm)
  refine ix_i (by omega) (by omega) ?_
  rw [Int.toNat_natCast, Nat.mul_one, addr_add, Nat.zero_add]
  have H2 : Ch (· = nl) w w2 := h1.no.trans h2
  have fin : ∀ l : List UInt8, [Value.string (bytesL []), .string (bytesL [32]), .string (bytesL [9]), .string (bytesL [32, 32, 9])][r]? = some (.string (bytesL l)) → (∀ d ∈ l, isBl d = true) → l.length ≤ 3 →
      wpT Tryd.prog (fun e w' => ∃ l : List UInt8, e = .returned (.string (bytesL l)) ∧ Bl l ∧ l.length ≤ 3 ∧ (∃ a', LS w0 w' nl q n c a' ∧ a' ≤ a + 1) ∧ Ch (· = nl) w w') (fun _ _ _ => False) (.load ⟨w.heap.size, r, none⟩ .str (fun s4 => .done (.returned (.string s4)))) .pl w2 := by
    intro l hl h1 h2
    exact ld_str (by rw [b2.cell r]; exact hl) ⟨l, rfl, h1, h2, ⟨a', L2, ha'⟩, H2⟩
  have hr4 : r = 0 ∨ r = 1 ∨ r = 2 ∨ r = 3 := by omega
  rcases hr4 with rfl | rfl | rfl | rfl
  · exact fin [] rfl (by decide) (by decide)
  · exact fin [32] rfl (by decide) (by decide)
  · exact fin [9] rfl (by decide) (by decide)
  · exact fin [32, 32, 9] rfl (by decide) (by decide)
/-! a byte by hex -/
def dgL : List UInt8 := [48, 49, 50, 51, 52, 53, 54, 55, 56, 57, 97, 98, 99, 100, 101, 102, 65, 66, 67, 68, 69, 70]
def dg (i : Nat) : UInt8 := dgL.getD i 0
theorem dg_ext : ∀ i : Fin 22, (bytesL dgL).extract i.val (i.val + 1) = bytesL [dg i.val] := by decide +kernel
theorem dg_small : ∀ v : Fin 16, v.val ≤ 9 → hexP (dg v.val).toNat = some v.val := by decide +kernel
theorem dg_great : ∀ v : Fin 16, ∀ t : Fin 2, hexP (dg (v.val + if 9 < v.val then 6 * t.val else 0)).toNat = some v.val := by decide +kernel
theorem bytesL_app (a b : List UInt8) : bytesL a ++ bytesL b = bytesL (a ++ b) := by
  apply ByteArray.ext
  rw [ByteArray.data_append]
  simp [bytesL]
theorem bytesL_size (a : List UInt8) : (bytesL a).size = a.length := by show a.toArray.size = _; simp
section
variable {R : Ending → World → Prop} {Q : Exit → List (Tmp × Value) → World → Prop} {w : World}
theorem hex_leaf {I J : Int} {i j : Nat} (hI : I = i) (hJ : J = j) (hi : i < 22) (hj : j < 22) (h : ∀ w', Ch No w w' → R (Ending.returned (Value.string (bytesL [92, 120, dg i, dg j]))) w') :
    wpT Tryd.prog R Q (.drawn
      (.need (Decidable.decide (0 ≤ I ∧ I ≤ IntKind.i64.wrap (I + 1) ∧ IntKind.i64.wrap (I + 1) ≤ ((22 : Nat) : Int)))
        (.need (Decidable.decide ((bytesL [92, 120]).size + ((bytesL [48, 49, 50, 51, 52, 53, 54, 55, 56, 57, 97, 98, 99, 100, 101, 102, 65, 66, 67, 68, 69, 70]).extract I.toNat (IntKind.i64.wrap (I + 1)).toNat).size ≤ 9223372036854775807))
          (.need (Decidable.decide (0 ≤ J ∧ J ≤ IntKind.i64.wrap (J + 1) ∧ IntKind.i64.wrap (J + 1) ≤ ((22 : Nat) : Int)))
            (.need (Decidable.decide ((bytesL [92, 120] ++ (bytesL [48, 49, 50, 51, 52, 53, 54, 55, 56, 57, 97, 98, 99, 100, 101, 102, 65, 66, 67, 68, 69, 70]).extract I.toNat (IntKind.i64.wrap (I + 1)).toNat).size + ((bytesL [48, 49, 50, 51, 52, 53, 54, 55, 56, 57, 97, 98, 99, 100, 101, 102, 65, 66, 67, 68, 69, 70]).extract J.toNat (IntKind.i64.wrap (J + 1)).toNat).size ≤ 9223372036854775807))
              (.undrawn (.done (.returned (.string (bytesL [92, 120] ++ (bytesL [48, 49, 50, 51, 52, 53, 54, 55, 56, 57, 97, 98, 99, 100, 101, 102, 65, 66, 67, 68, 69, 70]).extract I.toNat (IntKind.i64.wrap (I + 1)).toNat ++ (bytesL [48, 49, 50, 51, 52, 53, 54, 55, 56, 57, 97, 98, 99, 100, 101, 102, 65, 66, 67, 68, 69, 70]).extract J.toNat (IntKind.i64.wrap (J + 1)).toNat)))))))))) .pl w := by
  subst hI hJ
  have hwi : IntKind.i64.wrap ((i : Int) + 1) = ((i + 1 : Nat) : Int) := by rw [IntKind.wrap_i64]; omega
  have hwj : IntKind.i64.wrap ((j : Int) + 1) = ((j + 1 : Nat) : Int) := by rw [IntKind.wrap_i64]; omega
  have ei : (bytesL [48, 49, 50, 51, 52, 53, 54, 55, 56, 57, 97, 98, 99, 100, 101, 102, 65, 66, 67, 68, 69, 70]).extract i (i + 1) = bytesL [dg i] := dg_ext ⟨i, hi⟩
  have ej : (bytesL [48, 49, 50, 51, 52, 53, 54, 55, 56, 57, 97, 98, 99, 100, 101, 102, 65, 66, 67, 68, 69, 70]).extract j (j + 1) = bytesL [dg j] := dg_ext ⟨j, hj⟩
  rw [hwi, hwj, Int.toNat_natCast, Int.toNat_natCast, Int.toNat_natCast, Int.toNat_natCast, ei, ej, bytesL_app, bytesL_app]
  refine ⟨fun w' => Ch No w w', (Ch.refl _ _).drew, decide_eq_true (by omega), decide_eq_true (by simp only [bytesL_size, List.length_cons, List.length_nil]; omega), decide_eq_true (by omega), decide_eq_true (by simp only [bytesL_size, List.length_cons, List.length_nil, List.length_append]; omega), fun w' h' => h w' h'⟩
end
set_option maxHeartbeats 1000000 in
theorem hexed_any {w0 w : World} {nl : Nat} {q : Option Addr} {n c a : Nat} (h : LS w0 w nl q n c a) (ha : a < 4611686018427387900) (b : UInt8) :
    Calls Tryd.prog 38 #[.pointer (some ⟨nl, 0, none⟩), .int .u8 (b.toNat : Int)] w fun e w' => ∃ d1 d2 : UInt8, e = .returned (.string (bytesL [92, 120, d1, d2])) ∧ hexP d1.toNat = some (b.toNat / 16) ∧ hexP d2.toNat = some (b.toNat % 16) ∧ (∃ a', LS w0 w' nl q n c a' ∧ a' ≤ a + 2) ∧ Ch (· = nl) w w' := by
  refine calls_of_fnT mixed Tryd.func38 (s := s38) ?_
  rw [t38]
  have hb := b.toNat_lt
  have e1 : IntKind.i64.wrap (IntKind.u8.wrap ((b.toNat : Int).tdiv 16)) = ((b.toNat / 16 : Nat) : Int) := by
    rw [Int.tdiv_eq_ediv_of_nonneg (by omega), IntKind.wrap_i64, IntKind.wrap_u8]; omega
  have e2 : IntKind.i64.wrap ((b.toNat : Int).tmod 16) = ((b.toNat % 16 : Nat) : Int) := by
    rw [Int.tmod_eq_emod_of_nonneg (by omega), IntKind.wrap_i64]; omega
  simp only [e1, e2]
  have g1 := dg_great ⟨b.toNat / 16, by omega⟩
  have g2 := dg_great ⟨b.toNat % 16, by omega⟩
  dsimp only at g1 g2
  have hv1 : b.toNat / 16 < 16 := by omega
  have hv2 : b.toNat % 16 < 16 := by omega
  have hwt : ∀ (v t : Nat), v < 16 → t < 2 → IntKind.i64.wrap ((v : Int) + IntKind.i64.wrap (6 * (t : Int))) = ((v + 6 * t : Nat) : Int) := fun v t h1 h2 => by rw [IntKind.wrap_i64, IntKind.wrap_i64]; omega
  refine br_both (fun c1 => ?_) fun c1 => ?_
  · have c1 := of_decide_eq_true c1
    refine cl_i (nextc_any h (by omega) 2 (by omega)) ?_
    rintro e w1 ⟨t1, rfl, ht1, ⟨a1, L1, ha1⟩, h1⟩
    refine ⟨(t1 : Int), rfl, ?_⟩
    have g1 := g1 ⟨t1, ht1⟩
    rw [if_pos (by omega)] at g1
    refine br_both (fun c2 => ?_) fun c2 => ?_
    · have c2 := of_decide_eq_true c2
      refine cl_i (nextc_any L1 (by omega) 2 (by omega)) ?_
      rintro e w2 ⟨t2, rfl, ht2, ⟨a2, L2, ha2⟩, h2⟩
      refine ⟨(t2 : Int), rfl, ?_⟩
      have g2 := g2 ⟨t2, ht2⟩
      rw [if_pos (by omega)] at g2
      refine hex_leaf (hwt (b.toNat / 16) t1 hv1 ht1) (hwt (b.toNat % 16) t2 hv2 ht2) (by omega) (by omega) fun w3 h3 => ?_
      exact ⟨_, _, rfl, g1, g2, ⟨a2, L2.no h3, by omega⟩, h1.trans (h2.trans h3.no)⟩
    · have c2 := of_decide_eq_false c2
      have g2 := g2 0
      rw [if_neg (by omega)] at g2
      refine hex_leaf (hwt (b.toNat / 16) t1 hv1 ht1) rfl (by omega) (by omega) fun w3 h3 => ?_
      exact ⟨_, _, rfl, g1, g2, ⟨a1, L1.no h3, by omega⟩, h1.trans h3.no⟩
  · have c1 := of_decide_eq_false c1
    have g1 := g1 0
    rw [if_neg (by omega)] at g1
    refine br_both (fun c2 => ?_) fun c2 => ?_
    · have c2 := of_decide_eq_true c2
      refine cl_i (nextc_any h (by omega) 2 (by omega)) ?_
      rintro e w2 ⟨t2, rfl, ht2, ⟨a2, L2, ha2⟩, h2⟩
      refine ⟨(t2 : Int), rfl, ?_⟩
      have g2 := g2 ⟨t2, ht2⟩
      rw [if_pos (by omega)] at g2
      refine hex_leaf rfl (hwt (b.toNat % 16) t2 hv2 ht2) (by omega) (by omega) fun w3 h3 => ?_
      exact ⟨_, _, rfl, g1, g2, ⟨a2, L2.no h3, by omega⟩, h2.trans h3.no⟩
    · have c2 := of_decide_eq_false c2
      have g2 := g2 0
      rw [if_neg (by omega)] at g2
      refine hex_leaf rfl rfl (by omega) (by omega) fun w3 h3 => ?_
      exact ⟨_, _, rfl, g1, g2, ⟨a, h.no h3, by omega⟩, h3.no⟩
end Go.Proofs.YtjellmblammiaaaDoor
