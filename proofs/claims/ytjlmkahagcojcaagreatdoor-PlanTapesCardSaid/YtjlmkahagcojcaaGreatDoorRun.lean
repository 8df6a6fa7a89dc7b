/- AppendRune, WriteRune: a rune's bytes. -/
import Derived.Test.YtjlmkahagcojcaaGreatDoorChk
import Derived.Lib.RuneBytes
namespace Go.Proofs.YtjlmkahagcojcaaGreatDoor
open Go Tr
open Go.Lib (byteCells strCells)
set_option maxRecDepth 100000
theorem or192 {x : Int} (h0 : 0 ≤ x) (h1 : x < 32) : IntKind.u8.wrap (((BitVec.ofInt IntKind.u8.bits 192 ||| BitVec.ofInt IntKind.u8.bits (IntKind.u8.wrap x)).toNat : Nat) : Int) = 192 + x := by
  have key : ∀ n : Fin 32, (BitVec.ofInt 8 192 ||| BitVec.ofInt 8 (n.val : Int)).toNat = 192 + n.val := by decide
  have h := key ⟨x.toNat, by omega⟩
  have e : ((x.toNat : Nat) : Int) = x := by omega
  simp only [e] at h
  rw [IntKind.wrap_u8', IntKind.wrap_u8', show x % 256 = x by omega]
  show (((BitVec.ofInt 8 192 ||| BitVec.ofInt 8 x).toNat : Nat) : Int) % 256 = _
  rw [h]; omega
theorem or224 {x : Int} (h0 : 0 ≤ x) (h1 : x < 16) : IntKind.u8.wrap (((BitVec.ofInt IntKind.u8.bits 224 ||| BitVec.ofInt IntKind.u8.bits (IntKind.u8.wrap x)).toNat : Nat) : Int) = 224 + x := by
  have key : ∀ n : Fin 16, (BitVec.ofInt 8 224 ||| BitVec.ofInt 8 (n.val : Int)).toNat = 224 + n.val := by decide
  have h := key ⟨x.toNat, by omega⟩
  have e : ((x.toNat : Nat) : Int) = x := by omega
  simp only [e] at h
  rw [IntKind.wrap_u8', IntKind.wrap_u8', show x % 256 = x by omega]
  show (((BitVec.ofInt 8 224 ||| BitVec.ofInt 8 x).toNat : Nat) : Int) % 256 = _
  rw [h]; omega
theorem or240 {x : Int} (h0 : 0 ≤ x) (h1 : x < 8) : IntKind.u8.wrap (((BitVec.ofInt IntKind.u8.bits 240 ||| BitVec.ofInt IntKind.u8.bits (IntKind.u8.wrap x)).toNat : Nat) : Int) = 240 + x := by
  have key : ∀ n : Fin 8, (BitVec.ofInt 8 240 ||| BitVec.ofInt 8 (n.val : Int)).toNat = 240 + n.val := by decide
  have h := key ⟨x.toNat, by omega⟩
  have e : ((x.toNat : Nat) : Int) = x := by omega
  simp only [e] at h
  rw [IntKind.wrap_u8', IntKind.wrap_u8', show x % 256 = x by omega]
  show (((BitVec.ofInt 8 240 ||| BitVec.ofInt 8 x).toNat : Nat) : Int) % 256 = _
  rw [h]; omega
theorem low63 (x : Int) : IntKind.u8.wrap (((BitVec.ofInt IntKind.u8.bits 128 ||| BitVec.ofInt IntKind.u8.bits (IntKind.u8.wrap (((BitVec.ofInt IntKind.u8.bits (IntKind.u8.wrap x) &&& BitVec.ofInt IntKind.u8.bits 63).toNat : Nat) : Int))).toNat : Nat) : Int) = 128 + x % 64 := by
  have key : ∀ n : Fin 256, (BitVec.ofInt 8 128 ||| BitVec.ofInt 8 (((BitVec.ofInt 8 (n.val : Int) &&& BitVec.ofInt 8 63).toNat : Nat) % 256 : Int)).toNat = 128 + n.val % 64 := by decide
  have h := key ⟨(x % 256).toNat, by omega⟩
  have e : (((x % 256).toNat : Nat) : Int) = x % 256 := by omega
  simp only [e] at h
  rw [IntKind.wrap_u8', IntKind.wrap_u8', IntKind.wrap_u8']
  show (((BitVec.ofInt 8 128 ||| BitVec.ofInt 8 ((((BitVec.ofInt 8 (x % 256) &&& BitVec.ofInt 8 63).toNat : Nat) : Int) % 256)).toNat : Nat) : Int) % 256 = _
  rw [h]; omega
theorem sh6 (x : Int) : x.fdiv (2 ^ Min.min (Int.toNat 6) IntKind.i32.bits) = x / 64 := by
  rw [show (2 : Int) ^ Min.min (Int.toNat 6) IntKind.i32.bits = 64 by decide, Int.fdiv_eq_ediv_of_nonneg _ (by decide)]
theorem sh12 (x : Int) : x.fdiv (2 ^ Min.min (Int.toNat 12) IntKind.i32.bits) = x / 4096 := by
  rw [show (2 : Int) ^ Min.min (Int.toNat 12) IntKind.i32.bits = 4096 by decide, Int.fdiv_eq_ediv_of_nonneg _ (by decide)]
theorem sh18 (x : Int) : x.fdiv (2 ^ Min.min (Int.toNat 18) IntKind.i32.bits) = x / 262144 := by
  rw [show (2 : Int) ^ Min.min (Int.toNat 18) IntKind.i32.bits = 262144 by decide, Int.fdiv_eq_ediv_of_nonneg _ (by decide)]
theorem wrap32 (r : Int) : IntKind.u32.wrap r = r % 4294967296 := IntKind.wrap_u32' r
section
variable {R : Ending → World → Prop} {Q : Exit → List (Tmp × Value) → World → Prop} {w : World}
/-- append of bytes told as numbers. -/
theorem ap_z {k : Option Addr × Nat × Nat → T} {cs : Array Bool} {base : Nat} {q : Option Addr} {n c : Nat} {bs : List UInt8} (hown : RowB w base q n c bs) (hb : base ≤ w.heap.size) {m c' : Nat} {b : Nat} {vs : List Value} {u : TypeId} (hblk : Blk w b vs u) (r : Int) (hv : vs = Lib.runeCells r) (hm : vs.length = m) (hsz : n + m ≤ 140737488355328)
    (h : ∀ q' c' w', GrewB base w q n c w' q' (n + m) c' (bs ++ Lib.encodeRune r) → wpT Tryz.prog R Q (k (q', n + m, c')) .pl w') :
    wpT Tryz.prog R Q (.run (builtin .append #[92, 92] 92 cs #[.slice q n c, .slice (some ⟨b, 0, none⟩) m c']) (.one (.leaf .sl)) k) .pl w :=
  ap_b hown hb hblk (Lib.encodeRune r) (by rw [hv, Lib.byteCells_encodeRune]) (by
    have := congrArg List.length (Lib.byteCells_encodeRune r)
    rw [Lib.byteCells_length] at this
    rw [this, ← hv, hm]) hsz h
end
/-! the tree of function 119 -/
def s119 : Script := .cl (.tup []) (.ld .sl (.nop (.nop (.rn (.one (.leaf .sl)) .nil))))
theorem t119 (qa0 : Addr) (qx1 : Int) : fnT Tryz.prog Tryz.f119 #[.pointer (some qa0), .int .u8 qx1] s119 = .call 69 #[.pointer (some qa0)] (.tup []) (fun r1 => .load (qa0.add 1) .sl (fun l2 => .new (.cells #[.int .u8 qx1] 5 (0, 0)) (fun n3 => .run (builtin .append #[92, 92] 92 #[false, false] #[.slice l2.1 l2.2.1 l2.2.2, .slice (some ⟨n3, 0, none⟩) 1 1]) (.one (.leaf .sl)) (fun l4 => .store (qa0.add 1) (.slice l4.1 l4.2.1 l4.2.2) (.done (.returned .nilIface)))))) := by kernel_rfl
/-! the tree of function 180 -/
abbrev fx180_3 (qa0 : Option Addr) (qn0 : Nat) (qc0 : Nat) (qx1 : Int) : List (Tmp × Value) := [(0, .slice qa0 qn0 qc0), (1, .int .i32 qx1), (5, .int .u32 (IntKind.u32.wrap qx1))]
abbrev mx180_3 : List (Tmp × Comp) := [(25, .leaf .bool)]
def s180_3 : Script := .sym .nil (.sym (.lit (.lit .nil)) (.lit (.lit .nil)))
theorem t180_3 (qa0 : Option Addr) (qn0 : Nat) (qc0 : Nat) (qx1 : Int) (gg3 : Nat → Value) : pieceT Tryz.prog (at_ Tryz.f180 [1, 1, 0, 1, 1, 0]) 78 (fx180_3 qa0 qn0 qc0 qx1) gg3 (mx180_3.map (·.1)) [] [] s180_3 = .br (Decidable.decide (IntKind.u32.wrap qx1 < 55296)) (.fin .normal [(25, .bool true)]) (.br (Decidable.decide (57343 < IntKind.u32.wrap qx1)) (.fin .normal [(25, .bool (Decidable.decide (IntKind.u32.wrap qx1 ≤ 65535)))]) (.fin .normal [(25, .bool false)])) := by kernel_rfl
abbrev fx180_7 (qa0 : Option Addr) (qn0 : Nat) (qc0 : Nat) (qx1 : Int) : List (Tmp × Value) := [(0, .slice qa0 qn0 qc0), (1, .int .i32 qx1), (5, .int .u32 (IntKind.u32.wrap qx1))]
abbrev mx180_7 : List (Tmp × Comp) := [(50, .leaf .bool)]
def s180_7 : Script := .sym (.lit (.lit .nil)) (.lit (.lit .nil))
theorem t180_7 (qa0 : Option Addr) (qn0 : Nat) (qc0 : Nat) (qx1 : Int) (gg7 : Nat → Value) : pieceT Tryz.prog (at_ Tryz.f180 [1, 1, 0, 1, 1, 1, 1, 0]) 78 (fx180_7 qa0 qn0 qc0 qx1) gg7 (mx180_7.map (·.1)) [] [] s180_7 = .br (Decidable.decide (IntKind.u32.wrap qx1 > 65535)) (.fin .normal [(50, .bool (Decidable.decide (IntKind.u32.wrap qx1 ≤ 1114111)))]) (.fin .normal [(50, .bool false)]) := by kernel_rfl
def s180 : Script := .sym (.nop (.nop (.nop (.nop (.nop (.nop (.nop (.nop (.nop (.nop (.rn (.one (.leaf .sl)) .nil))))))))))) (.ct 0 [0, 1, 5] mx180_3 (.sym (.nop (.nop (.nop (.nop (.nop (.nop (.nop (.nop (.nop (.nop (.nop (.nop (.nop (.nop (.nop (.rn (.one (.leaf .sl)) .nil)))))))))))))))) (.ct 0 [0, 1, 5] mx180_7 (.sym (.nop (.nop (.nop (.nop (.nop (.nop (.nop (.nop (.nop (.nop (.nop (.nop (.nop (.nop (.nop (.nop (.nop (.nop (.nop (.nop (.rn (.one (.leaf .sl)) .nil))))))))))))))))))))) (.nop (.nop (.rn (.one (.leaf .sl)) .nil)))))))
theorem t180 (qa0 : Option Addr) (qn0 : Nat) (qc0 : Nat) (qx1 : Int) : fnT Tryz.prog Tryz.f180 #[.slice qa0 qn0 qc0, .int .i32 qx1] s180 = .br (Decidable.decide (IntKind.u32.wrap qx1 ≤ 2047)) (.new (.cells #[.int .u8 (IntKind.u8.wrap (↑(BitVec.ofInt IntKind.u8.bits 192 ||| BitVec.ofInt IntKind.u8.bits (IntKind.u8.wrap (qx1.fdiv (2 ^ Min.min (Int.toNat 6) IntKind.i32.bits)))).toNat : Int)), .int .u8 (IntKind.u8.wrap (↑(BitVec.ofInt IntKind.u8.bits 128 ||| BitVec.ofInt IntKind.u8.bits (IntKind.u8.wrap (↑(BitVec.ofInt IntKind.u8.bits (IntKind.u8.wrap qx1) &&& BitVec.ofInt IntKind.u8.bits 63).toNat : Int))).toNat : Int))] 5 (0, 0)) (fun n1 => .run (builtin .append #[92, 92] 92 #[false, false] #[.slice qa0 qn0 qc0, .slice (some ⟨n1, 0, none⟩) 2 2]) (.one (.leaf .sl)) (fun l2 => .done (.returned (.slice l2.1 l2.2.1 l2.2.2))))) (.cut (at_ Tryz.f180 [1, 1, 0, 1, 1, 0]) 78 (fx180_3 qa0 qn0 qc0 qx1) mx180_3 (fun u4 g4 => .br u4.1 (.new (.cells #[.int .u8 (IntKind.u8.wrap (↑(BitVec.ofInt IntKind.u8.bits 224 ||| BitVec.ofInt IntKind.u8.bits (IntKind.u8.wrap (qx1.fdiv (2 ^ Min.min (Int.toNat 12) IntKind.i32.bits)))).toNat : Int)), .int .u8 (IntKind.u8.wrap (↑(BitVec.ofInt IntKind.u8.bits 128 ||| BitVec.ofInt IntKind.u8.bits (IntKind.u8.wrap (↑(BitVec.ofInt IntKind.u8.bits (IntKind.u8.wrap (qx1.fdiv (2 ^ Min.min (Int.toNat 6) IntKind.i32.bits))) &&& BitVec.ofInt IntKind.u8.bits 63).toNat : Int))).toNat : Int)), .int .u8 (IntKind.u8.wrap (↑(BitVec.ofInt IntKind.u8.bits 128 ||| BitVec.ofInt IntKind.u8.bits (IntKind.u8.wrap (↑(BitVec.ofInt IntKind.u8.bits (IntKind.u8.wrap qx1) &&& BitVec.ofInt IntKind.u8.bits 63).toNat : Int))).toNat : Int))] 5 (0, 0)) (fun n5 => .run (builtin .append #[92, 92] 92 #[false, false] #[.slice qa0 qn0 qc0, .slice (some ⟨n5, 0, none⟩) 3 3]) (.one (.leaf .sl)) (fun l6 => .done (.returned (.slice l6.1 l6.2.1 l6.2.2))))) (.cut (at_ Tryz.f180 [1, 1, 0, 1, 1, 1, 1, 0]) 78 (fx180_7 qa0 qn0 qc0 qx1) mx180_7 (fun u8 g8 => .br u8.1 (.new (.cells #[.int .u8 (IntKind.u8.wrap (↑(BitVec.ofInt IntKind.u8.bits 240 ||| BitVec.ofInt IntKind.u8.bits (IntKind.u8.wrap (qx1.fdiv (2 ^ Min.min (Int.toNat 18) IntKind.i32.bits)))).toNat : Int)), .int .u8 (IntKind.u8.wrap (↑(BitVec.ofInt IntKind.u8.bits 128 ||| BitVec.ofInt IntKind.u8.bits (IntKind.u8.wrap (↑(BitVec.ofInt IntKind.u8.bits (IntKind.u8.wrap (qx1.fdiv (2 ^ Min.min (Int.toNat 12) IntKind.i32.bits))) &&& BitVec.ofInt IntKind.u8.bits 63).toNat : Int))).toNat : Int)), .int .u8 (IntKind.u8.wrap (↑(BitVec.ofInt IntKind.u8.bits 128 ||| BitVec.ofInt IntKind.u8.bits (IntKind.u8.wrap (↑(BitVec.ofInt IntKind.u8.bits (IntKind.u8.wrap (qx1.fdiv (2 ^ Min.min (Int.toNat 6) IntKind.i32.bits))) &&& BitVec.ofInt IntKind.u8.bits 63).toNat : Int))).toNat : Int)), .int .u8 (IntKind.u8.wrap (↑(BitVec.ofInt IntKind.u8.bits 128 ||| BitVec.ofInt IntKind.u8.bits (IntKind.u8.wrap (↑(BitVec.ofInt IntKind.u8.bits (IntKind.u8.wrap qx1) &&& BitVec.ofInt IntKind.u8.bits 63).toNat : Int))).toNat : Int))] 5 (0, 0)) (fun n9 => .run (builtin .append #[92, 92] 92 #[false, false] #[.slice qa0 qn0 qc0, .slice (some ⟨n9, 0, none⟩) 4 4]) (.one (.leaf .sl)) (fun l10 => .done (.returned (.slice l10.1 l10.2.1 l10.2.2))))) (.new (.cells #[.int .u8 239, .int .u8 191, .int .u8 189] 5 (0, 0)) (fun n11 => .run (builtin .append #[92, 92] 92 #[false, false] #[.slice qa0 qn0 qc0, .slice (some ⟨n11, 0, none⟩) 3 3]) (.one (.leaf .sl)) (fun l12 => .done (.returned (.slice l12.1 l12.2.1 l12.2.2))))))))) := by kernel_rfl
/-! the tree of function 166 -/
def s166 : Script := .sym (.nop (.nop (.nop (.nop (.rn (.one (.leaf .sl)) .nil))))) (.cl (.one (.leaf .sl)) .nil)
theorem t166 (qa0 : Option Addr) (qn0 : Nat) (qc0 : Nat) (qx1 : Int) : fnT Tryz.prog Tryz.f166 #[.slice qa0 qn0 qc0, .int .i32 qx1] s166 = .br (Decidable.decide (IntKind.u32.wrap qx1 ≤ 127)) (.new (.cells #[.int .u8 (IntKind.u8.wrap qx1)] 5 (0, 0)) (fun n1 => .run (builtin .append #[92, 92] 92 #[false, false] #[.slice qa0 qn0 qc0, .slice (some ⟨n1, 0, none⟩) 1 1]) (.one (.leaf .sl)) (fun l2 => .done (.returned (.slice l2.1 l2.2.1 l2.2.2))))) (.call 180 #[.slice qa0 qn0 qc0, .int .i32 qx1] (.one (.leaf .sl)) (fun l3 => .done (.returned (.slice l3.1 l3.2.1 l3.2.2)))) := by kernel_rfl
/-! the tree of function 142 -/
def s142 : Script := .cl (.tup []) (.ld .sl (.ld .sl (.cl (.one (.leaf .sl)) (.ld .sl .nil))))
theorem t142 (qa0 : Addr) (qx1 : Int) : fnT Tryz.prog Tryz.f142 #[.pointer (some qa0), .int .i32 qx1] s142 = .call 69 #[.pointer (some qa0)] (.tup []) (fun r1 => .load (qa0.add 1) .sl (fun l2 => .load (qa0.add 1) .sl (fun l3 => .call 166 #[.slice l3.1 l3.2.1 l3.2.2, .int .i32 qx1] (.one (.leaf .sl)) (fun l4 => .store (qa0.add 1) (.slice l4.1 l4.2.1 l4.2.2) (.load (qa0.add 1) .sl (fun l5 => .done (.returned (.tuple #[.int .i64 (IntKind.i64.wrap ((↑l5.snd.fst : Int) - (↑l2.snd.fst : Int))), .nilIface])))))))) := by kernel_rfl
theorem appendRuneN_any (w : World) (base : Nat) (q : Option Addr) (n c : Nat) (bs : List UInt8) (r : Int) (hb : base ≤ w.heap.size) (hown : RowB w base q n c bs) (h0 : -2147483648 ≤ r) (h1 : r ≤ 2147483647) (hn : ¬ (0 ≤ r ∧ r ≤ 127)) (hsz : n + 4 ≤ 140737488355328) :
    Calls Tryz.prog 180 #[.slice q n c, .int .i32 r] w fun e w' => ∃ q' n' c', e = .returned (.slice q' n' c') ∧ GrewB base w q n c w' q' n' c' (bs ++ Lib.encodeRune r) := by
  refine calls_of_fnT mixed Tryz.func180 (s := s180) ?_
  rw [t180]
  simp only [sh6, sh12, sh18, low63]
  refine br_both (fun e => ?_) fun e => ?_
  · have e : r % 4294967296 ≤ 2047 := by rw [← wrap32]; exact of_decide_eq_true e
    have hr : 128 ≤ r ∧ r ≤ 2047 := by omega
    refine nw fun w1 h1 z1 b1 => ap_z (hown.no h1) (by omega) b1 r ?_ rfl (by omega) fun q' c' w' g => ⟨q', _, c', rfl, Grew.after h1 g⟩
    rw [or192 (by omega) (by omega)]
    simp only [Lib.runeCells, Lib.encodeRuneZ_two hr.1 hr.2, List.map_cons, List.map_nil]
  have e : ¬ r % 4294967296 ≤ 2047 := by rw [← wrap32]; exact of_decide_eq_false e
  refine cut_i mixed s180_3 (fun (v : Bool × Unit) w' => w' = w ∧ v.1 = decide ((2048 ≤ r ∧ r < 55296) ∨ (57343 < r ∧ r ≤ 65535))) (by kernel_rfl) (fun g => ?_) ?_
  · rw [t180_3]
    refine br_both (fun e' => ⟨rfl, (true, ()), rfl, rfl, ?_⟩) fun e' => br_both (fun e'' => ⟨rfl, (_, ()), rfl, rfl, ?_⟩) fun e'' => ⟨rfl, (false, ()), rfl, rfl, ?_⟩
    · have e' : r % 4294967296 < 55296 := by rw [← wrap32]; exact of_decide_eq_true e'
      exact (decide_eq_true (.inl (by omega))).symm
    · have e' : ¬ r % 4294967296 < 55296 := by rw [← wrap32]; exact of_decide_eq_false e'
      have e'' : 57343 < r % 4294967296 := by rw [← wrap32]; exact of_decide_eq_true e''
      refine decide_eq_decide.2 ?_
      rw [wrap32]
      omega
    · have e' : ¬ r % 4294967296 < 55296 := by rw [← wrap32]; exact of_decide_eq_false e'
      have e'' : ¬ 57343 < r % 4294967296 := by rw [← wrap32]; exact of_decide_eq_false e''
      exact (decide_eq_false (by omega)).symm
  rintro ⟨u, ⟨⟩⟩ g w' ⟨rfl, hu⟩
  dsimp only at hu
  subst hu
  refine br_both (fun e3 => ?_) fun e3 => ?_
  · have e3 := of_decide_eq_true e3
    refine nw fun w1 h1 z1 b1 => ap_z (hown.no h1) (by omega) b1 r ?_ rfl (by omega) fun q' c' w' g => ⟨q', _, c', rfl, Grew.after h1 g⟩
    rw [or224 (by omega) (by omega)]
    simp only [Lib.runeCells, Lib.encodeRuneZ_three e3, List.map_cons, List.map_nil]
  have e3 := of_decide_eq_false e3
  refine cut_i mixed s180_7 (fun (v : Bool × Unit) w'' => w'' = w' ∧ v.1 = decide (65536 ≤ r ∧ r ≤ 1114111)) (by kernel_rfl) (fun g => ?_) ?_
  · rw [t180_7]
    refine br_both (fun e' => ⟨rfl, (_, ()), rfl, rfl, ?_⟩) fun e' => ⟨rfl, (false, ()), rfl, rfl, ?_⟩
    · have e' : r % 4294967296 > 65535 := by rw [← wrap32]; exact of_decide_eq_true e'
      refine decide_eq_decide.2 ?_
      rw [wrap32]
      omega
    · have e' : ¬ r % 4294967296 > 65535 := by rw [← wrap32]; exact of_decide_eq_false e'
      exact (decide_eq_false (by omega)).symm
  rintro ⟨u, ⟨⟩⟩ g w'' ⟨rfl, hu⟩
  dsimp only at hu
  subst hu
  refine br_both (fun e4 => ?_) fun e4 => ?_
  · have e4 := of_decide_eq_true e4
    refine nw fun w1 h1 z1 b1 => ap_z (hown.no h1) (by omega) b1 r ?_ rfl (by omega) fun q' c' w' g => ⟨q', _, c', rfl, Grew.after h1 g⟩
    rw [or240 (by omega) (by omega)]
    simp only [Lib.runeCells, Lib.encodeRuneZ_four e4.1 e4.2, List.map_cons, List.map_nil]
  · have e4 := of_decide_eq_false e4
    refine nw fun w1 h1 z1 b1 => ap_z (hown.no h1) (by omega) b1 r ?_ rfl (by omega) fun q' c' w' g => ⟨q', _, c', rfl, Grew.after h1 g⟩
    have : r < 0 ∨ (55296 ≤ r ∧ r ≤ 57343) ∨ 1114111 < r := by omega
    simp only [Lib.runeCells, Lib.encodeRuneZ_bad this, List.map_cons, List.map_nil]
theorem appendRune_any (w : World) (base : Nat) (q : Option Addr) (n c : Nat) (bs : List UInt8) (r : Int) (hb : base ≤ w.heap.size) (hown : RowB w base q n c bs) (h0 : -2147483648 ≤ r) (h1 : r ≤ 2147483647) (hsz : n + 4 ≤ 140737488355328) :
    Calls Tryz.prog 166 #[.slice q n c, .int .i32 r] w fun e w' => ∃ q' n' c', e = .returned (.slice q' n' c') ∧ GrewB base w q n c w' q' n' c' (bs ++ Lib.encodeRune r) := by
  refine calls_of_fnT mixed Tryz.func166 (s := s166) ?_
  rw [t166]
  refine br_both (fun e => ?_) fun e => ?_
  · have e : r % 4294967296 ≤ 127 := by rw [← wrap32]; exact of_decide_eq_true e
    have hr : 0 ≤ r ∧ r ≤ 127 := by omega
    refine nw fun w1 h1 z1 b1 => ap_z (hown.no h1) (by omega) b1 r ?_ rfl (by omega) fun q' c' w' g => ⟨q', _, c', rfl, Grew.after h1 g⟩
    simp only [Lib.runeCells, Lib.encodeRuneZ_one hr.1 hr.2, List.map_cons, List.map_nil]
    rw [IntKind.wrap_u8', show r % 256 = r by omega]
  · have e : ¬ r % 4294967296 ≤ 127 := by rw [← wrap32]; exact of_decide_eq_false e
    refine cl_i (appendRuneN_any w base q n c bs r hb hown h0 h1 (by omega) hsz) ?_
    rintro e w1 ⟨q', n', c', rfl, g⟩
    exact ⟨(q', n', c'), rfl, q', n', c', rfl, g⟩
theorem writeByte_any (base b : Nat) (w : World) (p : Option Addr) (n c : Nat) (bs : List UInt8) (u : UInt8) (h : Bld base w b p n c bs) (hw : base ≤ w.heap.size) (hsz : n + 1 ≤ 140737488355328) :
    Calls Tryz.prog 119 #[.pointer (some ⟨b, 0, none⟩), .int .u8 u.toNat] w fun e w' => e = .returned .nilIface ∧ ∃ q m d, GrewW base b w p n c w' q m d (bs ++ [u]) := by
  refine calls_of_fnT mixed Tryz.func119 (s := s119) ?_
  rw [t119]
  refine cl_i (copy_any base b w p n c bs h) ?_
  rintro e w1 ⟨rfl, h1, z1, b1⟩
  refine ⟨(), rfl, ?_⟩
  have g1 := h.copied h1 b1
  refine ld_sl (b1.cell 1) (nw fun w2 h2 z2 b2 => ap_b (g1.bld.row.no h2) (by omega) b2 [u] rfl rfl hsz fun q d w3 g3 => ?_)
  have b3 := Grew.blk g3 (g1.bld.row.no h2) (b1.ch h2 (fun h => h)) (by decide)
  refine st_blk b3 (by simp) rfl fun w4 h4 z4 b4 => ⟨rfl, q, n + 1, d, ?_⟩
  exact GrewW.trans h g1 (g1.bld.stored (Grew.after h2 g3) h4 rfl b4 ⟨_, b3⟩)
theorem writeRune_any (base b : Nat) (w : World) (p : Option Addr) (n c : Nat) (bs : List UInt8) (r : Int) (h : Bld base w b p n c bs) (hw : base ≤ w.heap.size) (h0 : -2147483648 ≤ r) (h1 : r ≤ 2147483647) (hsz : n + 4 ≤ 140737488355328) :
    Calls Tryz.prog 142 #[.pointer (some ⟨b, 0, none⟩), .int .i32 r] w fun e w' => (∃ k : Int, e = .returned (.tuple #[.int .i64 k, .nilIface])) ∧ ∃ q m d, GrewW base b w p n c w' q m d (bs ++ Lib.encodeRune r) := by
  refine calls_of_fnT mixed Tryz.func142 (s := s142) ?_
  rw [t142]
  refine cl_i (copy_any base b w p n c bs h) ?_
  rintro e w1 ⟨rfl, k1, z1, b1⟩
  refine ⟨(), rfl, ?_⟩
  have g1 := h.copied k1 b1
  refine ld_sl (b1.cell 1) (ld_sl (b1.cell 1) (cl_i (appendRune_any w1 base p n c bs r (by omega) g1.bld.row h0 h1 hsz) ?_))
  rintro e w2 ⟨q, m, d, rfl, g2⟩
  refine ⟨(q, m, d), rfl, ?_⟩
  have b2 := Grew.blk g2 g1.bld.row b1 (by decide)
  refine st_blk b2 (by simp) rfl fun w3 h3 z3 b3 => ld_sl (b3.cell 1) ⟨⟨_, rfl⟩, q, m, d, ?_⟩
  exact GrewW.trans h g1 (g1.bld.stored g2 h3 rfl b3 ⟨_, b2⟩)
end Go.Proofs.YtjlmkahagcojcaaGreatDoor
