/- The reader: peek, blanks, want, hex, escape. -/
import Derived.Test.YtkebljkdkaagfaaGreatDoorThr
namespace Go.Proofs.YtkebljkdkaagfaaGreatDoor.V
open Go Tr
open Go.RowKit (Below)
set_option maxRecDepth 100000
/-- The reader's state: at nd; the text; i of its bytes are read. -/
structure RdS (w : World) (nd : Nat) (s : ByteArray) (i : Nat) (parts : Int) : Prop where
  blk : Blk w nd [.string s, .int .i64 i, .int .i64 parts] 138
  le : i ≤ s.size
  big : s.size ≤ 140737488355328
namespace RdS
variable {w w' : World} {nd : Nat} {s : ByteArray} {i : Nat} {parts : Int}
theorem c0 (D : RdS w nd s i parts) : w.cell? ⟨nd, 0, none⟩ = some (.string s) := D.blk.cell 0
theorem c1 (D : RdS w nd s i parts) : w.cell? ⟨nd, 1, none⟩ = some (.int .i64 i) := D.blk.cell 1
theorem c2 (D : RdS w nd s i parts) : w.cell? ⟨nd, 2, none⟩ = some (.int .i64 parts) := D.blk.cell 2
theorem no (D : RdS w nd s i parts) (h : Ch No w w') : RdS w' nd s i parts := ⟨D.blk.ch h (fun h => h), D.le, D.big⟩
theorem keep (D : RdS w nd s i parts) {S : Nat → Prop} (h : Ch S w w') (hS : ¬ S nd) : RdS w' nd s i parts := ⟨D.blk.ch h hS, D.le, D.big⟩
theorem set (D : RdS w nd s i parts) {i' : Nat} {parts' : Int} (hb : Blk w' nd [.string s, .int .i64 i', .int .i64 parts'] 138) (hi : i' ≤ s.size) : RdS w' nd s i' parts' := ⟨hb, hi, D.big⟩
end RdS
abbrev rest (s : ByteArray) (i : Nat) : List UInt8 := s.data.toList.drop i
theorem restL (s : ByteArray) (i : Nat) : (rest s i).length = s.size - i := by show (List.drop i _).length = _; rw [List.length_drop]; simp
/-- The reader gave up, with this fault. -/
def RBad (s : ByteArray) (f : Flt) (e : Ending) : Prop := e = .panicked (thrown f.1 ((s.size - f.2 : Nat) : Int))
theorem RBad.mk (er : Int) {s : ByteArray} {a : Nat} (h : a ≤ s.size) : RBad s (er, (rest s a).length) (.panicked (thrown er a)) := by
  unfold RBad
  dsimp only
  rw [restL, show s.size - (s.size - a) = a by omega]
theorem sizeB (s : ByteArray) : s.data.toList.length = s.size := by simp
theorem rest_cases (s : ByteArray) (i : Nat) (hi : i ≤ s.size) : (rest s i = [] ∧ i = s.size) ∨ ∃ h : i < s.size, rest s i = s[i]'h :: rest s (i + 1) := by
  rcases drop_cases s.data.toList i with ⟨h1, h2⟩ | ⟨u, hu, hd⟩
  · exact .inl ⟨h1, by have := sizeB s; omega⟩
  · have hlt := (List.getElem?_eq_some_iff.1 hu).1
    have hlt' : i < s.size := by have := sizeB s; omega
    refine .inr ⟨hlt', ?_⟩
    show s.data.toList.drop i = _
    rw [hd]
    congr 1
    have := (List.getElem?_eq_some_iff.1 hu).2
    rw [← this]
    simp [ByteArray.getElem_eq_getElem_data]
/-! the tree of function 72 -/
def s72 : Script := .nil
theorem t72 (qa0 : Addr) (qx1 : Int) (qx2 : Int) : fnT Tryz.prog Tryz.f72 #[.pointer (some qa0), .int .i64 qx1, .int .i64 qx2] s72 = .done (.panicked [⟨.iface 141 (.agg #[.int .i64 qx1, .int .i64 qx2]), false, false⟩]) := by kernel_rfl
/-! the tree of function 88 -/
def s88 : Script := .qt (.ld (.int .i64) (.ld .str (.sym (.qt (.ld .str (.ld (.int .i64) (.ix .nil)))) .nil)))
theorem t88 (qa0 : Addr) : fnT Tryz.prog Tryz.f88 #[.pointer (some qa0)] s88 = .drawn (.load (qa0.add 1) (.int .i64) (fun x1 => .load qa0 .str (fun s2 => .undrawn (.br (Decidable.decide (x1 < (↑s2.size : Int))) (.drawn (.load qa0 .str (fun s3 => .load (qa0.add 1) (.int .i64) (fun x4 => .bidx s3 x4 (fun c5 => .undrawn (.done (.returned (.int .u8 c5)))))))) (.done (.returned (.int .u8 0))))))) := by kernel_rfl
/-! the tree of function 70 -/
abbrev fx70_1 (qa0 : Addr) : List (Tmp × Value) := [(0, .pointer (some qa0))]
abbrev m70_1 : List (Tmp × Comp) := []
abbrev mx70_1 : List (Tmp × Comp) := []
abbrev mr70_1 : List (Tmp × Comp) := []
abbrev fx70_2 (qa0 : Addr) : List (Tmp × Value) := [(0, .pointer (some qa0))]
abbrev mx70_2 : List (Tmp × Comp) := [(9, .leaf .bool)]
def s70_2 : Script := .cl (.one (.leaf (.int .u8))) (.sym (.lit (.lit (.lit .nil))) (.lit (.cl (.one (.leaf (.int .u8))) (.lit (.lit .nil)))))
theorem t70_2 (qa0 : Addr) (gg2 : Nat → Value) : pieceT Tryz.prog (at_ Tryz.f70 [0, 0, 0, 0]) 17 (fx70_2 qa0) gg2 (mx70_2.map (·.1)) [] [] s70_2 = .call 88 #[.pointer (some qa0)] (.one (.leaf (.int .u8))) (fun x3 => .br (x3 == 32) (.fin .normal [(9, .bool true)]) (.call 88 #[.pointer (some qa0)] (.one (.leaf (.int .u8))) (fun x4 => .fin .normal [(9, .bool (x4 == 9))]))) := by kernel_rfl
def s70_1 : Script := .ct 1 [0] mx70_2 (.sym (.ld (.int .i64) .nil) .nil)
theorem t70_1 (qa0 : Addr) (gg1 : Nat → Value) : pieceT Tryz.prog (at_ Tryz.f70 [0, 0]) 17 (fx70_1 qa0 ++ mvals m70_1 (())) gg1 (m70_1.map (·.1)) (mx70_1.map (·.1)) (mr70_1.map (·.1)) s70_1 = .cut (at_ Tryz.f70 [0, 0, 0, 0]) 17 (fx70_2 qa0) mx70_2 (fun u5 g5 => .br u5.1 (.load (qa0.add 1) (.int .i64) (fun x6 => .store (qa0.add 1) (.int .i64 (IntKind.i64.wrap (x6 + 1))) (.fin .normal []))) (.fin (.exit 0) [])) := by kernel_rfl
def s70 : Script := .lp 0 [0] [] mx70_1 mr70_1 .nil .nil
theorem t70 (qa0 : Addr) : fnT Tryz.prog Tryz.f70 #[.pointer (some qa0)] s70 = .loop (at_ Tryz.f70 [0, 0]) 17 (fx70_1 qa0) [] mx70_1 mr70_1 0 (fun u7 g7 => .done (.returned (.tuple #[]))) (fun u8 g8 => .stuck) := by kernel_rfl
/-! the tree of function 89 -/
abbrev fx89_1 (qa0 : Addr) (qs1 : ByteArray) : List (Tmp × Value) := [(0, .pointer (some qa0)), (1, .string qs1), (6, .int .i64 (↑qs1.size : Int))]
abbrev m89_1 : List (Tmp × Comp) := [(7, .leaf (.int .i64))]
abbrev mx89_1 : List (Tmp × Comp) := []
abbrev mr89_1 : List (Tmp × Comp) := []
abbrev fx89_2 (qa0 : Addr) (qs1 : ByteArray) (x_7 : Int) : List (Tmp × Value) := [(0, .pointer (some qa0)), (1, .string qs1), (4, .int .i64 x_7), (6, .int .i64 (↑qs1.size : Int)), (7, .int .i64 x_7)]
abbrev mx89_2 : List (Tmp × Comp) := []
def s89_2 : Script := .qt (.cl (.one (.leaf (.int .u8))) (.ix (.sym (.ld (.int .i64) (.clx .nil)) .nil)))
theorem t89_2 (qa0 : Addr) (qs1 : ByteArray) (x_7 : Int) (gg2 : Nat → Value) : pieceT Tryz.prog (at_ Tryz.f89 [1, 0, 0, 1, 1, 0, 0, 1, 0]) 30 (fx89_2 qa0 qs1 x_7) gg2 (mx89_2.map (·.1)) [] [] s89_2 = .drawn (.call 88 #[.pointer (some qa0)] (.one (.leaf (.int .u8))) (fun x3 => .bidx qs1 x_7 (fun c4 => .undrawn (.br (x3 != c4) (.load (qa0.add 1) (.int .i64) (fun x5 => .callx 72 #[.pointer (some qa0), .int .i64 28, .int .i64 x5] (fun ch6 => .done (.panicked ch6)))) (.fin .normal []))))) := by kernel_rfl
def s89_1 : Script := .sym (.ct 2 [0, 1, 4, 6, 7] mx89_2 (.ld (.int .i64) .nil)) .nil
theorem t89_1 (qa0 : Addr) (qs1 : ByteArray) (x_7 : Int) (gg1 : Nat → Value) : pieceT Tryz.prog (at_ Tryz.f89 [1, 0, 0]) 30 (fx89_1 qa0 qs1 ++ mvals m89_1 (x_7, ())) gg1 (m89_1.map (·.1)) (mx89_1.map (·.1)) (mr89_1.map (·.1)) s89_1 = .br (Decidable.decide (x_7 < (↑qs1.size : Int))) (.cut (at_ Tryz.f89 [1, 0, 0, 1, 1, 0, 0, 1, 0]) 30 (fx89_2 qa0 qs1 x_7) mx89_2 (fun u7 g7 => .load (qa0.add 1) (.int .i64) (fun x8 => .store (qa0.add 1) (.int .i64 (IntKind.i64.wrap (x8 + 1))) (.fin .normal [(7, .int .i64 (IntKind.i64.wrap (x_7 + 1)))])))) (.fin (.exit 0) []) := by kernel_rfl
def s89 : Script := .lp 0 [0, 1, 6] [7] mx89_1 mr89_1 .nil .nil
theorem t89 (qa0 : Addr) (qs1 : ByteArray) : fnT Tryz.prog Tryz.f89 #[.pointer (some qa0), .string qs1] s89 = .loop (at_ Tryz.f89 [1, 0, 0]) 30 (fx89_1 qa0 qs1) [(7, .int .i64 0)] mx89_1 mr89_1 0 (fun u9 g9 => .done (.returned (.tuple #[]))) (fun u10 g10 => .stuck) := by kernel_rfl
/-! the tree of function 123 -/
abbrev fx123_3 (qa0 : Addr) (x1 : Int) : List (Tmp × Value) := [(0, .pointer (some qa0)), (3, .int .u8 x1)]
abbrev mx123_3 : List (Tmp × Comp) := [(13, .leaf .bool)]
def s123_3 : Script := .sym (.lit (.lit .nil)) (.lit (.lit .nil))
theorem t123_3 (qa0 : Addr) (x1 : Int) (gg3 : Nat → Value) : pieceT Tryz.prog (at_ Tryz.f123 [1, 1, 1, 0, 0, 0]) 49 (fx123_3 qa0 x1) gg3 (mx123_3.map (·.1)) [] [] s123_3 = .br (Decidable.decide (x1 ≥ 48)) (.fin .normal [(13, .bool (Decidable.decide (x1 ≤ 57)))]) (.fin .normal [(13, .bool false)]) := by kernel_rfl
abbrev fx123_5 (qa0 : Addr) (x1 : Int) : List (Tmp × Value) := [(0, .pointer (some qa0)), (3, .int .u8 x1)]
abbrev mx123_5 : List (Tmp × Comp) := [(22, .leaf .bool)]
def s123_5 : Script := .sym (.lit (.lit .nil)) (.lit (.lit .nil))
theorem t123_5 (qa0 : Addr) (x1 : Int) (gg5 : Nat → Value) : pieceT Tryz.prog (at_ Tryz.f123 [1, 1, 1, 0, 0, 1, 1, 0]) 49 (fx123_5 qa0 x1) gg5 (mx123_5.map (·.1)) [] [] s123_5 = .br (Decidable.decide (x1 ≥ 97)) (.fin .normal [(22, .bool (Decidable.decide (x1 ≤ 102)))]) (.fin .normal [(22, .bool false)]) := by kernel_rfl
abbrev fx123_7 (qa0 : Addr) (x1 : Int) : List (Tmp × Value) := [(0, .pointer (some qa0)), (3, .int .u8 x1)]
abbrev mx123_7 : List (Tmp × Comp) := [(32, .leaf .bool)]
def s123_7 : Script := .sym (.lit (.lit .nil)) (.lit (.lit .nil))
theorem t123_7 (qa0 : Addr) (x1 : Int) (gg7 : Nat → Value) : pieceT Tryz.prog (at_ Tryz.f123 [1, 1, 1, 0, 0, 1, 1, 1, 1, 0]) 49 (fx123_7 qa0 x1) gg7 (mx123_7.map (·.1)) [] [] s123_7 = .br (Decidable.decide (x1 ≥ 65)) (.fin .normal [(32, .bool (Decidable.decide (x1 ≤ 70)))]) (.fin .normal [(32, .bool false)]) := by kernel_rfl
def s123 : Script := .cl (.one (.leaf (.int .u8))) (.ld (.int .i64) (.ct 1 [0, 3] mx123_3 (.sym .nil (.ct 0 [0, 3] mx123_5 (.sym .nil (.ct 0 [0, 3] mx123_7 (.sym .nil (.ld (.int .i64) (.clx .nil)))))))))
theorem t123 (qa0 : Addr) : fnT Tryz.prog Tryz.f123 #[.pointer (some qa0)] s123 = .call 88 #[.pointer (some qa0)] (.one (.leaf (.int .u8))) (fun x1 => .load (qa0.add 1) (.int .i64) (fun x2 => .store (qa0.add 1) (.int .i64 (IntKind.i64.wrap (x2 + 1))) (.cut (at_ Tryz.f123 [1, 1, 1, 0, 0, 0]) 49 (fx123_3 qa0 x1) mx123_3 (fun u4 g4 => .br u4.1 (.done (.returned (.int .u8 (IntKind.u8.wrap (x1 - 48))))) (.cut (at_ Tryz.f123 [1, 1, 1, 0, 0, 1, 1, 0]) 49 (fx123_5 qa0 x1) mx123_5 (fun u6 g6 => .br u6.1 (.done (.returned (.int .u8 (IntKind.u8.wrap (IntKind.u8.wrap (x1 - 97) + 10))))) (.cut (at_ Tryz.f123 [1, 1, 1, 0, 0, 1, 1, 1, 1, 0]) 49 (fx123_7 qa0 x1) mx123_7 (fun u8 g8 => .br u8.1 (.done (.returned (.int .u8 (IntKind.u8.wrap (IntKind.u8.wrap (x1 - 65) + 10))))) (.load (qa0.add 1) (.int .i64) (fun x9 => .callx 72 #[.pointer (some qa0), .int .i64 28, .int .i64 (IntKind.i64.wrap (x9 - 1))] (fun ch10 => .done (.panicked ch10)))))))))))) := by kernel_rfl
/-! the tree of function 111 -/
abbrev fx111_2 (qa0 : Addr) (x1 : Int) : List (Tmp × Value) := [(0, .pointer (some qa0)), (3, .int .u8 x1), (7, .int .u8 x1)]
abbrev mx111_2 : List (Tmp × Comp) := [(8, .leaf .bool)]
def s111_2 : Script := .sym .nil .nil
theorem t111_2 (qa0 : Addr) (x1 : Int) (gg2 : Nat → Value) : pieceT Tryz.prog (at_ Tryz.f111 [1, 1, 0, 1, 0, 0]) 59 (fx111_2 qa0 x1) gg2 (mx111_2.map (·.1)) [] [] s111_2 = .br (x1 == 34) (.fin .normal [(8, .bool true)]) (.fin .normal [(8, .bool (x1 == 92))]) := by kernel_rfl
def s111 : Script := .cl (.one (.leaf (.int .u8))) (.ct 2 [0, 3, 7] mx111_2 (.sym (.ld (.int .i64) .nil) (.sym (.ld (.int .i64) .nil) (.sym (.ld (.int .i64) .nil) (.sym (.ld (.int .i64) (.clp (.one (.leaf (.int .u8))) (.clp (.one (.leaf (.int .u8))) .nil .nil) .nil)) (.ld (.int .i64) (.clx .nil)))))))
theorem t111 (qa0 : Addr) : fnT Tryz.prog Tryz.f111 #[.pointer (some qa0)] s111 = .call 88 #[.pointer (some qa0)] (.one (.leaf (.int .u8))) (fun x1 => .cut (at_ Tryz.f111 [1, 1, 0, 1, 0, 0]) 59 (fx111_2 qa0 x1) mx111_2 (fun u3 g3 => .br u3.1 (.load (qa0.add 1) (.int .i64) (fun x4 => .store (qa0.add 1) (.int .i64 (IntKind.i64.wrap (x4 + 1))) (.done (.returned (.int .u8 x1))))) (.br (x1 == 110) (.load (qa0.add 1) (.int .i64) (fun x5 => .store (qa0.add 1) (.int .i64 (IntKind.i64.wrap (x5 + 1))) (.done (.returned (.int .u8 10))))) (.br (x1 == 116) (.load (qa0.add 1) (.int .i64) (fun x6 => .store (qa0.add 1) (.int .i64 (IntKind.i64.wrap (x6 + 1))) (.done (.returned (.int .u8 9))))) (.br (x1 == 120) (.load (qa0.add 1) (.int .i64) (fun x7 => .store (qa0.add 1) (.int .i64 (IntKind.i64.wrap (x7 + 1))) (.callp 123 #[.pointer (some qa0)] (.one (.leaf (.int .u8))) (fun x8 => .callp 123 #[.pointer (some qa0)] (.one (.leaf (.int .u8))) (fun x9 => .done (.returned (.int .u8 (IntKind.u8.wrap (↑(BitVec.ofInt IntKind.u8.bits (IntKind.u8.wrap (x8 * 2 ^ Min.min (Int.toNat 4) IntKind.u8.bits)) ||| BitVec.ofInt IntKind.u8.bits x9).toNat : Int))))) (fun ch10 => .done (.panicked ch10))) (fun ch11 => .done (.panicked ch11))))) (.load (qa0.add 1) (.int .i64) (fun x12 => .callx 72 #[.pointer (some qa0), .int .i64 28, .int .i64 x12] (fun ch13 => .done (.panicked ch13))))))))) := by kernel_rfl
theorem rfail_any (a : Addr) (e p : Int) (w : World) : Calls Tryz.prog 72 #[.pointer (some a), .int .i64 e, .int .i64 p] w fun r w' => r = .panicked (thrown e p) ∧ w' = w := by
  refine calls_of_fnT mixed Tryz.func72 (s := s72) ?_
  rw [t72]
  exact ⟨rfl, rfl⟩
theorem peek_any (w : World) (nd : Nat) (s : ByteArray) (i : Nat) (parts : Int) (D : RdS w nd s i parts) :
    Calls Tryz.prog 88 #[.pointer (some ⟨nd, 0, none⟩)] w fun e w' => e = .returned (.int .u8 (pk (rest s i) : Int)) ∧ Ch No w w' := by
  refine calls_of_fnT mixed Tryz.func88 (s := s88) ?_
  rw [t88]
  simp only [addr_add, Nat.zero_add]
  have hle := D.le
  refine ⟨fun w'' => Ch No w w'', (Ch.refl _ _).drew, _, fun w'' h => (D.no h).c1, _, fun w'' h => (D.no h).c0, fun w1 h1 => ?_⟩
  have D1 := D.no h1
  refine br_both (fun e => ?_) fun e => ?_
  · have e : (i : Int) < (s.size : Int) := of_decide_eq_true e
    have hi : i < s.size := by omega
    rcases rest_cases s i hle with ⟨_, hr⟩ | ⟨_, hr⟩
    · omega
    refine ⟨fun w'' => Ch No w1 w'', (Ch.refl _ _).drew, _, fun w'' h => (D1.no h).c0, _, fun w'' h => (D1.no h).c1, ?_⟩
    refine ⟨by omega, by simpa using hi, fun w'' h => ⟨?_, h1.trans h⟩⟩
    rw [hr]; rfl
  · have e : ¬ (i : Int) < (s.size : Int) := of_decide_eq_false e
    rcases rest_cases s i hle with ⟨hr, _⟩ | ⟨_, _⟩
    · refine ⟨?_, h1⟩
      rw [hr]; rfl
    · omega
/-- One byte is passed over. -/
theorem at_next {P : Program} {R : Ending → World → Prop} {Q : Exit → List (Tmp × Value) → World → Prop} {w : World} {nd : Nat} {s : ByteArray} {i : Nat} {parts : Int} (D : RdS w nd s i parts) (hi : i < s.size) {k : T}
    (h : ∀ w1, Ch (· = nd) w w1 → RdS w1 nd s (i + 1) parts → wpT P R Q k .pl w1) : wpT P R Q (.store ⟨nd, 1, none⟩ (.int .i64 (IntKind.i64.wrap ((i : Int) + 1))) k) .pl w := by
  have hbig := D.big
  have hw : IntKind.i64.wrap ((i : Int) + 1) = ((i + 1 : Nat) : Int) := by rw [IntKind.wrap_i64]; omega
  rw [hw]
  exact st_blk D.blk (by simp) rfl fun w1 h1 z1 b1 => h w1 h1 (D.set b1 hi)
theorem pk_lt (s : ByteArray) (i : Nat) (h : pk (rest s i) ≠ 0) : i < s.size := by
  rcases Nat.lt_or_ge i s.size with h' | h'
  · exact h'
  · exact absurd (by rw [show rest s i = [] from List.drop_of_length_le (by have := sizeB s; omega)]; rfl) h
theorem rest_tail (s : ByteArray) (i : Nat) : (rest s i).tail = rest s (i + 1) := by
  show (List.drop i _).tail = _
  rw [List.tail_drop]
theorem pk_256 (l : List UInt8) : pk l < 256 := by
  cases l with
  | nil => decide
  | cons c l => exact c.toNat_lt
theorem blanksM_step (l : List UInt8) : blanksM l = if pk l = 32 ∨ pk l = 9 then blanksM l.tail else l := by
  unfold blanksM
  cases l with
  | nil => rfl
  | cons c r =>
    rw [List.dropWhile_cons]
    unfold isBl
    simp only [pk, List.tail_cons, Bool.or_eq_true, decide_eq_true_eq]
    rfl
theorem blanks_any (w : World) (nd : Nat) (s : ByteArray) (i : Nat) (parts : Int) (D : RdS w nd s i parts) :
    Calls Tryz.prog 70 #[.pointer (some ⟨nd, 0, none⟩)] w fun e w' => e = .returned (.tuple #[]) ∧ Ch (· = nd) w w' ∧ ∃ i', RdS w' nd s i' parts ∧ rest s i' = blanksM (rest s i) := by
  refine calls_of_fnT mixed Tryz.func70 (s := s70) ?_
  rw [t70]
  refine loop_i mixed m70_1 s70_1 (by kernel_rfl) (by kernel_rfl)
    (fun (_ : Unit) w' => ∃ i', RdS w' nd s i' parts ∧ Ch (· = nd) w w' ∧ blanksM (rest s i') = blanksM (rest s i))
    (fun (_ : Unit) w' => match w'.cell? ⟨nd, 1, none⟩ with
      | some (.int _ x) => s.size - x.toNat
      | _ => 0) () rfl ⟨i, D, Ch.refl _ _, rfl⟩ ?_
  rintro ⟨⟩ g w1 ⟨j, D1, h1, hb⟩
  rw [t70_1]
  simp only [addr_add, Nat.zero_add]
  have hst := blanksM_step (rest s j)
  refine cut_i mixed s70_2 (fun (v : Bool × Unit) w' => v.1 = decide (pk (rest s j) = 32 ∨ pk (rest s j) = 9) ∧ Ch No w1 w') (by kernel_rfl) (fun g => ?_) ?_
  · rw [t70_2]
    refine cl_i (peek_any w1 nd s j parts D1) ?_
    rintro e w2 ⟨rfl, h2⟩
    refine ⟨_, rfl, br_both (fun e => ⟨rfl, (true, ()), rfl, ?_, h2⟩) fun e => ?_⟩
    · have e : (pk (rest s j) : Int) = 32 := by simpa using e
      exact (decide_eq_true (.inl (by omega))).symm
    · have e : ¬ (pk (rest s j) : Int) = 32 := by simpa using e
      refine cl_i (peek_any w2 nd s j parts (D1.no h2)) ?_
      rintro e w3 ⟨rfl, h3⟩
      refine ⟨_, rfl, rfl, (_, ()), rfl, ?_, h2.trans h3⟩
      show ((pk (rest s j) : Int) == 9) = _
      by_cases h9 : pk (rest s j) = 9
      · rw [h9]; rfl
      · rw [decide_eq_false (by omega), beq_eq_false_iff_ne]
        omega
  rintro ⟨b, ⟨⟩⟩ g w2 ⟨hb2, h2⟩
  dsimp only at hb2
  subst hb2
  have D2 := D1.no h2
  refine br_both (fun e => ?_) fun e => ?_
  · have e := of_decide_eq_true e
    have hj := pk_lt s j (by omega)
    refine ld_int D2.c1 (at_next D2 hj fun w3 h3 D3 => ?_)
    refine ⟨(), rfl, ⟨j + 1, D3, h1.trans (h2.no.trans h3), ?_⟩, ?_⟩
    · rw [← hb, hst, if_pos e, rest_tail]
    · rw [D1.c1, D3.c1]
      dsimp only
      rw [Int.toNat_natCast, Int.toNat_natCast]
      omega
  · have e := of_decide_eq_false e
    refine ⟨rfl, (), rfl, fun g => ⟨rfl, h1.trans h2.no, j, D2, ?_⟩⟩
    rw [← hb, hst, if_neg e]
theorem pk_rest {s : ByteArray} {i : Nat} (h : i < s.size) : rest s i = s[i]'h :: rest s (i + 1) := by
  rcases rest_cases s i (by omega) with ⟨_, h'⟩ | ⟨_, h'⟩
  · omega
  · exact h'
theorem want_any (w : World) (nd : Nat) (s : ByteArray) (i : Nat) (parts : Int) (ws : ByteArray) (hws : ∀ c ∈ ws.data.toList, c ≠ 0) (hb : ws.size ≤ 100) (D : RdS w nd s i parts) :
    Calls Tryz.prog 89 #[.pointer (some ⟨nd, 0, none⟩), .string ws] w fun e w' => Ch (· = nd) w w' ∧ match wantX ws.data.toList (rest s i) with
      | .ok l' => e = .returned (.tuple #[]) ∧ RdS w' nd s (i + ws.size) parts ∧ l' = rest s (i + ws.size)
      | .error f => RBad s f e := by
  refine calls_of_fnT mixed Tryz.func89 (s := s89) ?_
  rw [t89]
  have hbig := D.big
  refine loop_i mixed m89_1 s89_1 (by kernel_rfl) (by kernel_rfl)
    (fun (v : Int × Unit) w' => ∃ j : Nat, v.1 = j ∧ j ≤ ws.size ∧ RdS w' nd s (i + j) parts ∧ Ch (· = nd) w w' ∧ wantX ws.data.toList (rest s i) = wantX (ws.data.toList.drop j) (rest s (i + j)))
    (fun (v : Int × Unit) _ => ws.size - v.1.toNat) (0, ()) rfl ⟨0, rfl, by omega, D, Ch.refl _ _, by simp⟩ ?_
  rintro ⟨_, ⟨⟩⟩ g w1 ⟨j, rfl, hj, D1, h1, ht⟩
  rw [t89_1]
  simp only [addr_add, Nat.zero_add]
  refine br_both (fun e => ?_) fun e => ?_
  · have e : (j : Int) < (ws.size : Int) := of_decide_eq_true e
    have hjs : j < ws.size := by omega
    have hwl := sizeB ws
    have hdr : ws.data.toList.drop j = ws[j]'hjs :: ws.data.toList.drop (j + 1) := by
      rcases rest_cases ws j (by omega) with ⟨_, h⟩ | ⟨_, h⟩
      · omega
      · exact h
    have hget : ws.data.toList[j]? = some (ws[j]'hjs) := by
      rw [List.getElem?_eq_getElem (by omega)]
      simp [ByteArray.getElem_eq_getElem_data]
    refine cut_i mixed s89_2 (fun (v : Unit) w' => pk (rest s (i + j)) = (ws[j]'hjs).toNat ∧ Ch No w1 w') (by kernel_rfl) (fun g => ?_) ?_
    · rw [t89_2]
      simp only [addr_add, Nat.zero_add]
      refine ⟨fun w'' => Ch No w1 w'', (Ch.refl _ _).drew, _, fun w'' h => (peek_any w'' nd s (i + j) parts (D1.no h)).mono fun e w3 ⟨he, h3⟩ => ⟨he, h.trans h3⟩, ?_⟩
      refine ⟨by omega, by simpa using hjs, fun w2 h2 => ?_⟩
      refine br_both (fun e => ?_) fun e => ?_
      · have D2 := D1.no h2
        refine ld_int D2.c1 ?_
        refine cx_i (rfail_any _ _ _ w2) ?_
        rintro r w4 ⟨rfl, rfl⟩
        refine ⟨_, rfl, h1.trans h2.no, ?_⟩
        have e : ¬ (pk (rest s (i + j)) : Int) = ((ws[j]'hjs).toNat : Int) := by simpa using e
        have hne : ¬ pk (rest s (i + j)) = (ws[j]'hjs).toNat := fun h => e (congrArg (fun n : Nat => (n : Int)) h)
        rw [ht, hdr]
        unfold wantX
        rw [if_neg hne]
        exact RBad.mk 28 D2.le
      · refine ⟨rfl, (), rfl, ?_, h2⟩
        have e : ¬ (pk (rest s (i + j)) : Int) ≠ ((ws[j]'hjs).toNat : Int) := by simpa using e
        omega
    rintro ⟨⟩ g w2 ⟨hp, h2⟩
    have D2 := D1.no h2
    have hnz : pk (rest s (i + j)) ≠ 0 := by
      rw [hp]
      intro h0
      have := hws _ (List.mem_of_getElem? hget)
      apply this
      apply UInt8.toNat_inj.1
      rw [h0]; rfl
    have hlt := pk_lt s (i + j) hnz
    refine ld_int D2.c1 (at_next D2 hlt fun w3 h3 D3 => ?_)
    have hwj : IntKind.i64.wrap ((j : Int) + 1) = ((j + 1 : Nat) : Int) := by rw [IntKind.wrap_i64]; omega
    rw [hwj]
    refine ⟨(((j + 1 : Nat) : Int), ()), rfl, ⟨j + 1, rfl, by omega, D3, h1.trans (h2.no.trans h3), ?_⟩, ?_⟩
    · rw [ht, hdr]
      conv => lhs; unfold wantX
      rw [if_pos hp, rest_tail]
      rfl
    · dsimp only
      omega
  · have e : ¬ (j : Int) < (ws.size : Int) := of_decide_eq_false e
    obtain rfl : j = ws.size := by omega
    refine ⟨rfl, (), rfl, fun g => ⟨h1, ?_⟩⟩
    have hwl := sizeB ws
    rw [ht, List.drop_of_length_le (by omega)]
    exact ⟨rfl, D1, rfl⟩
theorem two_t {p a b : Nat} (e : decide ((p : Int) ≥ (a : Int)) = true) : decide ((p : Int) ≤ (b : Int)) = decide (a ≤ p ∧ p ≤ b) := by
  have e := of_decide_eq_true e
  exact decide_eq_decide.2 ⟨fun h => ⟨by omega, by omega⟩, fun h => by omega⟩
theorem two_f {p a b : Nat} (e : decide ((p : Int) ≥ (a : Int)) = false) : false = decide (a ≤ p ∧ p ≤ b) := by
  have e := of_decide_eq_false e
  exact (decide_eq_false fun h => e (by omega)).symm
theorem hex_any (w : World) (nd : Nat) (s : ByteArray) (i : Nat) (parts : Int) (D : RdS w nd s i parts) :
    Calls Tryz.prog 123 #[.pointer (some ⟨nd, 0, none⟩)] w fun e w' => Ch (· = nd) w w' ∧ match hexP (pk (rest s i)) with
      | some x => e = .returned (.int .u8 (x : Int)) ∧ RdS w' nd s (i + 1) parts
      | none => RBad s (28, (rest s i).length) e := by
  refine calls_of_fnT mixed Tryz.func123 (s := s123) ?_
  rw [t123]
  simp only [addr_add, Nat.zero_add]
  have hbig := D.big
  have hle := D.le
  refine cl_i (peek_any w nd s i parts D) ?_
  rintro e w1 ⟨rfl, h1⟩
  refine ⟨_, rfl, ?_⟩
  have D1 := D.no h1
  refine ld_int D1.c1 ?_
  have hw : IntKind.i64.wrap ((i : Int) + 1) = ((i + 1 : Nat) : Int) := by rw [IntKind.wrap_i64]; omega
  rw [hw]
  refine st_blk D1.blk (by simp) rfl fun w2 h2 z2 b2 => ?_
  have H2 : Ch (· = nd) w w2 := h1.no.trans h2
  have hp := pk_256 (rest s i)
  refine cut_i mixed s123_3 (fun (v : Bool × Unit) w' => w' = w2 ∧ v.1 = decide (48 ≤ pk (rest s i) ∧ pk (rest s i) ≤ 57)) (by kernel_rfl) (fun g => ?_) ?_
  · rw [t123_3]
    exact br_both (fun e => ⟨rfl, (decide ((pk (rest s i) : Int) ≤ 57), ()), rfl, rfl, two_t (a := 48) (b := 57) e⟩) fun e => ⟨rfl, (false, ()), rfl, rfl, two_f (a := 48) (b := 57) e⟩
  rintro ⟨v, ⟨⟩⟩ g w3 ⟨rfl, hv⟩
  dsimp only at hv
  subst hv
  have D3 : 48 ≤ pk (rest s i) → RdS w3 nd s (i + 1) parts := fun h => D1.set b2 (pk_lt s i (by omega))
  unfold hexP
  refine br_both (fun e => ?_) fun e1 => ?_
  · have e := of_decide_eq_true e
    refine ⟨H2, ?_⟩
    rw [if_pos e]
    refine ⟨?_, D3 e.1⟩
    rw [IntKind.wrap_u8']
    congr 3
    omega
  have e1 := of_decide_eq_false e1
  rw [if_neg e1]
  refine cut_i mixed s123_5 (fun (v : Bool × Unit) w' => w' = w3 ∧ v.1 = decide (97 ≤ pk (rest s i) ∧ pk (rest s i) ≤ 102)) (by kernel_rfl) (fun g => ?_) ?_
  · rw [t123_5]
    exact br_both (fun e => ⟨rfl, (decide ((pk (rest s i) : Int) ≤ 102), ()), rfl, rfl, two_t (a := 97) (b := 102) e⟩) fun e => ⟨rfl, (false, ()), rfl, rfl, two_f (a := 97) (b := 102) e⟩
  rintro ⟨v, ⟨⟩⟩ g w4 ⟨rfl, hv⟩
  dsimp only at hv
  subst hv
  refine br_both (fun e => ?_) fun e2 => ?_
  · have e := of_decide_eq_true e
    refine ⟨H2, ?_⟩
    rw [if_pos e]
    refine ⟨?_, D3 (by omega)⟩
    rw [IntKind.wrap_u8', IntKind.wrap_u8']
    congr 3
    omega
  have e2 := of_decide_eq_false e2
  rw [if_neg e2]
  refine cut_i mixed s123_7 (fun (v : Bool × Unit) w' => w' = w4 ∧ v.1 = decide (65 ≤ pk (rest s i) ∧ pk (rest s i) ≤ 70)) (by kernel_rfl) (fun g => ?_) ?_
  · rw [t123_7]
    exact br_both (fun e => ⟨rfl, (decide ((pk (rest s i) : Int) ≤ 70), ()), rfl, rfl, two_t (a := 65) (b := 70) e⟩) fun e => ⟨rfl, (false, ()), rfl, rfl, two_f (a := 65) (b := 70) e⟩
  rintro ⟨v, ⟨⟩⟩ g w5 ⟨rfl, hv⟩
  dsimp only at hv
  subst hv
  refine br_both (fun e => ?_) fun e3 => ?_
  · have e := of_decide_eq_true e
    refine ⟨H2, ?_⟩
    rw [if_pos e]
    refine ⟨?_, D3 (by omega)⟩
    rw [IntKind.wrap_u8', IntKind.wrap_u8']
    congr 3
    omega
  have e3 := of_decide_eq_false e3
  rw [if_neg e3]
  refine ld_int (x := ((i + 1 : Nat) : Int)) (b2.cell 1) ?_
  have hw2 : IntKind.i64.wrap (((i + 1 : Nat) : Int) - 1) = (i : Int) := by rw [IntKind.wrap_i64]; omega
  rw [hw2]
  refine cx_i (rfail_any _ _ _ w5) ?_
  rintro r w6 ⟨rfl, rfl⟩
  exact ⟨_, rfl, H2, RBad.mk 28 hle⟩
end Go.Proofs.YtkebljkdkaagfaaGreatDoor.V
