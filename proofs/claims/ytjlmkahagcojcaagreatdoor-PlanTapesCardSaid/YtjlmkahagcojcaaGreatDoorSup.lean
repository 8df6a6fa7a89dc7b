/- Scripts' texts, in plain Lean; and their law: a text in a repeat of n is n times its steps. The library's split at line ends is this one; a line's words, step by step. A line's words and numbers: fault, next, end, more, number. end, more, number: what they answer. A step's operands: survivors, failing, operands. A step's operands: what they answer. A step's operands: operands itself. A script's reader in memory; repeat. A step is put behind a block's steps. The end of a repeat: its steps go to the block around, as often as it says. A script's line: the walk. A script's lines, one by one; ParseScript. Steps that stand somewhere, compared; what a fault tells. Ints and steps compared, of the same; no fault told. -/
import Derived.Calls
import Derived.Lib.SplitLaws
import Derived.Test.YtjlmkahagcojcaaGreatDoorBas
import Derived.Test.YtjlmkahagcojcaaGreatDoorShelf
import Derived.Lib.AppendStr
import Derived.Lib.ConvBytes
import Derived.Lib.TrimByte
import Derived.Lib.LaidTab
import Derived.Laws.BytesString
import Derived.Lib.UnsafeStr
namespace Go.Proofs.YtjlmkahagcojcaaGreatDoor
def splitM : List UInt8 → List (List UInt8)
  | [] => [[]]
  | c :: t => if c = 10 then [] :: splitM t else (match splitM t with
    | [] => [[c]]
    | l :: r => (c :: l) :: r)
def skipS (r : List UInt8) : List UInt8 := r.dropWhile (· == 32)
def wordS (r : List UInt8) : List UInt8 := (skipS r).takeWhile (· != 32)
def afterS (r : List UInt8) : List UInt8 := (skipS r).dropWhile (· != 32)
def passed (l : List UInt8) : Bool := match skipS l with
  | [] => true
  | c :: _ => c == 35
/-! the law -/
theorem split_ne (t : List UInt8) : splitM t ≠ [] := by
  cases t with
  | nil => simp [splitM]
  | cons c t =>
    unfold splitM
    split
    · simp
    · split <;> simp
theorem skip_id {c : UInt8} {t : List UInt8} (h : c ≠ 32) : skipS (c :: t) = c :: t := by
  unfold skipS
  rw [List.dropWhile_cons, if_neg (by simpa using h)]
end Go.Proofs.YtjlmkahagcojcaaGreatDoor
namespace Go.Proofs.YtjlmkahagcojcaaGreatDoor
open Go
theorem index_cons_ne (b : UInt8) (l : List UInt8) (h : b ≠ 10) : Lib.index (b :: l) [10] = if Lib.index l [10] == -1 then -1 else Lib.index l [10] + 1 := by
  have hp : ([10] : List UInt8).isPrefixOf (b :: l) = false := by simp [List.isPrefixOf, Ne.symm h]
  rw [Lib.index, hp]; simp
theorem index_cons_eq (l : List UInt8) : Lib.index (10 :: l) [10] = 0 := by rw [Lib.index]; simp [List.isPrefixOf]
theorem splitK_cons (b : UInt8) (l : List UInt8) (h : b ≠ 10) (k : Nat) : ∃ x r, Lib.splitK [10] 0 k l = x :: r ∧ Lib.splitK [10] 0 k (b :: l) = (b :: x) :: r := by
  cases k with
  | zero => exact ⟨l, [], rfl, rfl⟩
  | succ k =>
    unfold Lib.splitK
    rw [index_cons_ne b l h]
    by_cases hm : Lib.index l [10] = -1
    · rw [if_pos (beq_iff_eq.2 hm), if_pos (by rw [if_pos (beq_iff_eq.2 hm)]; rfl)]
      exact ⟨l, [], rfl, rfl⟩
    · have hge := Lib.index_ge l [10]
      obtain ⟨j, hj⟩ : ∃ j : Nat, Lib.index l [10] = j := ⟨(Lib.index l [10]).toNat, by omega⟩
      rw [hj]
      have n1 : ¬ (((j : Int)) == -1) = true := fun e => by have := beq_iff_eq.1 e; omega
      rw [if_neg n1, if_neg n1]
      have n2 : ¬ (((j : Int) + 1) == -1) = true := fun e => by have := beq_iff_eq.1 e; omega
      rw [if_neg n2]
      refine ⟨_, _, rfl, ?_⟩
      have e1 : ((j : Int) + 1).toNat + 0 = j + 1 := by omega
      have e2 : ((j : Int) + 1).toNat + [(10 : UInt8)].length = (j + 1) + 1 := by simp
      have e3 : ((j : Int)).toNat + 0 = j := by omega
      have e4 : ((j : Int)).toNat + [(10 : UInt8)].length = j + 1 := by simp
      rw [e1, e2, e3, e4]
      rfl
theorem splitK_is : ∀ l : List UInt8, Lib.splitK [10] 0 (Lib.count l [10]) l = splitM l
  | [] => by rw [Lib.count_one]; rfl
  | b :: l => by
    have ih := splitK_is l
    by_cases h : b = 10
    · subst h
      rw [Lib.count_cons_eq, Nat.add_comm]
      unfold Lib.splitK
      rw [index_cons_eq, if_neg (by decide)]
      show [] :: Lib.splitK [10] 0 (Lib.count l [10]) l = _
      rw [ih, splitM, if_pos rfl]
    · rw [Lib.count_cons_ne b 10 l h]
      obtain ⟨x, r, h1, h2⟩ := splitK_cons b l h (Lib.count l [10])
      rw [h2]
      rw [h1] at ih
      rw [splitM, if_neg h, ← ih]
theorem splitB_is (s : ByteArray) : (Lib.splitB ⟨#[10]⟩ 0 (Lib.countB s ⟨#[10]⟩) s).map (·.data.toList) = splitM s.data.toList := by
  rw [Lib.splitB_data]
  exact splitK_is s.data.toList
/-! a line, byte by byte: `r` is what is left of it -/
theorem skip_sp {L : List UInt8} {i : Nat} (h : L[i]? = some 32) : skipS (L.drop i) = skipS (L.drop (i + 1)) := by
  obtain ⟨hi, e⟩ := List.getElem?_eq_some_iff.1 h
  rw [List.drop_eq_getElem_cons hi, e]
  rfl
theorem skip_stop {L : List UInt8} {i : Nat} {c : UInt8} (h : L[i]? = some c) (hc : c ≠ 32) : skipS (L.drop i) = L.drop i := by
  obtain ⟨hi, e⟩ := List.getElem?_eq_some_iff.1 h
  rw [List.drop_eq_getElem_cons hi, e]
  exact skip_id hc
def tw (r : List UInt8) : List UInt8 := r.takeWhile (· != 32)
def dw (r : List UInt8) : List UInt8 := r.dropWhile (· != 32)
theorem tw_in {L : List UInt8} {i : Nat} {c : UInt8} (h : L[i]? = some c) (hc : c ≠ 32) : tw (L.drop i) = c :: tw (L.drop (i + 1)) ∧ dw (L.drop i) = dw (L.drop (i + 1)) := by
  obtain ⟨hi, e⟩ := List.getElem?_eq_some_iff.1 h
  rw [List.drop_eq_getElem_cons hi, e]
  unfold tw dw
  rw [List.takeWhile_cons, List.dropWhile_cons, if_pos (by simpa using hc), if_pos (by simpa using hc)]
  exact ⟨rfl, rfl⟩
theorem tw_stop {L : List UInt8} {i : Nat} (h : L[i]? = some 32 ∨ L.length ≤ i) : tw (L.drop i) = [] ∧ dw (L.drop i) = L.drop i := by
  rcases h with h | h
  · obtain ⟨hi, e⟩ := List.getElem?_eq_some_iff.1 h
    rw [List.drop_eq_getElem_cons hi, e]
    exact ⟨rfl, rfl⟩
  · rw [List.drop_eq_nil_of_le h]
    exact ⟨rfl, rfl⟩
end Go.Proofs.YtjlmkahagcojcaaGreatDoor
namespace Go.Proofs.YtjlmkahagcojcaaGreatDoor
open Go Tr
set_option maxRecDepth 100000
/-! the tree of function 22 -/
def s22 : Script := .ld (.int .i64) .nil
theorem t22 (qa0 : Addr) (qx1 : Int) (er : Int) : fnT Tryz.prog Tryz.f22 #[.pointer (some qa0), .int .i64 qx1, .iface 69 (.int .i64 er)] s22 = .load (qa0.add 1) (.int .i64) (fun x1 => .new (.cells #[.int .i64 x1, .int .i64 qx1, .iface 69 (.int .i64 er)] 122 (0, 0)) (fun n2 => .done (.returned (.iface 120 (.pointer (some ⟨n2, 0, none⟩)))))) := by kernel_rfl
/-! the tree of function 56 -/
/-! the tree of function 58 -/
/-! the tree of function 127 -/
/-! the tree of function 97 -/
/-! the tree of function 94 -/
abbrev tCur : TypeId := 108
/-- A cursor: r is what is left of the line s. -/
structure Cur (w : World) (b : Nat) (s : ByteArray) (no : Int) (r : List UInt8) : Prop where
  suf : r <:+ s.data.toList
  blk : Blk w b [.string s, .int .i64 no, .int .i64 ((s.size - r.length : Nat) : Int)] tCur
theorem Cur.ch {S : Nat → Prop} {w w' : World} {b : Nat} {s : ByteArray} {no : Int} {r : List UInt8} (h : Cur w b s no r) (hc : Ch S w w') (hn : ¬ S b) : Cur w' b s no r := ⟨h.suf, h.blk.ch hc hn⟩
theorem byte32 (c : UInt8) : ((c.toNat : Int) == 32) = (c == 32) := by
  by_cases h32 : c = 32
  · subst h32; rfl
  · have : ¬ ((c.toNat : Int) = 32) := fun e => h32 (UInt8.toNat_inj.1 (by show c.toNat = 32; omega))
    rw [beq_eq_false_iff_ne.2 this, beq_eq_false_iff_ne.2 h32]
theorem fault_any (b : Nat) (s : ByteArray) (no : Int) (r : List UInt8) (at_ er : Int) (w : World) (h : Cur w b s no r) :
    Calls Tryz.prog 22 #[.pointer (some ⟨b, 0, none⟩), .int .i64 at_, .iface tErrno (.int .i64 er)] w fun e w' => ∃ v, e = .returned v ∧ ErrAt w' v no at_ er ∧ Ch No w w' := by
  refine calls_of_fnT mixed Tryz.func22 (s := s22) ?_
  rw [t22]
  refine ld_int (by rw [addr_add]; exact h.blk.cell 1) (nw fun w1 h1 z1 b1 => ?_)
  exact ⟨_, rfl, ⟨_, rfl, b1⟩, h1⟩
end Go.Proofs.YtjlmkahagcojcaaGreatDoor
namespace Go.Proofs.YtjlmkahagcojcaaGreatDoor
open Go Tr
set_option maxRecDepth 100000
abbrev tBytes : TypeId := 92
abbrev tByte : TypeId := 5
theorem tb_nil : (bytesL []).toList = [] := by rw [ByteArray.toList_eq]
theorem tb_list (l : List UInt8) : (bytesL l).toList = l := by rw [ByteArray.toList_eq]
theorem tb_size (l : List UInt8) : (bytesL l).size = l.length := by show (List.toArray l).size = _; simp
theorem tb_data (l : List UInt8) : (bytesL l).data.toList = l := rfl
section
variable {R : Ending → World → Prop} {Q : Exit → List (Tmp × Value) → World → Prop} {w : World} {md : Md} [hmd : md.Runs]
end
end Go.Proofs.YtjlmkahagcojcaaGreatDoor
namespace Go.Proofs.YtjlmkahagcojcaaGreatDoor
open Go Tr
set_option maxRecDepth 100000
/-! the tree of function 95 -/
/-! the tree of function 96 -/
/-! the tree of function 60 -/
abbrev tInt : TypeId := 3
abbrev tInts : TypeId := 36
def intCells (l : List Int) : List Value := l.map fun x => .int .i64 x
theorem intCells_one (l : List Int) : ∀ u ∈ intCells l, u.oneCell' = true := fun u hu => by
  simp only [intCells, List.mem_map] at hu
  obtain ⟨b, _, rfl⟩ := hu
  rfl
theorem infoInt : (Tryz.prog.info? tInt).map (fun i => (i.zero, i.size, i.bytes)) = some (some (.int .i64 0), 1, 8) := by kernel_rfl
section
variable {R : Ending → World → Prop} {Q : Exit → List (Tmp × Value) → World → Prop} {w : World}
section
variable {md : Md} [hmd : md.Runs]
end
end
theorem after_lt {r : List UInt8} (hs : skipS r ≠ []) : (afterS r).length < r.length := by
  have h2 : (skipS r).length ≤ r.length := (List.dropWhile_suffix (l := r) (· == (32 : UInt8))).length_le
  cases hsk : skipS r with
  | nil => exact absurd hsk hs
  | cons c t =>
    have hc : c ≠ 32 := by
      have := List.head?_dropWhile_not (p := (· == (32 : UInt8))) (l := r)
      rw [show r.dropWhile (· == 32) = c :: t from hsk] at this
      simpa using this
    unfold afterS
    rw [hsk, List.dropWhile_cons, if_pos (by simpa using hc)]
    have := (List.dropWhile_suffix (l := t) (· != (32 : UInt8))).length_le
    rw [hsk, List.length_cons] at h2
    omega
end Go.Proofs.YtjlmkahagcojcaaGreatDoor
namespace Go.Proofs.YtjlmkahagcojcaaGreatDoor
open Go Tr
set_option maxRecDepth 100000
section
variable {b n1 n2 : Nat} {s : ByteArray} {no : Int} {w0 w2 w w' : World} {r r' : List UInt8} {xs ys xs' : List Value}
end
end Go.Proofs.YtjlmkahagcojcaaGreatDoor
namespace Go.Proofs.YtjlmkahagcojcaaGreatDoor
open Go Tr
set_option maxRecDepth 100000
section
variable {b n1 n2 : Nat} {s : ByteArray} {no : Int} {w0 w2 w w' : World} {r r' : List UInt8} {xs ys xs' : List Value}
end
end Go.Proofs.YtjlmkahagcojcaaGreatDoor
namespace Go.Proofs.YtjlmkahagcojcaaGreatDoor
open Go Tr
set_option maxRecDepth 100000
/-! the tree of function 57 -/
/-- No block of this type. -/
def NoTy (w : World) (S : Nat → Prop) (t : TypeId) : Prop := ∀ k cur, w.heap[k]? = some (.cells cur t (0, 0)) → ¬ S k
theorem noTy_row {w : World} {base : Nat} {e t' : TypeId} {size : Nat} {p : Option Addr} {n c : Nat} {xs : List Value} (h : Row w base e size p n c xs) (ht : e ≠ t') : NoTy w (rowS p n c) t' := fun k cur hk hr => by
  obtain ⟨cur', h'⟩ := h.at hr
  rw [hk] at h'
  simp only [Option.some.injEq, Obj.cells.injEq] at h'
  exact ht h'.2.1.symm
theorem Row.noTy {w : World} {base : Nat} {e : TypeId} {size : Nat} {p : Option Addr} {n c : Nat} {xs : List Value} {S : Nat → Prop} (h : Row w base e size p n c xs) (ht : NoTy w S e) (k : Nat) (hk : rowS p n c k) : ¬ S k := by
  obtain ⟨cur, h'⟩ := h.at hk
  exact ht k cur h'
end Go.Proofs.YtjlmkahagcojcaaGreatDoor
namespace Go.Proofs.YtjlmkahagcojcaaGreatDoor
open Go Tr
set_option maxRecDepth 100000
section
variable {R : Ending → World → Prop} {Q : Exit → List (Tmp × Value) → World → Prop} {w w0 : World}
end
end Go.Proofs.YtjlmkahagcojcaaGreatDoor
namespace Go.Proofs.YtjlmkahagcojcaaGreatDoor
open Go Tr
set_option maxRecDepth 100000
/-! the tree of function 21 -/
section
variable {R : Ending → World → Prop} {Q : Exit → List (Tmp × Value) → World → Prop}
end
end Go.Proofs.YtjlmkahagcojcaaGreatDoor
namespace Go.Proofs.YtjlmkahagcojcaaGreatDoor
open Go Tr
set_option maxRecDepth 100000
end Go.Proofs.YtjlmkahagcojcaaGreatDoor
namespace Go.Proofs.YtjlmkahagcojcaaGreatDoor
open Go Tr
set_option maxRecDepth 100000
/-! the tree of function 20 -/
/-! the tree of function 6 -/
theorem split_le : ∀ (t : List UInt8), ∀ x ∈ splitM t, x.length ≤ t.length
  | [], x, h => by simp [splitM] at h; subst h; simp
  | c :: t, x, h => by
    unfold splitM at h
    by_cases hc : c = 10
    · rw [if_pos hc] at h
      rcases List.mem_cons.1 h with rfl | h
      · simp
      · have := split_le t x h; simp only [List.length_cons]; omega
    · rw [if_neg hc] at h
      have ih := split_le t
      split at h
      · rw [List.mem_singleton] at h; subst h; simp
      · rename_i l r hs
        rw [hs] at ih
        rcases List.mem_cons.1 h with rfl | h
        · have := ih l (.head _); simp only [List.length_cons]; omega
        · have := ih x (.tail _ h); simp only [List.length_cons]; omega
theorem skip_trim (s : ByteArray) : Lib.trimLeftB s.data.toList 32 = skipS s.data.toList := rfl
end Go.Proofs.YtjlmkahagcojcaaGreatDoor
namespace Go.Proofs.YtjlmkahagcojcaaGreatDoor
open Go Tr
set_option maxRecDepth 100000
/-! the tree of function 1007 -/
def s30f : Script := .lit (.lit (.lit (.ld .any (.rn (.one (.leaf .any)) (.rn (.one (.leaf .bool)) (.rn (.one (.leaf (.int .i64))) (.sym (.qt (.ld (.int .i64) (.ld (.int .i64) .nil))) .nil)))))))
theorem t30f (qcl : Addr) : fnT Tryz.prog Tryz.f30 #[.iface 120 (.pointer (some qcl))] s30f = .load (qcl.add 2) .any (fun v1 => .run (vNext (Instr.typeAssert v1 24 69 true)) (.one (.leaf .any)) (fun v2 => .run (execOp (Act.eval ⟨#[.iface 120 (.pointer (some qcl)), undef, .int .i64 0, .int .i64 0, .int .i64 0, undef, .pointer (some qcl), undef, .iface 120 (.pointer (some qcl)), .bool false, .tuple #[.pointer (some qcl), .bool true], .bool true, .pointer (some qcl), .pointer (some qcl), .bool false, .pointer (some qcl), .pointer (some qcl), .pointer (some (qcl.add 2)), v1, v2, undef, undef, undef, undef, undef, undef, undef, undef, undef, undef, undef], []⟩) ({ dst := Option.some 20, op := Go.Op.extract (Go.Operand.tmp 19) 1, type := 4, pos := "exact.go:20", after := #[{ on := 0, ground := Go.Ground.data }], guard := Option.none })) (.one (.leaf .bool)) (fun b3 => .run (execOp (Act.eval ⟨#[.iface 120 (.pointer (some qcl)), undef, .int .i64 0, .int .i64 0, .int .i64 0, undef, .pointer (some qcl), undef, .iface 120 (.pointer (some qcl)), .bool false, .tuple #[.pointer (some qcl), .bool true], .bool true, .pointer (some qcl), .pointer (some qcl), .bool false, .pointer (some qcl), .pointer (some qcl), .pointer (some (qcl.add 2)), v1, v2, .bool b3, undef, undef, undef, undef, undef, undef, undef, undef, undef, undef], []⟩) ({ dst := Option.some 21, op := Go.Op.extract (Go.Operand.tmp 19) 0, type := 69, pos := "exact.go:20", after := #[{ on := 0, ground := Go.Ground.data }], guard := Option.none })) (.one (.leaf (.int .i64))) (fun x4 => .br b3 (.drawn (.load qcl (.int .i64) (fun x5 => .load (qcl.add 1) (.int .i64) (fun x6 => .undrawn (.done (.returned (.tuple #[.int .i64 x5, .int .i64 x6, .int .i64 x4]))))))) (.done (.returned (.tuple #[.int .i64 (-1), .int .i64 (-1), .int .i64 (-1)]))))))) := by kernel_rfl
/-! the tree of function 1001 -/
def s30n : Script := .lit .nil
theorem t30n : fnT Tryz.prog Tryz.f30 #[.nilIface] s30n = .done (.returned (.tuple #[.int .i64 0, .int .i64 0, .int .i64 0])) := by kernel_rfl
/-! the tree of function 8 -/
def s8 : Script := .cl (.tup [.leaf (.int .i64), .leaf (.int .i64), .leaf (.int .i64)]) (.sym (.lit (.lit (.lit (.sym (.lit (.lit (.lit .nil))) (.lit (.lit (.lit .nil))))))) (.lit (.lit (.lit (.lit (.lit (.lit (.lit .nil))))))))
theorem t8 (qv0 : Value) (qx1 : Int) (qx2 : Int) (qx3 : Int) : fnT Tryz.prog Tryz.f8 #[qv0, .int .i64 qx1, .int .i64 qx2, .int .i64 qx3] s8 = .call 30 #[qv0] (.tup [.leaf (.int .i64), .leaf (.int .i64), .leaf (.int .i64)]) (fun r1 => .br (r1.fst == qx1) (.br (r1.snd.fst == qx2) (.done (.returned (.bool (r1.snd.snd.fst == qx3)))) (.done (.returned (.bool false)))) (.done (.returned (.bool false)))) := by kernel_rfl
/-! the tree of function 31 -/
abbrev fx31_1 (qa0 : Option Addr) (qn0 : Nat) (qc0 : Nat) (qa1 : Option Addr) (qn1 : Nat) (qc1 : Nat) : List (Tmp × Value) := [(0, .slice qa0 qn0 qc0), (1, .slice qa1 qn1 qc1)]
abbrev m31_1 : List (Tmp × Comp) := [(5, .leaf (.int .i64))]
abbrev mx31_1 : List (Tmp × Comp) := []
abbrev mr31_1 : List (Tmp × Comp) := [(4, .leaf .bool)]
def s31_1 : Script := .sym (.qt (.ix (.ld (.int .i64) (.ix (.ld (.int .i64) (.sym .nil .nil)))))) .nil
theorem t31_1 (qa0 : Option Addr) (qn0 : Nat) (qc0 : Nat) (qa1 : Option Addr) (qn1 : Nat) (qc1 : Nat) (x_5 : Int) (g : Nat → Value) : pieceT Tryz.prog (at_ Tryz.f31 [1, 1, 0, 1, 0, 0]) 26 (fx31_1 qa0 qn0 qc0 qa1 qn1 qc1 ++ mvals m31_1 (x_5, ())) g (m31_1.map (·.1)) (mx31_1.map (·.1)) (mr31_1.map (·.1)) s31_1 = .br (Decidable.decide (x_5 < (↑qn0 : Int))) (.drawn (.idx qa0 x_5 qn0 1 (fun a2 => .load a2 (.int .i64) (fun x3 => .idx qa1 x_5 qn1 1 (fun a4 => .load a4 (.int .i64) (fun x5 => .undrawn (.br (x3 != x5) (.fin .ret [(4, .bool false)]) (.fin .normal [(5, .int .i64 (IntKind.i64.wrap (x_5 + 1)))])))))))) (.fin (.exit 0) []) := by kernel_rfl
def s31 : Script := .sym .nil (.lp 0 [0, 1] [5] mx31_1 mr31_1 .nil .nil)
theorem t31 (qa0 : Option Addr) (qn0 : Nat) (qc0 : Nat) (qa1 : Option Addr) (qn1 : Nat) (qc1 : Nat) : fnT Tryz.prog Tryz.f31 #[.slice qa0 qn0 qc0, .slice qa1 qn1 qc1] s31 = .br ((↑qn0 : Int) != (↑qn1 : Int)) (.done (.returned (.bool false))) (.loop (at_ Tryz.f31 [1, 1, 0, 1, 0, 0]) 26 (fx31_1 qa0 qn0 qc0 qa1 qn1 qc1) [(5, .int .i64 0)] mx31_1 mr31_1 0 (fun u6 g6 => .done (.returned (.bool true))) (fun u7 g7 => .done (.returned (.bool u7.1)))) := by kernel_rfl
/-! the tree of function 9 -/
/-! ### Bytes that stand somewhere -/
def AtB (w : World) (p : Option Addr) (n : Nat) (bs : List UInt8) : Prop := bs.length = n ∧ (0 < n → ∃ ad, p = some ad ∧ ∀ (j : Nat) (u : UInt8), bs[j]? = some u → w.cell? (ad.add j) = some (.int .u8 u.toNat))
theorem foldl_push (l : List UInt8) : ∀ (s : ByteArray), (l.map fun b => ((b.toNat : Nat) : Int)).foldl (fun r n => r.push (UInt8.ofNat n.toNat)) s = ⟨s.data ++ l.toArray⟩ := by
  induction l with
  | nil => intro s; simp
  | cons b r ih =>
    intro s
    simp only [List.map_cons, List.foldl_cons]
    rw [ih]
    congr 1
    simp [ByteArray.push]
theorem run_conv {w : World} {p : Option Addr} {n c : Nat} {bs : List UInt8} (h : AtB w p n bs) : (vNext (convert tBytes 9 (.slice p n c))).run Tryz.prog w = .ok (.value (.string ⟨bs.toArray⟩)) w := by
  have key : (convert tBytes 9 (.slice p n c)).run Tryz.prog w = .ok (.string ⟨bs.toArray⟩) w := by
    rw [run_convert_bytes_string w tBytes 9 tByte p n c (by kernel_rfl) (by kernel_rfl) (by kernel_rfl)]
    cases p with
    | none =>
      have h0 : n = 0 := by
        rcases Nat.eq_zero_or_pos n with h0 | h0
        · exact h0
        · obtain ⟨_, e, _⟩ := h.2 h0
          cases e
      have : bs = [] := List.eq_nil_of_length_eq_zero (by rw [h.1, h0])
      subst this
      rfl
    | some ad =>
      have hl : (loadCells ad n).run Tryz.prog w = .ok (((bs.map fun b => ((b.toNat : Nat) : Int)).map (Value.int .u8))).toArray w := by
        have h2 := run_loadCells_list (P := Tryz.prog) w ad (Lib.byteCells bs) (fun j v hv => by
          simp only [Lib.byteCells, List.getElem?_map, Option.map_eq_some_iff] at hv
          obtain ⟨b, hb, rfl⟩ := hv
          have hlt := (List.getElem?_eq_some_iff.1 hb).1
          obtain ⟨ad', e, hj⟩ := h.2 (by have := h.1; omega)
          cases e
          exact hj j b hb)
        rw [Lib.byteCells_length, h.1] at h2
        rw [h2]
        simp [Lib.byteCells, Function.comp_def]
      rw [run_bytesToString w ad n c _ hl, foldl_push]
      congr 2
      simp
  unfold vNext
  simp only [Sem.run_bind, key, Result.andThen]
  rfl
theorem cv_b {R : Ending → World → Prop} {Q : Exit → List (Tmp × Value) → World → Prop} {md : Md} [hmd : md.Runs] {w : World} {k : ByteArray → T} {p : Option Addr} {n c : Nat} {bs : List UInt8} (h : AtB w p n bs) (hk : wpT Tryz.prog R Q (k (bytesL bs)) md w) : wpT Tryz.prog R Q (.run (vNext (convert tBytes 9 (.slice p n c))) (.one (.leaf .str)) k) md w := t_run (x := bytesL bs) (run_conv h) hk
/-! ### Ints and steps that stand somewhere -/
def AtI (w : World) (p : Option Addr) (n : Nat) (l : List Int) : Prop := l.length = n ∧ (0 < n → ∃ g o, p = some ⟨g, o, none⟩ ∧ ∀ (j : Nat) (x : Int), l[j]? = some x → w.cell? ⟨g, o + j, none⟩ = some (.int .i64 x))
theorem AtI.no {w w' : World} {p : Option Addr} {n : Nat} {l : List Int} (h : AtI w p n l) (hc : Ch No w w') : AtI w' p n l := ⟨h.1, fun hn => by
  obtain ⟨g, o, e, hj⟩ := h.2 hn
  exact ⟨g, o, e, fun j u hu => hc.cellv (hj j u hu) (fun h => h)⟩⟩
/-! ### What a fault tells -/
theorem told_nil (w : World) : Calls Tryz.prog 30 #[.nilIface] w fun e w' => e = .returned (.tuple #[.int .i64 0, .int .i64 0, .int .i64 0]) ∧ w' = w := by
  refine calls_of_fnT mixed Tryz.func30 (s := s30n) ?_
  rw [t30n]
  exact ⟨rfl, rfl⟩
theorem told_any (v : Value) (l a c : Int) (w : World) (h : ErrAt w v l a c) : Calls Tryz.prog 30 #[v] w fun e w' => e = .returned (.tuple #[.int .i64 l, .int .i64 a, .int .i64 c]) ∧ Ch No w w' := by
  obtain ⟨b, rfl, hb⟩ := h
  refine calls_of_fnT mixed Tryz.func30 (s := s30f) ?_
  rw [t30f]
  simp only [addr_add, Nat.zero_add]
  refine ld_any (hb.cell 2) ?_
  refine t_run (x := .tuple #[.int .i64 c, .bool true]) (w' := w) ?_ ?_
  · simp [vNext, Instr.typeAssert, go_sem, Tr.Shape.val, Tr.Comp.val, Tr.Leaf.val]
  refine t_run (x := true) (w' := w) rfl ?_
  refine t_run (x := c) (w' := w) rfl (br_true rfl ?_)
  refine dr_eq (lq_int (hb.cell 0) (lq_int (hb.cell 1) (un_eq ⟨rfl, (Ch.refl No w).drew⟩)))
theorem agrees_true (v : Value) (l a c : Int) (w : World) (h : ErrAt w v l a c) : Calls Tryz.prog 8 #[v, .int .i64 l, .int .i64 a, .int .i64 c] w fun e w' => e = .returned (.bool true) ∧ Ch No w w' := by
  refine calls_of_fnT mixed Tryz.func8 (s := s8) ?_
  rw [t8]
  refine cl_i (told_any v l a c w h) ?_
  rintro e w1 ⟨rfl, h1⟩
  refine ⟨(l, a, c, ()), rfl, br_true (by simp) (br_true (by simp) ⟨?_, h1⟩)⟩
  simp
end Go.Proofs.YtjlmkahagcojcaaGreatDoor
namespace Go.Proofs.YtjlmkahagcojcaaGreatDoor
open Go Tr
set_option maxRecDepth 100000
theorem sameInts_up (w : World) (p q : Option Addr) (n m c d : Nat) (l : List Int) (ha : AtI w p n l) (hb : AtI w q m l) (hn : n ≤ 2000000) :
    Calls Tryz.prog 31 #[.slice p n c, .slice q m d] w fun e w' => e = .returned (.bool true) ∧ Ch No w w' := by
  have hm : n = m := by have := ha.1; have := hb.1; omega
  subst hm
  refine calls_of_fnT mixed Tryz.func31 (s := s31) ?_
  rw [t31]
  refine br_false (by simp) ?_
  refine loop_i mixed m31_1 s31_1 (by kernel_rfl) (by kernel_rfl)
    (fun (v : Int × Unit) w' => 0 ≤ v.1 ∧ v.1 ≤ n ∧ Ch No w w') (fun (v : Int × Unit) _ => n - v.1.toNat) (0, ()) rfl ⟨by simp, by simp, Ch.refl _ _⟩ ?_
  rintro ⟨(i : Int), ⟨⟩⟩ g w1 ⟨(i0 : 0 ≤ i), (i1 : i ≤ n), h1⟩
  rw [t31_1]
  refine br_both (fun e => ?_) fun e => ?_
  · have hi : i < n := lt_t e
    have hl := ha.1
    obtain ⟨x, hx⟩ : ∃ u, l[i.toNat]? = some u := ⟨_, List.getElem?_eq_getElem (by omega)⟩
    obtain ⟨g1, o1, rfl, hc1⟩ := (ha.no h1.drew).2 (by omega)
    obtain ⟨g2, o2, rfl, hc2⟩ := (hb.no h1.drew).2 (by omega)
    refine dr_eq (ix_i i0 hi ?_)
    rw [addr_add, Nat.mul_one]
    refine lq_int (hc1 _ _ hx) (ix_i i0 hi ?_)
    rw [addr_add, Nat.mul_one]
    refine lq_int (hc2 _ _ hx) (un_eq (br_false (by simp) ?_))
    refine ⟨(i + 1, ()), ?_, ⟨by dsimp only; omega, by dsimp only; omega, h1.drew⟩, by dsimp only; omega⟩
    rw [wrap_succ i0 (by omega)]; rfl
  · exact ⟨rfl, (), rfl, fun g => ⟨rfl, h1⟩⟩
theorem agrees_nil (w : World) : Calls Tryz.prog 8 #[.nilIface, .int .i64 0, .int .i64 0, .int .i64 0] w fun e w' => e = .returned (.bool true) ∧ Ch No w w' := by
  refine calls_of_fnT mixed Tryz.func8 (s := s8) ?_
  rw [t8]
  refine cl_i (told_nil w) ?_
  rintro e w1 ⟨rfl, rfl⟩
  exact ⟨(0, 0, 0, ()), rfl, br_true rfl (br_true rfl ⟨rfl, Ch.refl _ _⟩)⟩
end Go.Proofs.YtjlmkahagcojcaaGreatDoor
