/- The document's answer: Print, CheckRecord, PrintTape: the walks. -/
import Derived.Test.YtjlmkahagcojcaaGreatDoorXc
namespace Go.Proofs.YtjlmkahagcojcaaGreatDoor.V
open Go Tr
set_option maxRecDepth 100000
/-! the tree of function 91 -/
abbrev fx91_12 (qa0 : Option Addr) (qn0 : Nat) (qc0 : Nat) (n6 : Nat) : List (Tmp × Value) := [(0, .slice qa0 qn0 qc0), (4, .string (bytesL [])), (5, .int .i64 0), (6, .pointer (some ⟨n6, 0, none⟩))]
abbrev m91_12 : List (Tmp × Comp) := [(7, .leaf .str), (8, .leaf (.int .i64)), (9, .leaf (.int .i64))]
abbrev mx91_12 : List (Tmp × Comp) := [(7, .leaf .str), (8, .leaf (.int .i64))]
abbrev mr91_12 : List (Tmp × Comp) := []
def s91_12 : Script := .ld (.int .i64) (.sym (.cl (.tup [.leaf .str, .leaf (.int .i64)]) (.sym (.nd (.nd .nil)) (.nd .nil))) .nil)
theorem t91_12 (qa0 : Option Addr) (qn0 : Nat) (qc0 : Nat) (n6 : Nat) (s_7 : ByteArray) (x_8 : Int) (x_9 : Int) (gg12 : Nat → Value) : pieceT Tryz.prog (at_ Tryz.f91 [1, 1, 1, 1, 1, 0, 1, 0, 0]) 61 (fx91_12 qa0 qn0 qc0 n6 ++ mvals m91_12 (s_7, x_8, x_9, ())) gg12 (m91_12.map (·.1)) (mx91_12.map (·.1)) (mr91_12.map (·.1)) s91_12 = .load ⟨n6, 3, none⟩ (.int .i64) (fun x13 => .br (Decidable.decide (x_9 < x13)) (.call 91 #[.slice qa0 qn0 qc0, .int .i64 x_8] (.tup [.leaf .str, .leaf (.int .i64)]) (fun r14 => .br (Decidable.decide (x_9 > 0)) (.need (Decidable.decide (s_7.size + (bytesL [44, 32]).size ≤ 9223372036854775807)) (.need (Decidable.decide ((s_7 ++ bytesL [44, 32]).size + r14.fst.size ≤ 9223372036854775807)) (.fin .normal [(7, .string (s_7 ++ bytesL [44, 32] ++ r14.fst)), (8, .int .i64 r14.2.1), (9, .int .i64 (IntKind.i64.wrap (x_9 + 1)))]))) (.need (Decidable.decide (s_7.size + r14.fst.size ≤ 9223372036854775807)) (.fin .normal [(7, .string (s_7 ++ r14.fst)), (8, .int .i64 r14.2.1), (9, .int .i64 (IntKind.i64.wrap (x_9 + 1)))])))) (.fin (.exit 1) [(7, .string s_7), (8, .int .i64 x_8)])) := by kernel_rfl
def s91 : Script := .ix (.ld (.int .i64) (.ld (.int .i64) (.ld .str (.ld (.int .i64) (.ld (.int .i64) (.sym .nil (.sym (.ld (.int .i64) (.cl (.one (.leaf .str)) .nil)) (.sym (.ld .str (.cl (.one (.leaf .str)) .nil)) (.lp 1 [0, 4, 5, 6] [7, 8, 9] mx91_12 mr91_12 (.nd .nil) .nil)))))))))
theorem t91 (qa0 : Option Addr) (qn0 : Nat) (qc0 : Nat) (qx1 : Int) : fnT Tryz.prog Tryz.f91 #[.slice qa0 qn0 qc0, .int .i64 qx1] s91 = .idx qa0 qx1 qn0 4 (fun a1 => .load a1 (.int .i64) (fun x2 => .load (a1.add 1) (.int .i64) (fun x3 => .load (a1.add 2) .str (fun s4 => .load (a1.add 3) (.int .i64) (fun x5 => .new (.cells #[.int .i64 0, .int .i64 0, .string (bytesL []), .int .i64 0] 208 (0, 0)) (fun n6 => .store ⟨n6, 0, none⟩ (.int .i64 x2) (.store ⟨n6, 1, none⟩ (.int .i64 x3) (.store ⟨n6, 2, none⟩ (.string s4) (.store ⟨n6, 3, none⟩ (.int .i64 x5) (.load ⟨n6, 0, none⟩ (.int .i64) (fun x7 => .br (x7 == 0) (.done (.returned (.tuple #[.string (bytesL [110, 111, 110, 101]), .int .i64 (IntKind.i64.wrap (qx1 + 1))]))) (.br (x7 == 1) (.load ⟨n6, 1, none⟩ (.int .i64) (fun x8 => .call 121 #[.int .i64 x8] (.one (.leaf .str)) (fun s9 => .done (.returned (.tuple #[.string s9, .int .i64 (IntKind.i64.wrap (qx1 + 1))]))))) (.br (x7 == 2) (.load ⟨n6, 2, none⟩ .str (fun s10 => .call 122 #[.string s10] (.one (.leaf .str)) (fun s11 => .done (.returned (.tuple #[.string s11, .int .i64 (IntKind.i64.wrap (qx1 + 1))]))))) (.loop (at_ Tryz.f91 [1, 1, 1, 1, 1, 0, 1, 0, 0]) 61 (fx91_12 qa0 qn0 qc0 n6) [(7, .string (bytesL [91])), (8, .int .i64 (IntKind.i64.wrap (qx1 + 1))), (9, .int .i64 0)] mx91_12 mr91_12 1 (fun u15 g15 => .need (Decidable.decide (u15.fst.size + (bytesL [93]).size ≤ 9223372036854775807)) (.done (.returned (.tuple #[.string (u15.fst ++ bytesL [93]), .int .i64 u15.2.1])))) (fun u16 g16 => .stuck))))))))))))))) := by kernel_rfl
/-! the tree of function 54 -/
def s54 : Script := .ld (.int .i64) (.ld (.int .i64) (.ld .str (.ld .sl (.cl (.one (.leaf .sl)) (.cl (.tup [.leaf .str, .leaf (.int .i64)]) .nil)))))
theorem t54 (qx0_0 : Int) (qx0_1 : Int) (qs0_2 : ByteArray) (qa0_3 : Option Addr) (qn0_3 : Nat) (qc0_3 : Nat) : fnT Tryz.prog Tryz.f54 #[.agg #[.int .i64 qx0_0, .int .i64 qx0_1, .string qs0_2, .slice qa0_3 qn0_3 qc0_3]] s54 = .new (.cells #[.int .i64 qx0_0, .int .i64 qx0_1, .string qs0_2, .slice qa0_3 qn0_3 qc0_3] 52 (0, 0)) (fun n1 => .load ⟨n1, 0, none⟩ (.int .i64) (fun x2 => .load ⟨n1, 1, none⟩ (.int .i64) (fun x3 => .load ⟨n1, 2, none⟩ .str (fun s4 => .load ⟨n1, 3, none⟩ .sl (fun l5 => .call 92 #[.agg #[.int .i64 x2, .int .i64 x3, .string s4, .slice l5.1 l5.2.1 l5.2.2]] (.one (.leaf .sl)) (fun l6 => .call 91 #[.slice l6.1 l6.2.1 l6.2.2, .int .i64 0] (.tup [.leaf .str, .leaf (.int .i64)]) (fun r7 => .done (.returned (.string r7.1))))))))) := by kernel_rfl
/-! the tree of function 53 -/
abbrev fx53_9 (n1 : Nat) : List (Tmp × Value) := [(1, .pointer (some ⟨n1, 0, none⟩))]
abbrev m53_9 : List (Tmp × Comp) := [(4, .leaf (.int .i64))]
abbrev mx53_9 : List (Tmp × Comp) := []
abbrev mr53_9 : List (Tmp × Comp) := [(2, .leaf (.int .i64))]
def s53_9 : Script := .ld .sl (.sym (.ld .sl (.ix (.ld (.int .i64) (.sym (.lit (.lit (.lit (.lit (.lit (.lit (.lit .nil))))))) (.lit (.ld .sl (.lit (.lit (.ix (.lit (.ld (.int .i64) (.lit (.lit (.sym .nil .nil)))))))))))))) .nil)
theorem t53_9 (n1 : Nat) (x_4 : Int) (gg9 : Nat → Value) : pieceT Tryz.prog (at_ Tryz.f53 [1, 1, 1, 1, 1, 0, 1, 0, 0]) 40 (fx53_9 n1 ++ mvals m53_9 (x_4, ())) gg9 (m53_9.map (·.1)) (mx53_9.map (·.1)) (mr53_9.map (·.1)) s53_9 = .load ⟨n1, 5, none⟩ .sl (fun l10 => .br (Decidable.decide (x_4 < (↑l10.snd.fst : Int))) (.load ⟨n1, 5, none⟩ .sl (fun l11 => .idx l11.1 x_4 l11.2.1 1 (fun a12 => .load a12 (.int .i64) (fun x13 => .br (Decidable.decide (x13 < 0)) (.fin .ret [(2, .int .i64 25)]) (.load ⟨n1, 5, none⟩ .sl (fun l14 => .idx l14.1 x_4 l14.2.1 1 (fun a15 => .load a15 (.int .i64) (fun x16 => .br (Decidable.decide (x16 > 9)) (.fin .ret [(2, .int .i64 25)]) (.fin .normal [(4, .int .i64 (IntKind.i64.wrap (x_4 + 1)))]))))))))) (.fin (.exit 0) [])) := by kernel_rfl
def s53 : Script := .ld .str (.sym .nil (.ld (.int .i64) (.ld (.int .i64) (.ld .str (.ld .sl (.cl (.one (.leaf (.int .i64))) (.sym .nil (.ld .sl (.sym .nil (.lp 0 [1] [4] mx53_9 mr53_9 .nil .nil))))))))))
theorem t53 (qs0_0 : ByteArray) (qx0_1 : Int) (qx0_2 : Int) (qs0_3 : ByteArray) (qa0_4 : Option Addr) (qn0_4 : Nat) (qc0_4 : Nat) (qa0_5 : Option Addr) (qn0_5 : Nat) (qc0_5 : Nat) : fnT Tryz.prog Tryz.f53 #[.agg #[.string qs0_0, .int .i64 qx0_1, .int .i64 qx0_2, .string qs0_3, .slice qa0_4 qn0_4 qc0_4, .slice qa0_5 qn0_5 qc0_5]] s53 = .new (.cells #[.string qs0_0, .int .i64 qx0_1, .int .i64 qx0_2, .string qs0_3, .slice qa0_4 qn0_4 qc0_4, .slice qa0_5 qn0_5 qc0_5] 54 (0, 0)) (fun n1 => .load ⟨n1, 0, none⟩ .str (fun s2 => .br (Decidable.decide ((↑s2.size : Int) > 12)) (.done (.returned (.int .i64 24))) (.load ⟨n1, 1, none⟩ (.int .i64) (fun x3 => .load ⟨n1, 2, none⟩ (.int .i64) (fun x4 => .load ⟨n1, 3, none⟩ .str (fun s5 => .load ⟨n1, 4, none⟩ .sl (fun l6 => .call 90 #[.agg #[.int .i64 x3, .int .i64 x4, .string s5, .slice l6.1 l6.2.1 l6.2.2]] (.one (.leaf (.int .i64))) (fun x7 => .br (x7 != 0) (.done (.returned (.int .i64 x7))) (.load ⟨n1, 5, none⟩ .sl (fun l8 => .br (Decidable.decide ((↑l8.snd.fst : Int) > 3)) (.done (.returned (.int .i64 25))) (.loop (at_ Tryz.f53 [1, 1, 1, 1, 1, 0, 1, 0, 0]) 40 (fx53_9 n1) [(4, .int .i64 0)] mx53_9 mr53_9 0 (fun u17 g17 => .done (.returned (.int .i64 0))) (fun u18 g18 => .done (.returned (.int .i64 u18.1)))))))))))))) := by kernel_rfl
/-! the tree of function 19 -/
abbrev fx19_1 (qa0 : Option Addr) (qn0 : Nat) (qc0 : Nat) : List (Tmp × Value) := [(0, .slice qa0 qn0 qc0)]
abbrev m19_1 : List (Tmp × Comp) := [(6, .leaf .str), (7, .leaf (.int .i64))]
abbrev mx19_1 : List (Tmp × Comp) := [(6, .leaf .str)]
abbrev mr19_1 : List (Tmp × Comp) := [(2, .leaf .str), (3, .leaf (.int .i64)), (4, .leaf (.int .i64)), (5, .leaf (.int .i64))]
abbrev fx19_2 (qa0 : Option Addr) (qn0 : Nat) (qc0 : Nat) (s_6 : ByteArray) (x_7 : Int) : List (Tmp × Value) := [(0, .slice qa0 qn0 qc0), (6, .string s_6), (7, .int .i64 x_7)]
abbrev mx19_2 : List (Tmp × Comp) := [(33, .leaf .bool)]
def s19_2 : Script := .ix (.ld .str (.ld (.int .i64) (.ld (.int .i64) (.ld .str (.ld .sl (.ld .sl (.cl (.one (.leaf (.int .i64))) (.sym (.lit (.lit (.lit (.lit (.lit (.lit (.lit .nil))))))) (.lit (.lit (.ix (.lit (.lit (.ld .sl (.lit (.lit (.lit .nil)))))))))))))))))
theorem t19_2 (qa0 : Option Addr) (qn0 : Nat) (qc0 : Nat) (s_6 : ByteArray) (x_7 : Int) (gg2 : Nat → Value) : pieceT Tryz.prog (at_ Tryz.f19 [1, 1, 1, 0, 1, 0, 0, 1, 0, 0, 0, 0]) 58 (fx19_2 qa0 qn0 qc0 s_6 x_7) gg2 (mx19_2.map (·.1)) [] [] s19_2 = .idx qa0 x_7 qn0 6 (fun a3 => .load a3 .str (fun s4 => .load (a3.add 1) (.int .i64) (fun x5 => .load (a3.add 2) (.int .i64) (fun x6 => .load (a3.add 3) .str (fun s7 => .load (a3.add 4) .sl (fun l8 => .load (a3.add 5) .sl (fun l9 => .call 53 #[.agg #[.string s4, .int .i64 x5, .int .i64 x6, .string s7, .slice l8.1 l8.2.1 l8.2.2, .slice l9.1 l9.2.1 l9.2.2]] (.one (.leaf (.int .i64))) (fun x10 => .br (x10 != 0) (.fin .normal [(33, .bool true)]) (.idx qa0 x_7 qn0 6 (fun a11 => .load (a11.add 5) .sl (fun l12 => .fin .normal [(33, .bool (Decidable.decide ((↑l12.snd.fst : Int) > 0)))]))))))))))) := by kernel_rfl
def s19_1 : Script := .sym (.ct 2 [0, 6, 7] mx19_2 (.sym .nil (.ix (.ld .str (.cl (.one (.leaf .str)) (.ix (.ld (.int .i64) (.ld (.int .i64) (.ld .str (.ld .sl (.cl (.one (.leaf .str)) (.nd (.nd (.nd (.nd .nil))))))))))))))) .nil
theorem t19_1 (qa0 : Option Addr) (qn0 : Nat) (qc0 : Nat) (s_6 : ByteArray) (x_7 : Int) (gg1 : Nat → Value) : pieceT Tryz.prog (at_ Tryz.f19 [1, 1, 1, 0, 1, 0, 0]) 58 (fx19_1 qa0 qn0 qc0 ++ mvals m19_1 (s_6, x_7, ())) gg1 (m19_1.map (·.1)) (mx19_1.map (·.1)) (mr19_1.map (·.1)) s19_1 = .br (Decidable.decide (x_7 < (↑qn0 : Int))) (.cut (at_ Tryz.f19 [1, 1, 1, 0, 1, 0, 0, 1, 0, 0, 0, 0]) 58 (fx19_2 qa0 qn0 qc0 s_6 x_7) mx19_2 (fun u13 g13 => .br u13.1 (.fin .ret [(2, .string (bytesL [])), (3, .int .i64 0), (4, .int .i64 0), (5, .int .i64 68)]) (.idx qa0 x_7 qn0 6 (fun a14 => .load a14 .str (fun s15 => .call 54 #[.agg #[.int .i64 2, .int .i64 0, .string s15, .slice none 0 0]] (.one (.leaf .str)) (fun s16 => .idx qa0 x_7 qn0 6 (fun a17 => .load (a17.add 1) (.int .i64) (fun x18 => .load ((a17.add 1).add 1) (.int .i64) (fun x19 => .load ((a17.add 1).add 2) .str (fun s20 => .load ((a17.add 1).add 3) .sl (fun l21 => .call 54 #[.agg #[.int .i64 x18, .int .i64 x19, .string s20, .slice l21.1 l21.2.1 l21.2.2]] (.one (.leaf .str)) (fun s22 => .need (Decidable.decide (s_6.size + s16.size ≤ 9223372036854775807)) (.need (Decidable.decide ((s_6 ++ s16).size + (bytesL [32]).size ≤ 9223372036854775807)) (.need (Decidable.decide ((s_6 ++ s16 ++ bytesL [32]).size + s22.size ≤ 9223372036854775807)) (.need (Decidable.decide ((s_6 ++ s16 ++ bytesL [32] ++ s22).size + (bytesL [10]).size ≤ 9223372036854775807)) (.fin .normal [(6, .string (s_6 ++ s16 ++ bytesL [32] ++ s22 ++ bytesL [10])), (7, .int .i64 (IntKind.i64.wrap (x_7 + 1)))])))))))))))))))) (.fin (.exit 0) [(6, .string s_6)]) := by kernel_rfl
def s19 : Script := .sym .nil (.lp 0 [0] [6, 7] mx19_1 mr19_1 (.sym .nil .nil) .nil)
theorem t19 (qa0 : Option Addr) (qn0 : Nat) (qc0 : Nat) : fnT Tryz.prog Tryz.f19 #[.slice qa0 qn0 qc0] s19 = .br (Decidable.decide ((↑qn0 : Int) > 64)) (.done (.returned (.tuple #[.string (bytesL []), .int .i64 0, .int .i64 0, .int .i64 68]))) (.loop (at_ Tryz.f19 [1, 1, 1, 0, 1, 0, 0]) 58 (fx19_1 qa0 qn0 qc0) [(6, .string (bytesL [])), (7, .int .i64 0)] mx19_1 mr19_1 0 (fun u23 g23 => .br (Decidable.decide ((↑u23.fst.size : Int) > 4000)) (.done (.returned (.tuple #[.string (bytesL []), .int .i64 0, .int .i64 0, .int .i64 68]))) (.done (.returned (.tuple #[.string u23.1, .int .i64 0, .int .i64 0, .int .i64 0])))) (fun u24 g24 => .done (.returned (.tuple #[.string u24.1, .int .i64 u24.2.1, .int .i64 u24.2.2.1, .int .i64 u24.2.2.2.1])))) := by kernel_rfl
theorem printT_len (a b : List VT) : (printT a).length ≤ (printT (a ++ b)).length := by rw [printT_app, List.length_append]; omega
theorem printL_len (l : List VT) (i : Nat) : (printL (l.take i)).length ≤ (printL l).length := by
  cases l with
  | nil => simp [printL]
  | cons x l =>
    cases i with
    | zero => simp [printL]
    | succ i =>
      rw [List.take_succ_cons]
      simp only [printL, List.length_append]
      have := printT_len (l.take i) (l.drop i)
      rw [List.take_append_drop] at this
      omega
theorem show_any (k : Nat) : ∀ (x : VT) (L rst : List PartM) (i : Nat) (q : Option Addr) (t d : Nat) (w : World), SizeOf.sizeOf x < k → Good x → Fit x → (printV x).length ≤ 2000 → L.drop i = flatP x ++ rst → L.length ≤ 100000 → AtP w q t L →
    Calls Tryz.prog 91 #[.slice q t d, .int .i64 (i : Int)] w fun e w' => e = .returned (.tuple #[.string (bytesL (printV x)), .int .i64 ((i + (flatP x).length : Nat) : Int)]) ∧ Ch No w w' := by
  induction k with
  | zero => intro x L rst i q t d w h; omega
  | succ k ih =>
    intro x L rst i q t d w hk hg hf hpl hd hL ha
    refine calls_of_fnT mixed Tryz.func91 (s := s91) ?_
    rw [t91]
    have htl := ha.1
    have hget : L[i]? = some ⟨x.kind, x.int, x.text, x.items.length⟩ := by
      have : (L.drop i)[0]? = some ⟨x.kind, x.int, x.text, x.items.length⟩ := by rw [hd, flatP_def]; rfl
      rwa [List.getElem?_drop, Nat.add_zero] at this
    have hil := (List.getElem?_eq_some_iff.1 hget).1
    obtain ⟨g, o, rfl, hc⟩ := ha.2 (by omega)
    obtain ⟨c0, c1, c2, c3⟩ := hc i _ hget
    refine ix_i (by omega) (by omega) ?_
    rw [Int.toNat_natCast, addr_add]
    refine ld_int c0 ?_
    rw [addr_add]
    refine ld_int c1 ?_
    rw [addr_add]
    refine ld_str c2 ?_
    rw [addr_add]
    refine ld_int c3 ?_
    refine nw fun w1 h1 z1 b1 => st_blk b1 (by simp) rfl fun w2 h2 z2 b2 => st_blk b2 (by simp) rfl fun w3 h3 z3 b3 => st_blk b3 (by simp) rfl fun w4 h4 z4 b4 => st_blk b4 (by simp) rfl fun w5 h5 z5 b5 => ?_
    have H5 : Ch No w w5 := h1.then_ (h2.trans (h3.trans (h4.trans h5))) (fun k hk (e : k = _) => by omega)
    replace b5 : Blk w5 w.heap.size [.int .i64 x.kind, .int .i64 x.int, .string x.text, .int .i64 (x.items.length : Int)] 208 := b5
    have hw1 : IntKind.i64.wrap ((i : Int) + 1) = ((i + 1 : Nat) : Int) := wrap_succ (by omega) (by omega)
    rw [hw1]
    rw [Good_def] at hg
    obtain ⟨x0, x3, xi, xs, xl, xt, xn, xg⟩ := hg
    rw [Fit_def] at hf
    have hpv := printV_def x
    have hfl : x.kind ≠ 3 → (flatP x).length = 1 := fun h => by rw [flatP_def, xl h]; rfl
    refine ld_int (b5.cell 0) (br_both (fun e => ?_) fun e0 => br_both (fun e => ?_) fun e1 => br_both (fun e => ?_) fun e2 => ?_)
    · have e : x.kind = 0 := eq_t e
      rw [if_pos e] at hpv
      rw [hpv, hfl (by omega)]
      exact ⟨rfl, H5⟩
    · have e0 := eq_f e0
      have e : x.kind = 1 := eq_t e
      rw [if_neg e0, if_pos e] at hpv
      refine ld_int (b5.cell 1) (cl_i (decimal_any _ x.int w5 (Nat.lt_succ_self _) hf.2.1) ?_)
      rintro e' w6 ⟨rfl, rfl⟩
      rw [hpv, hfl (by omega)]
      exact ⟨_, rfl, rfl, H5⟩
    · have e0 := eq_f e0
      have e1 := eq_f e1
      have e : x.kind = 2 := eq_t e
      rw [if_neg e0, if_neg e1, if_pos e] at hpv
      refine ld_str (b5.cell 2) (cl_i (quote2_any x.text w5 (by omega)) ?_)
      rintro e' w6 ⟨rfl, h6⟩
      rw [hpv, hfl (by omega)]
      exact ⟨_, rfl, rfl, H5.trans h6⟩
    have e0 := eq_f e0
    have e1 := eq_f e1
    have e2 := eq_f e2
    rw [if_neg e0, if_neg e1, if_neg e2, if_pos (by omega)] at hpv
    have hpl2 : (printL x.items).length + 2 ≤ 2000 := by
      rw [hpv] at hpl
      simp only [List.length_cons, List.length_append, List.length_nil] at hpl
      omega
    have hd1 : L.drop (i + 1) = flatL x.items ++ rst := by
      have : (L.drop i).drop 1 = flatL x.items ++ rst := by rw [hd, flatP_def]; rfl
      rwa [List.drop_drop] at this
    have htot : (flatP x).length = 1 + (flatL x.items).length := by rw [flatP_def, List.length_cons]; omega
    have hlt : i + (flatP x).length ≤ L.length := by
      have := congrArg List.length hd
      rw [List.length_drop, List.length_append] at this
      omega
    refine loop_i mixed m91_12 s91_12 (by kernel_rfl) (by kernel_rfl)
      (fun (v : ByteArray × Int × Int × Unit) w' => Ch No w5 w' ∧ ∃ j : Nat, v.1 = bytesL (91 :: printL (x.items.take j)) ∧ v.2.1 = ((i + 1 + (flatL (x.items.take j)).length : Nat) : Int) ∧ v.2.2.1 = j ∧ j ≤ x.items.length)
      (fun (v : ByteArray × Int × Int × Unit) _ => x.items.length - v.2.2.1.toNat) (bytesL [91], ((i + 1 : Nat) : Int), 0, ()) rfl ⟨Ch.refl _ _, 0, rfl, rfl, rfl, by omega⟩ ?_
    intro v g w6 hv
    obtain ⟨va, vb, vc, ⟨⟩⟩ := v
    dsimp only at hv
    obtain ⟨h6, j, rfl, rfl, rfl, hj⟩ := hv
    rw [t91_12]
    have B6 := b5.ch h6 (fun h => h)
    have H6 := H5.trans h6
    refine ld_int (B6.cell 3) (br_both (fun e => ?_) fun e => ?_)
    · have hjl : j < x.items.length := by have := lt_t e; omega
      obtain ⟨y, hy⟩ : ∃ u, x.items[j]? = some u := ⟨_, List.getElem?_eq_getElem (by omega)⟩
      have hgy := GoodL_mem xg y (List.mem_of_getElem? hy)
      have hfy := FitL_get hf.2.2.2 hy
      have hpt := printL_take hy
      have hpn := printL_len x.items (j + 1)
      rw [hpt, List.length_append, List.length_append] at hpn
      have hdr : L.drop (i + 1 + (flatL (x.items.take j)).length) = flatP y ++ (flatL (x.items.drop (j + 1)) ++ rst) := by
        rw [← List.drop_drop, hd1]
        have e1 : flatL x.items = flatL (x.items.take j) ++ (flatP y ++ flatL (x.items.drop (j + 1))) := by
          obtain ⟨hlt', hye⟩ := List.getElem?_eq_some_iff.1 hy
          have : x.items.drop j = y :: x.items.drop (j + 1) := by rw [List.drop_eq_getElem_cons hlt', hye]
          conv => lhs; rw [← List.take_append_drop j x.items, flatL_app, this]
          rfl
        rw [e1, List.append_assoc, List.drop_left, List.append_assoc]
      refine cl_i (ih y L _ _ _ t d w6 (by have := VT.size_lt hy; omega) hgy hfy (by omega) hdr hL (ha.no H6)) ?_
      rintro e' w7 ⟨rfl, h7⟩
      refine ⟨(bytesL (printV y), ((i + 1 + (flatL (x.items.take j)).length + (flatP y).length : Nat) : Int), ()), rfl, ?_⟩
      have hflt : (flatL (x.items.take (j + 1))).length = (flatL (x.items.take j)).length + (flatP y).length := by
        rw [List.take_add_one, hy, flatL_app, List.length_append]
        simp [flatL]
      have hwj : IntKind.i64.wrap ((j : Int) + 1) = ((j + 1 : Nat) : Int) := wrap_succ (by omega) (by omega)
      rw [hwj]
      simp only [bl_cat]
      have nxt : ∀ (T : ByteArray), T = bytesL (91 :: printL (x.items.take (j + 1))) → ∃ v' : MVars m91_12, [((7 : Nat), Value.string T), (8, .int .i64 ((i + 1 + (flatL (x.items.take j)).length + (flatP y).length : Nat) : Int)), (9, .int .i64 ((j + 1 : Nat) : Int))] = mvals m91_12 v' ∧
          (Ch No w5 w7 ∧ ∃ j : Nat, v'.1 = bytesL (91 :: printL (x.items.take j)) ∧ v'.2.1 = ((i + 1 + (flatL (x.items.take j)).length : Nat) : Int) ∧ v'.2.2.1 = j ∧ j ≤ x.items.length) ∧ x.items.length - v'.2.2.1.toNat < x.items.length - (j : Int).toNat := fun T hT =>
        ⟨(T, ((i + 1 + (flatL (x.items.take j)).length + (flatP y).length : Nat) : Int), ((j + 1 : Nat) : Int), ()), rfl, ⟨h6.trans h7, j + 1, hT, by dsimp only; rw [hflt]; congr 1; omega, rfl, by omega⟩, by dsimp only; omega⟩
      refine br_both (fun e => ?_) fun e => ?_
      · have e : j > 0 := by have := gt_t e; omega
        refine nd_i (decide_eq_true (by simp only [tb_size, List.length_cons, List.length_append, List.length_nil]; omega)) (nd_i (decide_eq_true (by simp only [tb_size, List.length_cons, List.length_append, List.length_nil]; omega)) (nxt _ ?_))
        rw [hpt, if_pos e]
        simp
      · have e : ¬ j > 0 := by have := gt_f e; omega
        refine nd_i (decide_eq_true (by simp only [tb_size, List.length_cons, List.length_append, List.length_nil]; omega)) (nxt _ ?_)
        rw [hpt, if_neg e]
        simp
    · have hjl : j = x.items.length := by have := lt_f e; omega
      refine ⟨rfl, (bytesL (91 :: printL (x.items.take j)), ((i + 1 + (flatL (x.items.take j)).length : Nat) : Int), ()), rfl, fun g => ?_⟩
      dsimp only
      rw [bl_cat, List.take_of_length_le (by omega)]
      refine nd_i (decide_eq_true (by simp only [tb_size, List.length_cons, List.length_append, List.length_nil]; omega)) ⟨?_, H6⟩
      rw [hpv, htot, show i + (1 + (flatL x.items).length) = i + 1 + (flatL x.items).length by omega]
      rfl
theorem flat_count (k : Nat) : ∀ (x : VT) (n depth : Int), SizeOf.sizeOf x < k → (partV n depth x).1 = 0 → (partV n depth x).2 = n + (flatP x).length := by
  induction k with
  | zero => intro x n depth h; omega
  | succ k ih =>
    intro x n depth hk h
    have key : ∀ (l : List VT) (n : Int), (∀ z ∈ l, SizeOf.sizeOf z < k) → (partL n depth l).1 = 0 → (partL n depth l).2 = n + (flatL l).length := by
      intro l
      induction l with
      | nil => intro n _ _; simp [partL, flatL]
      | cons z r ihl =>
        intro n hz h
        simp only [partL] at h ⊢
        by_cases he : (partV n (depth + 1) z).1 = 0
        · rw [if_neg (fun h => h he)] at h ⊢
          rw [ihl _ (fun u hu => hz u (.tail _ hu)) h, ih z n (depth + 1) (hz z (.head _)) he]
          simp only [flatL, List.length_append]
          omega
        · rw [if_pos he] at h
          exact absurd h he
    rw [partV_def] at h ⊢
    by_cases c1 : n + 1 > 12
    · rw [if_pos c1] at h; simp at h
    rw [if_neg c1] at h ⊢
    by_cases c2 : x.kind < 0 ∨ x.kind > 3
    · rw [if_pos c2] at h; simp at h
    rw [if_neg c2] at h ⊢
    by_cases c3 : (x.int ≠ 0 ∧ x.kind ≠ 1) ∨ (x.text.toList ≠ [] ∧ x.kind ≠ 2) ∨ (0 < x.items.length ∧ x.kind ≠ 3)
    · rw [if_pos c3] at h; simp at h
    rw [if_neg c3] at h ⊢
    by_cases c4 : x.kind = 3 ∧ depth ≥ 3
    · rw [if_pos c4] at h; simp at h
    rw [if_neg c4] at h ⊢
    by_cases c5 : x.text.size > 24
    · rw [if_pos c5] at h; simp at h
    rw [if_neg c5] at h ⊢
    by_cases c6 : x.items.length > 6
    · rw [if_pos c6] at h; simp at h
    rw [if_neg c6] at h ⊢
    have hi := fun z hz => items_lt (x := x) (z := z) hz
    rw [key x.items (n + 1) (fun z hz => by have := hi z hz; omega) h, flatP_def, List.length_cons]
    omega
theorem flatP_len (x : VT) : (flatP (validV x)).length ≤ 100000 := by
  have h := validV_check x
  have h1 := flat_count _ (validV x) 0 0 (Nat.lt_succ_self _) h
  have h2 := (partV_bound (validV x) 0 0 (by omega) (by omega)).2.1
  omega
/-- Print. -/
theorem print2_any (x : VT) (p : Option Addr) (m c : Nat) (w : World) (hx : IsV w x p m c) (hf : Fit x) :
    Calls Tryz.prog 54 #[valV x p m c] w fun e w' => e = .returned (.string (bytesL (printTxt x))) ∧ Ch No w w' := by
  refine calls_of_fnT mixed Tryz.func54 (s := s54) ?_
  unfold valV
  rw [t54]
  refine nw fun w1 h1 z1 (B : Blk w1 _ (cellsV x p m c) 52) => ?_
  refine ld_v B (cl_i (parts_any x p m c w1 (hx.no h1)) ?_)
  rintro e w2 ⟨h2, q, t, d, rfl, ha⟩
  refine ⟨(q, t, d), rfl, ?_⟩
  have hlen : (flatP (validV x)).length ≤ 100000 := flatP_len x
  refine cl_i (show_any _ (validV x) (flatP (validV x)) [] 0 q t d w2 (Nat.lt_succ_self _) (validV_good x) (validV_fit hf) (txt_len x hf) (by simp) hlen ha) ?_
  rintro e w3 ⟨rfl, h3⟩
  exact ⟨(_, _, ()), rfl, rfl, (h1.trans h2).trans h3⟩
theorem crec2_any (r : RecM) (vq : Option Addr) (vn vc : Nat) (kp : Option Addr) (kn kc : Nat) (w : World) (hv : IsV w r.val vq vn vc) (hk : AtI w kp kn r.loops) :
    Calls Tryz.prog 53 #[.agg #[.string r.key, .int .i64 r.val.kind, .int .i64 r.val.int, .string r.val.text, .slice vq vn vc, .slice kp kn kc]] w fun e w' => e = .returned (.int .i64 (checkRec r)) ∧ Ch No w w' := by
  refine calls_of_fnT mixed Tryz.func53 (s := s53) ?_
  rw [t53]
  refine nw fun w1 h1 z1 b1 => ?_
  unfold checkRec
  refine ld_str (b1.cell 0) (br_both (fun e => ?_) fun e => ?_)
  · have e := gt_t e
    rw [if_pos (by omega)]
    exact ⟨rfl, h1⟩
  have e := gt_f e
  rw [if_neg (by omega)]
  refine ld_int (b1.cell 1) (ld_int (b1.cell 2) (ld_str (b1.cell 3) (ld_sl (b1.cell 4) ?_)))
  refine cl_i (chk2_any r.val vq vn vc w1 (hv.no h1)) ?_
  rintro e' w2 ⟨rfl, h2⟩
  have b2 := b1.ch h2 (fun h => h)
  have H2 := h1.trans h2
  refine ⟨_, rfl, br_both (fun e => ?_) fun e => ?_⟩
  · rw [if_pos (ne_t e)]
    exact ⟨rfl, H2⟩
  rw [if_neg (fun h => h (ne_f e))]
  have hkl := hk.1
  refine ld_sl (b2.cell 5) ?_
  dsimp only
  refine br_both (fun e => ?_) fun e => ?_
  · have e := gt_t e
    rw [if_pos (by omega)]
    exact ⟨rfl, H2⟩
  have e := gt_f e
  rw [if_neg (by omega)]
  refine loop_i mixed m53_9 s53_9 (by kernel_rfl) (by kernel_rfl)
    (fun (v : Int × Unit) w' => w' = w2 ∧ ∃ i : Nat, v.1 = i ∧ i ≤ kn ∧ (r.loops.take i).all (fun n => decide (0 ≤ n ∧ n ≤ 9)) = true) (fun (v : Int × Unit) _ => kn - v.1.toNat) (0, ()) rfl ⟨rfl, 0, rfl, by omega, rfl⟩ ?_
  rintro ⟨_, ⟨⟩⟩ g w3 ⟨rfl, i, rfl, hi, hall⟩
  rw [t53_9]
  refine ld_sl (b2.cell 5) ?_
  dsimp only
  refine br_both (fun e => ?_) fun e => ?_
  · have hin : i < kn := by
      have : (i : Int) < (kn : Int) := lt_t e
      omega
    obtain ⟨g1, o1, rfl, hc⟩ := hk.2 (by omega)
    obtain ⟨x, hx⟩ : ∃ u, r.loops[i]? = some u := ⟨_, List.getElem?_eq_getElem (by omega)⟩
    have bad : ¬ (0 ≤ x ∧ x ≤ 9) → ¬ r.loops.all (fun n => decide (0 ≤ n ∧ n ≤ 9)) = true := fun hb h => hb (of_decide_eq_true (List.all_eq_true.1 h x (List.mem_of_getElem? hx)))
    refine ld_sl (b2.cell 5) ?_
    dsimp only
    refine ix_i (by omega) (by omega) ?_
    rw [addr_add, Int.toNat_natCast, Nat.mul_one]
    refine ld_int (H2.cellv (hc i x hx) (fun h => h)) (br_both (fun e => ?_) fun e1 => ?_)
    · have e := lt_t e
      refine ⟨(25, ()), rfl, fun g => ⟨?_, H2⟩⟩
      rw [if_neg (bad (by omega))]
    refine ld_sl (b2.cell 5) ?_
    dsimp only
    refine ix_i (by omega) (by omega) ?_
    rw [addr_add, Int.toNat_natCast, Nat.mul_one]
    refine ld_int (H2.cellv (hc i x hx) (fun h => h)) (br_both (fun e => ?_) fun e2 => ?_)
    · have e := gt_t e
      refine ⟨(25, ()), rfl, fun g => ⟨?_, H2⟩⟩
      rw [if_neg (bad (by omega))]
    · have e1 := lt_f e1
      have e2 := gt_f e2
      have hw : IntKind.i64.wrap ((i : Int) + 1) = ((i + 1 : Nat) : Int) := wrap_succ (by omega) (by omega)
      rw [hw]
      refine ⟨(((i + 1 : Nat) : Int), ()), rfl, ⟨rfl, i + 1, rfl, by omega, ?_⟩, by dsimp only; omega⟩
      rw [List.take_add_one, hx]
      simp only [List.all_append, hall, Option.toList_some, List.all_cons, List.all_nil, Bool.and_true, Bool.true_and]
      exact decide_eq_true ⟨e1, e2⟩
  · have hin : i = kn := by
      have : (kn : Int) ≤ (i : Int) := lt_f e
      omega
    refine ⟨rfl, (), rfl, fun g => ⟨?_, H2⟩⟩
    rw [List.take_of_length_le (by omega)] at hall
    rw [if_pos hall]
/-- PrintTape, the document's. -/
theorem ptape2_print (p : Option Addr) (n c : Nat) (l : List RecM) (w : World) (ha : AtT w p n l) (hf : ∀ r ∈ l, Fit r.val) :
    Calls Tryz.prog 19 #[.slice p n c] w fun e w' => Ch No w w' ∧ match printTp l with
      | some t => e = .returned (.tuple #[.string (bytesL t), .int .i64 0, .int .i64 0, .int .i64 0])
      | none => e = .returned (.tuple #[.string (bytesL []), .int .i64 0, .int .i64 0, .int .i64 68]) := by
  refine calls_of_fnT mixed Tryz.func19 (s := s19) ?_
  rw [t19]
  have hl := ha.1
  have hps : printTp l = if 64 < l.length then none else match recsTxt l with
    | none => none
    | some t => if 4000 < t.length then none else some t := rfl
  refine br_both (fun e => ?_) fun e => ?_
  · have e : 64 < n := by have := gt_t e; omega
    rw [if_pos (by omega)] at hps
    rw [hps]
    exact ⟨Ch.refl _ _, rfl⟩
  have e : n ≤ 64 := by have := gt_f e; omega
  rw [if_neg (by omega)] at hps
  refine loop_i mixed m19_1 s19_1 (by kernel_rfl) (by kernel_rfl)
    (fun (v : ByteArray × Int × Unit) w' => Ch No w w' ∧ ∃ (i : Nat) (bs : List UInt8), v.1 = bytesL bs ∧ v.2.1 = i ∧ i ≤ n ∧ bs.length ≤ i * 10000 ∧ recsTxt l = (recsTxt (l.drop i)).map (bs ++ ·)) (fun (v : ByteArray × Int × Unit) _ => n - v.2.1.toNat) (bytesL [], 0, ()) rfl ⟨Ch.refl _ _, 0, [], rfl, rfl, by omega, by simp, by simp⟩ ?_
  intro v g w2 hv
  obtain ⟨va, vb, ⟨⟩⟩ := v
  dsimp only at hv
  obtain ⟨h2, i, bs, rfl, rfl, hi, hbl, hp⟩ := hv
  rw [t19_1]
  refine br_both (fun e => ?_) fun e => ?_
  · have hin : i < n := by have := lt_t e; omega
    obtain ⟨r, hr⟩ : ∃ u, l[i]? = some u := ⟨_, List.getElem?_eq_getElem (by omega)⟩
    obtain ⟨hlt, hre⟩ := List.getElem?_eq_some_iff.1 hr
    have hdr : l.drop i = r :: l.drop (i + 1) := by rw [List.drop_eq_getElem_cons hlt, hre]
    rw [hdr, recsTxt_cons] at hp
    have hfr := hf r (List.mem_of_getElem? hr)
    obtain ⟨ad, rfl, hc⟩ := ha.2 (by omega)
    obtain ⟨vq, vn, vc, kp, kn, kc, c0, cv, c5, hI, hK⟩ := hc i r hr
    obtain ⟨c1, c2, c3, c4⟩ := add_add6 cv
    have rd : ∀ {a : Addr} {v : Value} {w' : World}, Ch No w2 w' → w.cell? a = some v → w'.cell? a = some v := fun hc h => (h2.trans hc).cellv h (fun h => h)
    have ix : ∀ {f : Addr → T} {w' : World} {R : Ending → World → Prop} {Q : Exit → List (Tmp × Value) → World → Prop}, wpT Tryz.prog R Q (f (ad.add (i * 6))) .pl w' → wpT Tryz.prog R Q (.idx (some ad) (i : Int) n 6 f) .pl w' := fun h => ix_i (by omega) (by omega) (by rw [Int.toNat_natCast]; exact h)
    refine cut_i mixed s19_2 (fun (v : Bool × Unit) w' => Ch No w2 w' ∧ v.1 = decide (checkRec r ≠ 0 ∨ 0 < r.loops.length)) (by kernel_rfl) (fun g => ?_) ?_
    · rw [t19_2]
      have r0 := Ch.refl No w2
      refine ix (ld_str (rd r0 c0) (ld_int (rd r0 c1) (ld_int (rd r0 c2) (ld_str (rd r0 c3) (ld_sl (rd r0 c4) (ld_sl (rd r0 c5) ?_))))))
      refine cl_i (crec2_any r vq vn vc kp kn kc w2 (hI.no h2) (hK.no h2)) ?_
      rintro e' w10 ⟨rfl, h10⟩
      refine ⟨_, rfl, br_both (fun e => ?_) fun e => ?_⟩
      · exact ⟨rfl, (true, ()), rfl, h10, (decide_eq_true (.inl (ne_t e))).symm⟩
      · refine ix (ld_sl (rd h10 c5) ⟨rfl, (decide ((kn : Int) > 0), ()), rfl, h10, ?_⟩)
        have e := ne_f e
        have hkl := hK.1
        dsimp only
        rw [decide_eq_decide]
        exact ⟨fun h => .inr (by omega), fun h => by
          rcases h with h | h
          · exact absurd e h
          · omega⟩
    rintro ⟨u, ⟨⟩⟩ g w3 ⟨h3, hu⟩
    dsimp only at hu
    subst hu
    refine br_both (fun e => ?_) fun e => ?_
    · have e := of_decide_eq_true e
      refine ⟨(bytesL [], 0, 0, 68, ()), rfl, fun g => ⟨h2.trans h3, ?_⟩⟩
      have hp : recsTxt l = none := by
        rw [hp]
        by_cases h1 : checkRec r ≠ 0
        · rw [if_pos h1]; rfl
        · rw [if_neg h1, if_pos (e.resolve_left h1)]; rfl
      rw [hps, hp]
    have e := of_decide_eq_false e
    have hck : checkRec r = 0 := Decidable.byContradiction fun h => e (.inl h)
    rw [if_neg (fun h => h hck), if_neg (fun h => e (.inr h))] at hp
    obtain ⟨hk12, hv0⟩ := check_rec hck
    have kf : Fit (keyV r.key) := keyV_fit (by omega)
    have tl1 := txt_len _ kf
    have tl2 := txt_len _ hfr
    refine ix (ld_str (rd h3 c0) ?_)
    refine cl_i (print2_any (keyV r.key) none 0 0 w3 ⟨Nat.le_refl _, by omega, by rw [RIt_def]; exact ⟨rfl, fun h => by omega⟩⟩ kf) ?_
    rintro e' w4 ⟨rfl, h4⟩
    have h34 := h3.trans h4
    refine ⟨_, rfl, ix (ld_int (rd h34 c1) ?_)⟩
    refine ld_int (rd h34 (by rw [add_add]; exact c2)) (ld_str (rd h34 (by rw [add_add]; exact c3)) (ld_sl (rd h34 (by rw [add_add]; exact c4)) ?_))
    refine cl_i (print2_any r.val vq vn vc w4 (hI.no (h2.trans h34)) hfr) ?_
    rintro e' w5 ⟨rfl, h5⟩
    refine ⟨_, rfl, ?_⟩
    simp only [bl_cat]
    have hw : IntKind.i64.wrap ((i : Int) + 1) = ((i + 1 : Nat) : Int) := wrap_succ (by omega) (by omega)
    rw [hw]
    have hb64 : i * 10000 ≤ 64 * 10000 := Nat.mul_le_mul_right _ (by omega)
    refine nd_i (decide_eq_true (by simp only [tb_size, List.length_append]; omega)) (nd_i (decide_eq_true (by simp only [tb_size, List.length_append, List.length_cons, List.length_nil]; omega)) (nd_i (decide_eq_true (by simp only [tb_size, List.length_append, List.length_cons, List.length_nil]; omega)) (nd_i (decide_eq_true (by simp only [tb_size, List.length_append, List.length_cons, List.length_nil]; omega)) ?_)))
    have hrt : bs ++ printTxt (keyV r.key) ++ [32] ++ printTxt r.val ++ [10] = bs ++ recTxt r := by unfold recTxt; simp
    rw [hrt]
    refine ⟨(bytesL (bs ++ recTxt r), ((i + 1 : Nat) : Int), ()), rfl, ⟨h2.trans (h34.trans h5), i + 1, _, rfl, rfl, by omega, ?_, ?_⟩, by dsimp only; omega⟩
    · have : (recTxt r).length = (printTxt (keyV r.key)).length + 1 + (printTxt r.val).length + 1 := by unfold recTxt; simp; omega
      rw [List.length_append, this]
      omega
    · rw [hp]
      cases recsTxt (l.drop (i + 1)) with
      | none => rfl
      | some u => simp
  · have hin : i = n := by have := lt_f e; omega
    rw [List.drop_of_length_le (by omega)] at hp
    have hp : recsTxt l = some bs := by rw [hp]; simp [recsTxt]
    rw [hp] at hps
    refine ⟨rfl, (bytesL bs, ()), rfl, fun g => ?_⟩
    dsimp only
    rw [tb_size]
    refine br_both (fun e => ?_) fun e => ?_
    · have e : 4000 < bs.length := by have := gt_t e; omega
      rw [hps]
      dsimp only
      rw [if_pos e]
      exact ⟨h2, rfl⟩
    · have e : bs.length ≤ 4000 := by have := gt_f e; omega
      rw [hps]
      dsimp only
      rw [if_neg (by omega)]
      exact ⟨h2, rfl⟩
end Go.Proofs.YtjlmkahagcojcaaGreatDoor.V
