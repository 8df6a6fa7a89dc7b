/- The parser's state; the token that stands there. -/
import Derived.Test.YtkebljkdkaagfaaGreatDoorPwe
namespace Go.Proofs.YtkebljkdkaagfaaGreatDoor.E
open Go Tr
open V (rest rest_cases restL sizeB pk_rest cx_i cp_i extract_list)
set_option maxRecDepth 100000
set_option maxHeartbeats 2000000
/-! the tree of function 50 -/
def s50 : Script := .ld .bool (.sym (.clp (.one (.agg [.int .i64, .int .i64, .str, .int .i64])) (.ld (.int .i64) (.ld (.int .i64) (.ld .str (.ld (.int .i64) (.ld (.int .i64) (.ld (.int .i64) (.ld .str (.ld (.int .i64) .nil)))))))) .nil) (.ld (.int .i64) (.ld (.int .i64) (.ld .str (.ld (.int .i64) (.ld (.int .i64) (.ld (.int .i64) (.ld .str (.ld (.int .i64) .nil)))))))))
theorem t50 (qa0 : Addr) : fnT Tryz.prog Tryz.f50 #[.pointer (some qa0)] s50 = .new (.cells #[.int .i64 0, .int .i64 0, .string (bytesL []), .int .i64 0] 97 (0, 0)) (fun n1 => .load (qa0.add 6) .bool (fun b2 => .br (!b2) (.callp 55 #[.pointer (some qa0)] (.one (.agg [.int .i64, .int .i64, .str, .int .i64])) (fun r3 => .store (qa0.add 2) (.int .i64 r3.1) (.store ((qa0.add 2).add 1) (.int .i64 r3.2.1) (.store ((qa0.add 2).add 2) (.string r3.2.2.1) (.store ((qa0.add 2).add 3) (.int .i64 r3.2.2.2.1) (.store (qa0.add 6) (.bool true) (.load (qa0.add 2) (.int .i64) (fun x4 => .load ((qa0.add 2).add 1) (.int .i64) (fun x5 => .load ((qa0.add 2).add 2) .str (fun s6 => .load ((qa0.add 2).add 3) (.int .i64) (fun x7 => .store ⟨n1, 0, none⟩ (.int .i64 x4) (.store ⟨n1, 1, none⟩ (.int .i64 x5) (.store ⟨n1, 2, none⟩ (.string s6) (.store ⟨n1, 3, none⟩ (.int .i64 x7) (.load ⟨n1, 0, none⟩ (.int .i64) (fun x8 => .load ⟨n1, 1, none⟩ (.int .i64) (fun x9 => .load ⟨n1, 2, none⟩ .str (fun s10 => .load ⟨n1, 3, none⟩ (.int .i64) (fun x11 => .done (.returned (.agg #[.int .i64 x8, .int .i64 x9, .string s10, .int .i64 x11])))))))))))))))))))) (fun ch12 => .done (.panicked ch12))) (.load (qa0.add 2) (.int .i64) (fun x13 => .load ((qa0.add 2).add 1) (.int .i64) (fun x14 => .load ((qa0.add 2).add 2) .str (fun s15 => .load ((qa0.add 2).add 3) (.int .i64) (fun x16 => .store ⟨n1, 0, none⟩ (.int .i64 x13) (.store ⟨n1, 1, none⟩ (.int .i64 x14) (.store ⟨n1, 2, none⟩ (.string s15) (.store ⟨n1, 3, none⟩ (.int .i64 x16) (.load ⟨n1, 0, none⟩ (.int .i64) (fun x17 => .load ⟨n1, 1, none⟩ (.int .i64) (fun x18 => .load ⟨n1, 2, none⟩ .str (fun s19 => .load ⟨n1, 3, none⟩ (.int .i64) (fun x20 => .done (.returned (.agg #[.int .i64 x17, .int .i64 x18, .string s19, .int .i64 x20]))))))))))))))))) := by kernel_rfl
/-! the tree of function 53 -/
def s53 : Script := .clp (.one (.agg [.int .i64, .int .i64, .str, .int .i64])) (.ld (.int .i64) (.ld (.int .i64) (.ld .str (.ld (.int .i64) (.ld (.int .i64) (.ld (.int .i64) (.ld .str (.ld (.int .i64) .nil)))))))) .nil
theorem t53 (qa0 : Addr) : fnT Tryz.prog Tryz.f53 #[.pointer (some qa0)] s53 = .new (.cells #[.int .i64 0, .int .i64 0, .string (bytesL []), .int .i64 0] 97 (0, 0)) (fun n1 => .callp 50 #[.pointer (some qa0)] (.one (.agg [.int .i64, .int .i64, .str, .int .i64])) (fun r2 => .new (.cells #[.int .i64 0, .int .i64 0, .string (bytesL []), .int .i64 0] 97 (0, 0)) (fun n3 => .store ⟨n3, 0, none⟩ (.int .i64 r2.1) (.store ⟨n3, 1, none⟩ (.int .i64 r2.2.1) (.store ⟨n3, 2, none⟩ (.string r2.2.2.1) (.store ⟨n3, 3, none⟩ (.int .i64 r2.2.2.2.1) (.store (qa0.add 6) (.bool false) (.load ⟨n3, 0, none⟩ (.int .i64) (fun x4 => .load ⟨n3, 1, none⟩ (.int .i64) (fun x5 => .load ⟨n3, 2, none⟩ .str (fun s6 => .load ⟨n3, 3, none⟩ (.int .i64) (fun x7 => .store ⟨n1, 0, none⟩ (.int .i64 x4) (.store ⟨n1, 1, none⟩ (.int .i64 x5) (.store ⟨n1, 2, none⟩ (.string s6) (.store ⟨n1, 3, none⟩ (.int .i64 x7) (.load ⟨n1, 0, none⟩ (.int .i64) (fun x8 => .load ⟨n1, 1, none⟩ (.int .i64) (fun x9 => .load ⟨n1, 2, none⟩ .str (fun s10 => .load ⟨n1, 3, none⟩ (.int .i64) (fun x11 => .done (.returned (.agg #[.int .i64 x8, .int .i64 x9, .string s10, .int .i64 x11]))))))))))))))))))))) (fun ch12 => .done (.panicked ch12))) := by kernel_rfl
/-! the tree of function 51 -/
def s51 : Script := .clp (.one (.agg [.int .i64, .int .i64, .str, .int .i64])) (.ld (.int .i64) (.sym (.lit (.ld .str (.lit (.lit (.lit .nil))))) (.lit (.lit (.lit (.lit .nil)))))) .nil
theorem t51 (qa0 : Addr) (qx1 : Int) (qs2 : ByteArray) : fnT Tryz.prog Tryz.f51 #[.pointer (some qa0), .int .i64 qx1, .string qs2] s51 = .callp 50 #[.pointer (some qa0)] (.one (.agg [.int .i64, .int .i64, .str, .int .i64])) (fun r1 => .new (.cells #[.int .i64 0, .int .i64 0, .string (bytesL []), .int .i64 0] 97 (0, 0)) (fun n2 => .store ⟨n2, 0, none⟩ (.int .i64 r1.1) (.store ⟨n2, 1, none⟩ (.int .i64 r1.2.1) (.store ⟨n2, 2, none⟩ (.string r1.2.2.1) (.store ⟨n2, 3, none⟩ (.int .i64 r1.2.2.2.1) (.load ⟨n2, 0, none⟩ (.int .i64) (fun x3 => .br (x3 == qx1) (.load ⟨n2, 2, none⟩ .str (fun s4 => .done (.returned (.bool (s4.toList == qs2.toList))))) (.done (.returned (.bool false)))))))))) (fun ch5 => .done (.panicked ch5)) := by kernel_rfl
/-! the tree of function 54 -/
abbrev fx54_1 (qa0 : Addr) (qx1 : Int) (qs2 : ByteArray) : List (Tmp × Value) := [(0, .pointer (some qa0)), (1, .int .i64 qx1), (2, .string qs2)]
abbrev mx54_1 : List (Tmp × Comp) := []
def s54_1 : Script := .clp (.one (.leaf .bool)) (.sym (.clp (.one (.agg [.int .i64, .int .i64, .str, .int .i64])) (.clx .nil) .nil) .nil) .nil
theorem t54_1 (qa0 : Addr) (qx1 : Int) (qs2 : ByteArray) (gg1 : Nat → Value) : pieceT Tryz.prog (at_ Tryz.f54 [0]) 60 (fx54_1 qa0 qx1 qs2) gg1 (mx54_1.map (·.1)) [] [] s54_1 = .callp 51 #[.pointer (some qa0), .int .i64 qx1, .string qs2] (.one (.leaf .bool)) (fun b2 => .br (!b2) (.callp 50 #[.pointer (some qa0)] (.one (.agg [.int .i64, .int .i64, .str, .int .i64])) (fun r3 => .callx 48 #[.int .i64 36, .int .i64 r3.2.1] (fun ch4 => .done (.panicked ch4))) (fun ch5 => .done (.panicked ch5))) (.fin .normal [])) (fun ch6 => .done (.panicked ch6)) := by kernel_rfl
abbrev fx54_10 (qa0 : Addr) (qx1 : Int) (qs2 : ByteArray) (n9 : Nat) : List (Tmp × Value) := [(0, .pointer (some qa0)), (1, .int .i64 qx1), (2, .string qs2), (6, .pointer (some ⟨n9, 0, none⟩))]
abbrev mx54_10 : List (Tmp × Comp) := []
abbrev fx54_11 (qa0 : Addr) (qx1 : Int) (qs2 : ByteArray) (n9 : Nat) : List (Tmp × Value) := [(0, .pointer (some qa0)), (1, .int .i64 qx1), (2, .string qs2), (6, .pointer (some ⟨n9, 0, none⟩))]
abbrev mx54_11 : List (Tmp × Comp) := [(27, .leaf .bool)]
def s54_11 : Script := .sym (.lit (.lit (.sym (.lit (.lit (.lit (.lit .nil)))) (.lit (.lit (.lit (.lit .nil))))))) (.lit (.lit (.lit (.lit .nil))))
theorem t54_11 (qa0 : Addr) (qx1 : Int) (qs2 : ByteArray) (n9 : Nat) (gg11 : Nat → Value) : pieceT Tryz.prog (at_ Tryz.f54 [1, 1, 0, 0]) 60 (fx54_11 qa0 qx1 qs2 n9) gg11 (mx54_11.map (·.1)) [] [] s54_11 = .br (qx1 == 4) (.br (qs2.toList == (bytesL [40]).toList) (.fin .normal [(27, .bool true)]) (.fin .normal [(27, .bool (qs2.toList == (bytesL [91]).toList))])) (.fin .normal [(27, .bool false)]) := by kernel_rfl
def s54_10 : Script := .ct 0 [0, 1, 2, 6] mx54_11 (.sym (.ld (.int .i64) (.ld (.int .i64) (.sym (.ld (.int .i64) (.clx .nil)) .nil))) .nil)
theorem t54_10 (qa0 : Addr) (qx1 : Int) (qs2 : ByteArray) (n9 : Nat) (gg10 : Nat → Value) : pieceT Tryz.prog (at_ Tryz.f54 [1, 1, 0]) 60 (fx54_10 qa0 qx1 qs2 n9) gg10 (mx54_10.map (·.1)) [] [] s54_10 = .cut (at_ Tryz.f54 [1, 1, 0, 0]) 60 (fx54_11 qa0 qx1 qs2 n9) mx54_11 (fun u12 g12 => .br u12.1 (.load (qa0.add 7) (.int .i64) (fun x13 => .store (qa0.add 7) (.int .i64 (IntKind.i64.wrap (x13 + 1))) (.load (qa0.add 7) (.int .i64) (fun x14 => .br (Decidable.decide (x14 > 10)) (.load ⟨n9, 1, none⟩ (.int .i64) (fun x15 => .callx 48 #[.int .i64 35, .int .i64 x15] (fun ch16 => .done (.panicked ch16)))) (.fin .normal []))))) (.fin .normal [])) := by kernel_rfl
abbrev fx54_18 (qa0 : Addr) (qx1 : Int) (qs2 : ByteArray) : List (Tmp × Value) := [(0, .pointer (some qa0)), (1, .int .i64 qx1), (2, .string qs2)]
abbrev mx54_18 : List (Tmp × Comp) := [(52, .leaf .bool)]
def s54_18 : Script := .sym (.lit (.lit (.sym (.lit (.lit (.lit (.lit .nil)))) (.lit (.lit (.lit (.lit .nil))))))) (.lit (.lit (.lit (.lit .nil))))
theorem t54_18 (qa0 : Addr) (qx1 : Int) (qs2 : ByteArray) (gg18 : Nat → Value) : pieceT Tryz.prog (at_ Tryz.f54 [1, 1, 1, 0]) 60 (fx54_18 qa0 qx1 qs2) gg18 (mx54_18.map (·.1)) [] [] s54_18 = .br (qx1 == 4) (.br (qs2.toList == (bytesL [41]).toList) (.fin .normal [(52, .bool true)]) (.fin .normal [(52, .bool (qs2.toList == (bytesL [93]).toList))])) (.fin .normal [(52, .bool false)]) := by kernel_rfl
def s54 : Script := .ct 0 [0, 1, 2] mx54_1 (.clp (.one (.agg [.int .i64, .int .i64, .str, .int .i64])) (.ct 0 [0, 1, 2, 6] mx54_10 (.ct 0 [0, 1, 2] mx54_18 (.sym (.ld (.int .i64) .nil) .nil))) .nil)
theorem t54 (qa0 : Addr) (qx1 : Int) (qs2 : ByteArray) : fnT Tryz.prog Tryz.f54 #[.pointer (some qa0), .int .i64 qx1, .string qs2] s54 = .cut (at_ Tryz.f54 [0]) 60 (fx54_1 qa0 qx1 qs2) mx54_1 (fun u7 g7 => .callp 53 #[.pointer (some qa0)] (.one (.agg [.int .i64, .int .i64, .str, .int .i64])) (fun r8 => .new (.cells #[.int .i64 0, .int .i64 0, .string (bytesL []), .int .i64 0] 97 (0, 0)) (fun n9 => .store ⟨n9, 0, none⟩ (.int .i64 r8.1) (.store ⟨n9, 1, none⟩ (.int .i64 r8.2.1) (.store ⟨n9, 2, none⟩ (.string r8.2.2.1) (.store ⟨n9, 3, none⟩ (.int .i64 r8.2.2.2.1) (.cut (at_ Tryz.f54 [1, 1, 0]) 60 (fx54_10 qa0 qx1 qs2 n9) mx54_10 (fun u17 g17 => .cut (at_ Tryz.f54 [1, 1, 1, 0]) 60 (fx54_18 qa0 qx1 qs2) mx54_18 (fun u19 g19 => .br u19.1 (.load (qa0.add 7) (.int .i64) (fun x20 => .store (qa0.add 7) (.int .i64 (IntKind.i64.wrap (x20 - 1))) (.done (.returned (.tuple #[]))))) (.done (.returned (.tuple #[]))))))))))) (fun ch21 => .done (.panicked ch21))) := by kernel_rfl
/-- The parser at b stands so. -/
structure PsS (w : World) (b : Nat) (s : ByteArray) (st : PS) : Prop where
  at_ : ∃ (i : Nat) (q : PQ), i ≤ s.size ∧ PB w b s i q ∧ st.l = rest s i ∧ q.hv = st.tok.isSome ∧ q.op = (st.op : Nat) ∧ ∀ t, st.tok = some t → q.k = (t.kind : Nat) ∧ q.a = (t.at_ : Nat) ∧ q.t = bytesL t.text ∧ q.n = (t.num : Nat)
  op_le : st.op ≤ 10
theorem PsS.ch {S : Nat → Prop} {w w' : World} {b : Nat} {s : ByteArray} {st : PS} (h : PsS w b s st) (hc : Ch S w w') (hn : ¬ S b) : PsS w' b s st := by
  obtain ⟨⟨i, q, h1, h2, h3⟩, h4⟩ := h
  exact ⟨⟨i, q, h1, h2.ch hc hn, h3⟩, h4⟩
theorem PsS.lt {w : World} {b : Nat} {s : ByteArray} {st : PS} (h : PsS w b s st) : b < w.heap.size := by
  obtain ⟨⟨i, q, h1, h2, h3⟩, h4⟩ := h
  exact Blk.lt h2
/-- A call's end: what it computes, or the fault that is thrown. -/
def PostR {α : Type} (b : Nat) (s : ByteArray) (w : World) (rel : α → Value → World → Prop) (r : R α) (e : Ending) (w' : World) : Prop := Ch (· = b) w w' ∧ match r with
  | .error c => Thrown w w' e (c.1 : Nat) (c.2 : Nat)
  | .ok (a, st) => ∃ v, e = .returned v ∧ rel a v w' ∧ PsS w' b s st
theorem PostR.err {α : Type} {b : Nat} {s : ByteArray} {w0 w w' : World} {rel : α → Value → World → Prop} {c : Er} {e : Ending} (h0 : Ch (· = b) w0 w) (h : Ch (· = b) w w') (ht : Thrown w w' e (c.1 : Nat) (c.2 : Nat)) : PostR b s w0 rel (.error c) e w' :=
  ⟨h0.trans h, ht.from h0.size⟩
section
variable {R : Ending → World → Prop} {Q : Exit → List (Tmp × Value) → World → Prop} {w : World} {md : Md} [hmd : md.Runs]
theorem t_done {e : Ending} (h : R e w) : wpT Tryz.prog R Q (.done e) md w := by cases hmd <;> exact h
/-- A call of one of the parser's functions. -/
theorem cpR {α : Type} {f : FuncId} {args : Array Value} {sh : Shape} {k : sh.Vars → T} {b : Nat} {s : ByteArray} {rel : α → Value → World → Prop} {r : E.R α}
    (hc : Calls Tryz.prog f args w (PostR b s w rel r))
    (hok : ∀ a st v w', r = .ok (a, st) → Ch (· = b) w w' → rel a v w' → PsS w' b s st → ∃ x, v = sh.val x ∧ wpT Tryz.prog R Q (k x) md w')
    (herr : ∀ c e w', r = .error c → Ch (· = b) w w' → Thrown w w' e (c.1 : Nat) (c.2 : Nat) → R e w') :
    wpT Tryz.prog R Q (.callp f args sh k (fun ch => .done (.panicked ch))) md w := by
  refine cp_i hc ?_
  rintro e w' ⟨hch, h⟩
  cases r with
  | error c =>
    have h' : Thrown w w' e (c.1 : Nat) (c.2 : Nat) := h
    obtain ⟨fb, f1, rfl, f3⟩ := h'
    exact .inr ⟨_, rfl, t_done (herr c _ w' rfl hch ⟨fb, f1, rfl, f3⟩)⟩
  | ok a =>
    obtain ⟨a, st⟩ := a
    obtain ⟨v, rfl, hrel, hps⟩ := h
    obtain ⟨x, rfl, hx⟩ := hok a st v w' rfl hch hrel hps
    exact .inl ⟨x, rfl, hx⟩
end
def isTok (t : Tk) (v : Value) (_ : World) : Prop := v = tokV t
abbrev tokX (t : Tk) : Int × Int × ByteArray × Int × Unit := ((t.kind : Nat), (t.at_ : Nat), bytesL t.text, (t.num : Nat), ())
theorem tok_new {R : Ending → World → Prop} {Q : Exit → List (Tmp × Value) → World → Prop} {w : World} {x0 x1 x3 : Int} {x2 : ByteArray} {f : Nat → T}
    (h : ∀ n w', Ch No w w' → w.heap.size ≤ n → Blk w' n [.int .i64 x0, .int .i64 x1, .string x2, .int .i64 x3] tTok → wpT Tryz.prog R Q (f n) .pl w') :
    wpT Tryz.prog R Q (.new (.cells #[.int .i64 0, .int .i64 0, .string (bytesL []), .int .i64 0] tTok (0, 0)) (fun n => .store ⟨n, 0, none⟩ (.int .i64 x0) (.store ⟨n, 1, none⟩ (.int .i64 x1) (.store ⟨n, 2, none⟩ (.string x2) (.store ⟨n, 3, none⟩ (.int .i64 x3) (f n)))))) .pl w := by
  refine nw fun w1 h1 z1 b1 => st_blk b1 (by simp) rfl fun w2 h2 z2 b2 => st_blk b2 (by simp) rfl fun w3 h3 z3 b3 => st_blk b3 (by simp) rfl fun w4 h4 z4 b4 => st_blk b4 (by simp) rfl fun w5 h5 z5 b5 => ?_
  exact h _ w5 (h1.then_ (h2.trans (h3.trans (h4.trans h5))) (fun i hi (e : i = w.heap.size) => by omega)) (Nat.le_refl _) b5
theorem peek_any (w : World) (b : Nat) (s : ByteArray) (st : PS) (h : PsS w b s st) (hG : GlE w) (hbb : 11 ≤ b) (hs : s.size ≤ 100) :
    Calls Tryz.prog 50 #[.pointer (some ⟨b, 0, none⟩)] w (PostR b s w isTok (peekB s.size st)) := by
  obtain ⟨⟨i, q, hi, hb, hl, hhv, hop, htok⟩, hle⟩ := h
  refine calls_of_fnT mixed Tryz.func50 (s := s50) ?_
  rw [t50]
  simp only [addr_add, Nat.zero_add]
  refine nw fun w1 h1 z1 n1 => ?_
  have b1 := hb.ch h1 (fun h => h)
  have hblt := Blk.lt hb
  generalize hn : w.heap.size = n at *
  refine ld_bool (x := q.hv) (Blk.cell b1 6) ?_
  unfold peekB
  cases ht : st.tok with
  | none =>
    rw [ht] at hhv
    have hhv : q.hv = false := hhv
    refine br_true (by rw [hhv]; rfl) (cp_i (read_any w1 b s i q b1 (hG.no h1) hbb hi hs) ?_)
    rintro e w2 ⟨h2, hx⟩
    rw [hl]
    cases hq : lexB s.size (rest s i) with
    | error c =>
      rw [hq] at hx
      have hx' : Thrown w1 w2 e (c.1 : Nat) (c.2 : Nat) := hx
      obtain ⟨fb, f1, rfl, f3⟩ := hx'
      exact .inr ⟨_, rfl, h1.no.trans h2, fb, Nat.le_trans (by have := h1.size; omega) f1, rfl, f3⟩
    | ok y =>
      obtain ⟨t, r⟩ := y
      rw [hq] at hx
      obtain ⟨rfl, j, hj, hr, b2⟩ := hx
      refine .inl ⟨tokX t, rfl, ?_⟩
      have n2 := n1.ch h2 (fun e : n = b => by omega)
      refine st_blk b2 (by simp) rfl fun w3 h3 z3 b3 => st_blk b3 (by simp) rfl fun w4 h4 z4 b4 => st_blk b4 (by simp) rfl fun w5 h5 z5 b5 => st_blk b5 (by simp) rfl fun w6 h6 z6 b6 => st_blk b6 (by simp) rfl fun w7 h7 z7 b7 => ?_
      have h27 := h3.trans (h4.trans (h5.trans (h6.trans h7)))
      refine ld_int (b7.cell 2) (ld_int (b7.cell 3) (ld_str (b7.cell 4) (ld_int (b7.cell 5) ?_)))
      refine st_blk (n2.ch h27 (fun e : n = b => by omega)) (by simp) rfl fun w8 h8 z8 b8 => st_blk b8 (by simp) rfl fun w9 h9 z9 b9 => st_blk b9 (by simp) rfl fun w10 h10 z10 b10 => st_blk b10 (by simp) rfl fun w11 h11 z11 b11 => ?_
      have h711 := h8.trans (h9.trans (h10.trans h11))
      refine ld_int (b11.cell 0) (ld_int (b11.cell 1) (ld_str (b11.cell 2) (ld_int (b11.cell 3) ⟨?_, _, rfl, rfl, ⟨j, ⟨(t.kind : Nat), (t.at_ : Nat), bytesL t.text, (t.num : Nat), true, q.op⟩, hj, ?_, hr, rfl, hop, ?_⟩, hle⟩)))
      · exact (h1.no.trans (h2.trans h27)).then_ h711 (fun i hi (e : i = n) => by omega)
      · exact Blk.ch b7 h711 (fun e : b = n => by omega)
      · intro t' ht'
        obtain rfl := Option.some.inj ht'
        exact ⟨rfl, rfl, rfl, rfl⟩
  | some t =>
    rw [ht] at hhv
    have hhv : q.hv = true := hhv
    obtain ⟨k1, k2, k3, k4⟩ := htok t ht
    refine br_false (by rw [hhv]; rfl) ?_
    refine ld_int (Blk.cell b1 2) (ld_int (Blk.cell b1 3) (ld_str (Blk.cell b1 4) (ld_int (Blk.cell b1 5) ?_)))
    refine st_blk n1 (by simp) rfl fun w8 h8 z8 b8 => st_blk b8 (by simp) rfl fun w9 h9 z9 b9 => st_blk b9 (by simp) rfl fun w10 h10 z10 b10 => st_blk b10 (by simp) rfl fun w11 h11 z11 b11 => ?_
    have h711 := h8.trans (h9.trans (h10.trans h11))
    refine ld_int (b11.cell 0) (ld_int (b11.cell 1) (ld_str (b11.cell 2) (ld_int (b11.cell 3) ⟨?_, _, rfl, ?_, ⟨i, q, hi, ?_, hl, ?_, hop, htok⟩, hle⟩)))
    · exact h1.no.then_ h711 (fun i hi (e : i = n) => by omega)
    · show _ = tokV t
      unfold tokV
      rw [k1, k2, k3, k4]
    · exact Blk.ch b1 h711 (fun e : b = n => by omega)
    · rw [hhv, ht]; rfl
theorem next_any (w : World) (b : Nat) (s : ByteArray) (st : PS) (h : PsS w b s st) (hG : GlE w) (hbb : 11 ≤ b) (hs : s.size ≤ 100) :
    Calls Tryz.prog 53 #[.pointer (some ⟨b, 0, none⟩)] w (PostR b s w isTok (bindR (peekB s.size st) fun t st => .ok (t, dropB st))) := by
  refine calls_of_fnT mixed Tryz.func53 (s := s53) ?_
  rw [t53]
  simp only [addr_add, Nat.zero_add]
  refine nw fun w1 h1 z1 n1 => ?_
  have hblt := h.lt
  have P1 := h.ch h1 (fun h => h)
  generalize hn : w.heap.size = n at *
  refine cpR (peek_any w1 b s st P1 (hG.no h1) hbb hs) ?_ ?_
  · rintro t st' v w2 hr h2 rfl P2
    refine ⟨tokX t, rfl, ?_⟩
    rw [hr]
    refine tok_new fun m w3 h3 hm m3 => ?_
    obtain ⟨⟨i, q, hi, hb, hl, hhv, hop, htok⟩, hle⟩ := P2.ch h3 (fun h => h)
    have hs12 := h2.size
    have hnlt := n1.lt
    have hb2 := P2.lt
    refine st_blk hb (by simp) rfl fun w4 h4 z4 b4 => ?_
    have hblt2 := Blk.lt hb
    have hb1 : b < w1.heap.size := P1.lt
    have m4 : TB w4 m (t.kind : Nat) (t.at_ : Nat) t.text (t.num : Nat) := Blk.ch m3 h4 (fun e : m = b => by omega)
    have n4 := ((n1.ch h2 (fun e : n = b => by omega)).ch h3 (fun h => h)).ch h4 (fun e : n = b => by omega)
    refine tok_out n4 m4 (by omega) fun w5 h5 => ⟨?_, _, rfl, rfl, ⟨i, ⟨q.k, q.a, q.t, q.n, false, q.op⟩, hi, ?_, hl, rfl, hop, fun t' h => by cases h⟩, hle⟩
    · exact ((h1.no.trans h2).trans (h3.no.trans h4)).then_ h5 (fun i hi (e : i = n) => by omega)
    · exact Blk.ch b4 h5 (fun e : b = n => by omega)
  · intro c e w2 hr h2 ht
    rw [hr]
    exact PostR.err h1.no h2 ht
def isBool (x : Bool) (v : Value) (_ : World) : Prop := v = .bool x
theorem is_any (w : World) (b : Nat) (s : ByteArray) (st : PS) (kind : Nat) (text : Txt) (h : PsS w b s st) (hG : GlE w) (hbb : 11 ≤ b) (hs : s.size ≤ 100) :
    Calls Tryz.prog 51 #[.pointer (some ⟨b, 0, none⟩), .int .i64 (kind : Nat), .string (bytesL text)] w (PostR b s w isBool (bindR (peekB s.size st) fun t st => .ok (isB t kind text, st))) := by
  refine calls_of_fnT mixed Tryz.func51 (s := s51) ?_
  rw [t51]
  refine cpR (peek_any w b s st h hG hbb hs) ?_ ?_
  · rintro t st' v w2 hr h2 rfl P2
    refine ⟨tokX t, rfl, ?_⟩
    rw [hr]
    refine tok_new fun m w3 h3 hm m3 => ?_
    have P3 := P2.ch h3 (fun h => h)
    refine ld_int (m3.cell 0) (br_both (fun e => ?_) fun e => ?_)
    · have e : t.kind = kind := by have e' : ((t.kind : Nat) : Int) = (kind : Int) := eq_t e; omega
      refine ld_str (m3.cell 2) ⟨h2.trans h3.no, _, rfl, ?_, P3⟩
      show _ = Value.bool (isB t kind text)
      rw [tb_list, tb_list, isB, decide_eq_true e, Bool.true_and]
    · have e : ¬ t.kind = kind := by have e' : ((t.kind : Nat) : Int) ≠ (kind : Int) := eq_f e; omega
      refine ⟨h2.trans h3.no, _, rfl, ?_, P3⟩
      show _ = Value.bool (isB t kind text)
      rw [isB, decide_eq_false e, Bool.false_and]
  · intro c e w2 hr h2 ht
    rw [hr]
    exact PostR.err (Ch.refl _ _) h2 ht
theorem peekB_again {L : Nat} {st st' : PS} {t : Tk} (h : peekB L st = .ok (t, st')) : peekB L st' = .ok (t, st') ∧ st'.tok = some t ∧ st'.op = st.op := by
  unfold peekB at h
  split at h
  · rename_i t' ht
    simp only [Except.ok.injEq, Prod.mk.injEq] at h
    obtain ⟨rfl, rfl⟩ := h
    exact ⟨by unfold peekB; rw [ht], ht, rfl⟩
  · split at h
    · cases h
    · simp only [Except.ok.injEq, Prod.mk.injEq] at h
      obtain ⟨rfl, rfl⟩ := h
      exact ⟨rfl, rfl, rfl⟩
def isUnit (_ : Unit) (v : Value) (_ : World) : Prop := v = .tuple #[]
theorem want_any (w : World) (b : Nat) (s : ByteArray) (st : PS) (kind : Nat) (text : Txt) (h : PsS w b s st) (hG : GlE w) (hbb : 11 ≤ b) (hs : s.size ≤ 100) (hcl : kind = 4 ∧ (text = sRp ∨ text = sRb) → 1 ≤ st.op) :
    Calls Tryz.prog 54 #[.pointer (some ⟨b, 0, none⟩), .int .i64 (kind : Nat), .string (bytesL text)] w (PostR b s w isUnit (wantB s.size kind text st)) := by
  refine calls_of_fnT mixed Tryz.func54 (s := s54) ?_
  rw [t54]
  have hwd : wantB s.size kind text st = bindR (peekB s.size st) fun t st => if isB t kind text = true then
      (if kind = 4 ∧ (text = sLp ∨ text = sLb) then (if 10 < st.op + 1 then .error (35, t.at_) else .ok ((), ⟨st.l, none, st.op + 1⟩))
      else if kind = 4 ∧ (text = sRp ∨ text = sRb) then .ok ((), ⟨st.l, none, st.op - 1⟩)
      else .ok ((), dropB st))
    else .error (36, t.at_) := by
    unfold wantB bindR
    cases peekB s.size st <;> rfl
  rw [hwd]
  refine cut_i mixed s54_1 (fun (_ : Unit) w' => ∃ t st', peekB s.size st = .ok (t, st') ∧ isB t kind text = true ∧ Ch (· = b) w w' ∧ PsS w' b s st') (by kernel_rfl) (fun g => ?_) ?_
  · rw [t54_1]
    refine cpR (is_any w b s st kind text h hG hbb hs) ?_ ?_
    · rintro x st1 v w1 hr h1 rfl P1
      refine ⟨x, rfl, ?_⟩
      cases hp : peekB s.size st with
      | error c => rw [hp] at hr; cases hr
      | ok y =>
        obtain ⟨t, st'⟩ := y
        rw [hp] at hr
        simp only [bindR, Except.ok.injEq, Prod.mk.injEq] at hr
        obtain ⟨rfl, rfl⟩ := hr
        refine br_both (fun e => ?_) fun e => ?_
        · have e : isB t kind text = false := by simpa using e
          have G1 : GlE w1 := hG.ch (B := 11) (h1.mono fun k (h : k = b) => by show 11 ≤ k; omega) (Nat.le_refl _)
          refine cpR (peek_any w1 b s st' P1 G1 hbb hs) ?_ ?_
          · rintro t2 st2 v w2 hr2 h2 rfl P2
            rw [(peekB_again hp).1] at hr2
            simp only [Except.ok.injEq, Prod.mk.injEq] at hr2
            obtain ⟨rfl, rfl⟩ := hr2
            refine ⟨tokX t, rfl, cx_i (giveUp_any _ _ w2) ?_⟩
            rintro r w3 ⟨h3, fb, f1, rfl, f3⟩
            refine ⟨_, rfl, (h1.trans h2).trans h3.no, ?_⟩
            simp only [bindR, e, Bool.false_eq_true, if_false]
            exact ⟨fb, Nat.le_trans (h1.trans h2).size f1, rfl, f3⟩
          · intro c e w2 hr2
            rw [(peekB_again hp).1] at hr2
            cases hr2
        · have e : isB t kind text = true := by simpa using e
          exact ⟨rfl, (), rfl, t, st', rfl, e, h1, P1⟩
    · intro c e w1 hr h1 ht
      cases hp : peekB s.size st with
      | error c' =>
        rw [hp] at hr
        obtain rfl : c' = c := by simpa [bindR] using hr
        exact PostR.err (Ch.refl _ _) h1 ht
      | ok y => rw [hp] at hr; simp [bindR] at hr
  rintro ⟨⟩ g w1 ⟨t, st', hp, hb1, h1, P1⟩
  have G1 : GlE w1 := hG.ch (B := 11) (h1.mono fun k (h : k = b) => by show 11 ≤ k; omega) (Nat.le_refl _)
  rw [hp]
  obtain ⟨hpa, htk, hopp⟩ := peekB_again hp
  have hpost : (bindR (Except.ok (t, st') : E.R Tk) fun t st => if isB t kind text = true then
      (if kind = 4 ∧ (text = sLp ∨ text = sLb) then (if 10 < st.op + 1 then .error (35, t.at_) else .ok ((), ⟨st.l, none, st.op + 1⟩))
      else if kind = 4 ∧ (text = sRp ∨ text = sRb) then .ok ((), ⟨st.l, none, st.op - 1⟩)
      else .ok ((), dropB st))
    else .error (36, t.at_)) = if kind = 4 ∧ (text = sLp ∨ text = sLb) then (if 10 < st'.op + 1 then .error (35, t.at_) else .ok ((), ⟨st'.l, none, st'.op + 1⟩))
      else if kind = 4 ∧ (text = sRp ∨ text = sRb) then .ok ((), ⟨st'.l, none, st'.op - 1⟩)
      else .ok ((), dropB st') := by simp only [bindR, hb1, if_true]
  rw [hpost]
  refine cpR (next_any w1 b s st' P1 G1 hbb hs) ?_ ?_
  · rintro t2 st2 v w2 hr2 h2 rfl P2
    rw [hpa] at hr2
    simp only [bindR, Except.ok.injEq, Prod.mk.injEq] at hr2
    obtain ⟨rfl, rfl⟩ := hr2
    refine ⟨tokX t, rfl, ?_⟩
    refine tok_new fun m w3 h3 hm m3 => ?_
    have P3 := P2.ch h3 (fun h => h)
    have hop2 : (dropB st').op = st'.op := rfl
    have H3 : Ch (· = b) w w3 := (h1.trans h2).trans h3.no
    have hk4 : (((kind : Nat) : Int) == 4) = decide (kind = 4) := by
      by_cases hk : kind = 4
      · rw [hk]; rfl
      · rw [decide_eq_false hk, beq_eq_false_iff_ne]; omega
    refine cut_i mixed s54_10 (fun (_ : Unit) w' => Ch (· = b) w w' ∧ (if kind = 4 ∧ (text = sLp ∨ text = sLb) then st'.op + 1 ≤ 10 ∧ PsS w' b s ⟨st'.l, none, st'.op + 1⟩ else PsS w' b s (dropB st'))) (by kernel_rfl) (fun g => ?_) ?_
    · rw [t54_10]
      simp only [addr_add, Nat.zero_add]
      refine cut_i mixed s54_11 (fun (v : Bool × Unit) w' => w' = w3 ∧ v.1 = decide (kind = 4 ∧ (text = sLp ∨ text = sLb))) (by kernel_rfl) (fun g => ?_) ?_
      · rw [t54_11, hk4, tb_list, tb_list, tb_list]
        refine br_both (fun e => ?_) fun e => ⟨rfl, (_, ()), rfl, rfl, ?_⟩
        · have e := of_decide_eq_true e
          refine br_both (fun e2 => ⟨rfl, (_, ()), rfl, rfl, ?_⟩) fun e2 => ⟨rfl, (_, ()), rfl, rfl, ?_⟩
          · exact (decide_eq_true ⟨e, .inl (beq_iff_eq.1 e2)⟩).symm
          · have e2 : ¬ text = sLp := beq_eq_false_iff_ne.1 e2
            show (text == sLb) = _
            rw [Bool.eq_iff_iff, beq_iff_eq, decide_eq_true_eq]
            exact ⟨fun h => ⟨e, .inr h⟩, fun h => h.2.resolve_left e2⟩
        · have e := of_decide_eq_false e
          exact (decide_eq_false (fun h => e h.1)).symm
      rintro ⟨u, ⟨⟩⟩ g w4 ⟨rfl, hu⟩
      dsimp only at hu
      subst hu
      refine br_both (fun e => ?_) fun e => ?_
      · have e := of_decide_eq_true e
        obtain ⟨⟨i, q, hi, hb, hl, hhv, hop, htok⟩, hle⟩ := P3
        have hq : q.op = (st'.op : Nat) := hop
        have hle' : st'.op ≤ 10 := hle
        have hw : IntKind.i64.wrap (q.op + 1) = ((st'.op + 1 : Nat) : Int) := by rw [hq, wrap_in (by omega) (by omega)]; omega
        refine ld_int (Blk.cell hb 7) ?_
        rw [hw]
        refine st_blk hb (by simp) rfl fun w5 h5 z5 b5 => ?_
        refine ld_int (b5.cell 7) (br_both (fun e2 => ?_) fun e2 => ?_)
        · have e2 := gt_t e2
          have m5 := m3.ch h5 (fun e : m = b => by have := Blk.lt hb; have hb2 : b < w2.heap.size := P2.lt; omega)
          refine ld_int (m5.cell 1) (cx_i (giveUp_any _ _ w5) ?_)
          rintro r w6 ⟨h6, fb, f1, rfl, f3⟩
          refine ⟨_, rfl, (H3.trans h5).trans h6.no, ?_⟩
          rw [if_pos e, if_pos (by omega)]
          exact ⟨fb, Nat.le_trans (H3.trans h5).size f1, rfl, f3⟩
        · have e2 := gt_f e2
          refine ⟨rfl, (), rfl, H3.trans h5, ?_⟩
          rw [if_pos e]
          exact ⟨by omega, ⟨i, ⟨q.k, q.a, q.t, q.n, q.hv, (st'.op + 1 : Nat)⟩, hi, b5, hl, hhv, rfl, fun t h => by cases h⟩, by show st'.op + 1 ≤ 10; omega⟩
      · have e := of_decide_eq_false e
        refine ⟨rfl, (), rfl, H3, ?_⟩
        rw [if_neg e]
        exact P3
    rintro ⟨⟩ g w4 ⟨h4, hP⟩
    refine cut_i mixed s54_18 (fun (v : Bool × Unit) w' => w' = w4 ∧ v.1 = decide (kind = 4 ∧ (text = sRp ∨ text = sRb))) (by kernel_rfl) (fun g => ?_) ?_
    · rw [t54_18, hk4, tb_list, tb_list, tb_list]
      refine br_both (fun e => ?_) fun e => ⟨rfl, (_, ()), rfl, rfl, ?_⟩
      · have e := of_decide_eq_true e
        refine br_both (fun e2 => ⟨rfl, (_, ()), rfl, rfl, ?_⟩) fun e2 => ⟨rfl, (_, ()), rfl, rfl, ?_⟩
        · exact (decide_eq_true ⟨e, .inl (beq_iff_eq.1 e2)⟩).symm
        · have e2 : ¬ text = sRp := beq_eq_false_iff_ne.1 e2
          show (text == sRb) = _
          rw [Bool.eq_iff_iff, beq_iff_eq, decide_eq_true_eq]
          exact ⟨fun h => ⟨e, .inr h⟩, fun h => h.2.resolve_left e2⟩
      · have e := of_decide_eq_false e
        exact (decide_eq_false (fun h => e h.1)).symm
    rintro ⟨u, ⟨⟩⟩ g w5 ⟨rfl, hu⟩
    dsimp only at hu
    subst hu
    refine br_both (fun e => ?_) fun e => ?_
    · have e := of_decide_eq_true e
      have hno : ¬ (kind = 4 ∧ (text = sLp ∨ text = sLb)) := by
        rintro ⟨_, h⟩
        obtain ⟨_, h'⟩ := e
        rcases h with rfl | rfl <;> rcases h' with h' | h' <;> cases h'
      rw [if_neg hno] at hP ⊢
      rw [if_pos e]
      have hop1 := hcl e
      obtain ⟨⟨i, q, hi, hb, hl, hhv, hop, htok⟩, hle⟩ := hP
      have hq : q.op = (st'.op : Nat) := hop
      have hle' : st'.op ≤ 10 := hle
      have hw : IntKind.i64.wrap (q.op - 1) = ((st'.op - 1 : Nat) : Int) := by rw [hq, wrap_in (by omega) (by omega)]; omega
      refine ld_int (Blk.cell hb 7) ?_
      rw [hw]
      refine st_blk hb (by simp) rfl fun w6 h6 z6 b6 => ⟨h4.trans h6, _, rfl, rfl, ⟨i, ⟨q.k, q.a, q.t, q.n, q.hv, (st'.op - 1 : Nat)⟩, hi, b6, hl, hhv, rfl, fun t h => by cases h⟩, ?_⟩
      show st'.op - 1 ≤ 10
      omega
    · have e := of_decide_eq_false e
      by_cases hy : kind = 4 ∧ (text = sLp ∨ text = sLb)
      · rw [if_pos hy] at hP ⊢
        rw [if_neg (by omega)]
        exact ⟨h4, _, rfl, rfl, hP.2⟩
      · rw [if_neg hy] at hP ⊢
        rw [if_neg e]
        exact ⟨h4, _, rfl, rfl, hP⟩
  · intro c e w2 hr2
    rw [hpa] at hr2
    simp [bindR] at hr2
end Go.Proofs.YtkebljkdkaagfaaGreatDoor.E
