/- The reader: list, value. -/
import Derived.Test.YtkebljkdkaagfaaGreatDoorRdi
import Derived.Test.YtkebljkdkaagfaaGreatDoorIv
import Derived.Test.YtkebljkdkaagfaaGreatDoorRdy
namespace Go.Proofs.YtkebljkdkaagfaaGreatDoor.V
open Go Tr
open Go.RowKit (Below)
set_option maxRecDepth 100000
/-- Behind a list's element: it is appended (any leaf). -/
theorem list_tail2 {R : Ending → World → Prop} {Q : Exit → List (Tmp × Value) → World → Prop} (nd n6 : Nat) (hnd : nd < n6) (w9 w10 w11 : World) (q : Option Addr) (t d : Nat) (acc : List Elt) (ht : t ≤ 6)
    (b9 : Blk w9 n6 [.int .i64 3, .int .i64 0, .string (bytesL []), .slice q t d] 125) (V9 : RowV w9 (n6 + 1) q t d acc) (hs9 : n6 + 1 ≤ w9.heap.size) (h10 : Ch (· = nd) w9 w10) (y : Elt) (hy : IsVB (fun b => w9.heap.size ≤ b ∧ b < w10.heap.size) w10 y.1 y.2.1 y.2.2.1 y.2.2.2)
    (h11 : Ch No w10 w11) (n10 : Nat) (b11 : Blk w11 n10 y.cells 125) (L : List (Tmp × Value))
    (hfin : ∀ w13 q' d', Blk w13 n6 [.int .i64 3, .int .i64 0, .string (bytesL []), .slice q' (t + 1) d'] 125 → RowV w13 (n6 + 1) q' (t + 1) d' (acc ++ [y]) → Ch (fun b => n6 ≤ b) w10 w13 → Q .normal L w13) :
    wpT Tryz.prog R Q (.run (builtin .append #[123, 123] 123 #[false, false] #[.slice q t d, .slice (some ⟨n10, 0, none⟩) 1 1]) (.one (.leaf .sl)) (fun l11 : Option Addr × Nat × Nat => .back (.eff (.store ⟨n6, 3, none⟩ (.slice l11.1 l11.2.1 l11.2.2) (.back (.undrawn (.fin .normal L))))))) (.ef (fun _ => True)) w11 := by
  have V10 : RowV w10 (n6 + 1) q t d acc := V9.ch h10 (fun k hk (e : k = nd) => by omega)
  have V11 : RowV w11 (n6 + 1) q t d acc := V10.ch h11 (fun k hk h => h)
  have b10 := b9.ch h10 (fun e : n6 = nd => by omega)
  have c11 := b10.ch h11 (fun h => h)
  have s10 := h10.size
  have s11 := h11.size
  refine ap_blk (by kernel_rfl) infoVal rfl (by omega) V11.row (by omega) b11 rfl (fun u hu => ?_) (Nat.le_trans (by omega : t + 1 ≤ 7) (by decide)) (by omega) fun q' c' w12 g12 => ?_
  · simp only [Elt.cells, cellsV, List.mem_cons, List.mem_nil_iff, or_false] at hu
    rcases hu with rfl | rfl | rfl | rfl <;> rfl
  have s12 := g12.ch.size
  have lo : ∀ k, rowS q t d k → n6 + 1 ≤ k ∧ k < w9.heap.size := fun k hk => V9.row.lt hk
  have b12 : Blk w12 n6 _ _ := c11.ch g12.ch (fun h => by have := (lo _ h).1; omega)
  refine ⟨trivial, ?_⟩
  show wpT _ _ _ (.store _ _ _) (.ef _) w12
  refine st_blk b12 (by simp) rfl fun w13 h13 z13 b13 => ⟨trivial, ?_⟩
  show Q _ _ w13
  have hrow := Row.ch g12.own h13 (fun k hk (e : k = n6) => by
    rcases g12.lies k hk with h | h
    · have := (lo _ h).1; omega
    · omega)
  refine hfin w13 q' c' b13 ⟨?_, by simp [V9.len], fun z hz => ?_⟩ ?_
  · rw [List.flatMap_append]
    simpa using hrow
  · have lies : ∀ k, rowS q' (t + 1) c' k → rowS q t d k ∨ w11.heap.size ≤ k := g12.lies
    rcases List.mem_append.1 hz with hz | hz
    · have e9 := V11.elts z hz
      have e12 := e9.ch g12.ch (fun k hk => hk.2.2)
      have e13 := e12.ch h13 (fun k hk (e : k = n6) => by have := hk.1; omega)
      refine e13.mono fun k hk => ⟨hk.1, by have := hk.2.1; omega, fun hr => ?_⟩
      rcases lies k hr with h | h
      · exact hk.2.2 h
      · have := hk.2.1; omega
    · obtain rfl : z = y := by simpa using hz
      have e11 := hy.ch h11 (fun k _ h => h)
      have e12 := e11.ch g12.ch (fun k hk h => by have := (lo _ h).2; have := hk.1; omega)
      have e13 := e12.ch h13 (fun k hk (e : k = n6) => by have := hk.1; omega)
      refine e13.mono fun k hk => ⟨by have := hk.1; omega, by have := hk.2; omega, fun hr => ?_⟩
      rcases lies k hr with h | h
      · have := (lo _ h).2; have := hk.1; omega
      · have := hk.2; omega
  · exact h11.no.trans ((g12.ch.mono fun k hk => by have := (lo _ hk).1; show n6 ≤ k; omega).trans (h13.mono fun k (hk : k = n6) => by show n6 ≤ k; omega))
/-- What the reader's value and list answer. -/
def RdR (w : World) (nd : Nat) (s : ByteArray) (res : Except Flt (VT × List UInt8 × Int)) (e : Ending) (w' : World) : Prop :=
  Ch (· = nd) w w' ∧ match res with
    | .error f => RBad s f e
    | .ok (x, l', n') => ∃ q k d i', e = .returned (valV x q k d) ∧ IsVB (fun b => w.heap.size ≤ b ∧ b < w'.heap.size) w' x q k d ∧ RdS w' nd s i' n' ∧ l' = rest s i'
/-! the tree of function 91 -/
abbrev fx91_2 (qa0 : Addr) (qx1 : Int) (n1 : Nat) : List (Tmp × Value) := [(0, .pointer (some qa0)), (1, .int .i64 qx1), (4, .pointer (some ⟨n1, 0, none⟩))]
abbrev mx91_2 : List (Tmp × Comp) := []
def s91_2 : Script := .sym (.ld (.int .i64) (.clx .nil)) .nil
theorem t91_2 (qa0 : Addr) (qx1 : Int) (n1 : Nat) (gg2 : Nat → Value) : pieceT Tryz.prog (at_ Tryz.f91 [1, 0, 0]) 85 (fx91_2 qa0 qx1 n1) gg2 (mx91_2.map (·.1)) [] [] s91_2 = .br (Decidable.decide (qx1 ≥ 3)) (.load (qa0.add 1) (.int .i64) (fun x3 => .callx 72 #[.pointer (some qa0), .int .i64 23, .int .i64 x3] (fun ch4 => .done (.panicked ch4)))) (.fin .normal []) := by kernel_rfl
abbrev fx91_19 (qa0 : Addr) (qx1 : Int) (n1 : Nat) (n7 : Nat) : List (Tmp × Value) := [(0, .pointer (some qa0)), (1, .int .i64 qx1), (4, .pointer (some ⟨n1, 0, none⟩)), (5, .pointer (some ⟨n7, 0, none⟩))]
abbrev m91_19 : List (Tmp × Comp) := []
abbrev mx91_19 : List (Tmp × Comp) := []
abbrev mr91_19 : List (Tmp × Comp) := []
abbrev fx91_20 (qa0 : Addr) (qx1 : Int) (n1 : Nat) (n7 : Nat) : List (Tmp × Value) := [(0, .pointer (some qa0)), (1, .int .i64 qx1), (4, .pointer (some ⟨n1, 0, none⟩)), (5, .pointer (some ⟨n7, 0, none⟩))]
abbrev mx91_20 : List (Tmp × Comp) := []
def s91_20 : Script := .hd0 (.hq 0 (.hq 2 (.hq 3 (.hq 4 (.hl 1 (.ld .sl (.he 5 (.clp (.one (.agg [.int .i64, .int .i64, .str, .sl])) (.he 6 (.he 7 (.rn (.one (.leaf .sl)) (.hq 8 (.he 9 .nil))))) .nil))) (.hl 5 (.clp (.one (.agg [.int .i64, .int .i64, .str, .sl])) (.hl 1 (.ld .sl (.he 6 (.he 7 (.rn (.one (.leaf .sl)) (.hq 8 (.he 9 .nil)))))) (.hl 6 (.he 1 (.ld .sl (.he 7 (.rn (.one (.leaf .sl)) (.hq 8 (.he 9 .nil)))))) .nil)) .nil) .nil))))))
theorem t91_20 (qa0 : Addr) (qx1 : Int) (n1 : Nat) (n7 : Nat) (gg20 : Nat → Value) : pieceT Tryz.prog (at_ Tryz.f91 [1, 0, 1, 1, 1, 1, 1, 1, 0, 0, 0, 0, 0]) 85 (fx91_20 qa0 qx1 n1 n7) gg20 (mx91_20.map (·.1)) [] [] s91_20 = .hdrawn (.both (.eff (.load ⟨n7, 3, none⟩ .sl (fun l21 => .back (.eff (.callp 71 #[.pointer (some qa0), .int .i64 (IntKind.i64.wrap (qx1 + 1))] (.one (.agg [.int .i64, .int .i64, .str, .sl])) (fun r22 => .back (.eff (.new (.cells #[.int .i64 r22.1, .int .i64 r22.2.1, .string r22.2.2.1, .slice r22.2.2.2.1.1 r22.2.2.2.1.2.1 r22.2.2.2.1.2.2] 125 (0, 0)) (fun n23 => .back (.eff (.run (builtin .append #[123, 123] 123 #[false, false] #[.slice l21.1 l21.2.1 l21.2.2, .slice (some ⟨n23, 0, none⟩) 1 1]) (.one (.leaf .sl)) (fun l24 => .back (.eff (.store ⟨n7, 3, none⟩ (.slice l24.1 l24.2.1 l24.2.2) (.back (.undrawn (.fin .normal [])))))))))))) (fun ch25 => .done (.panicked ch25))))))) (.both (.eff (.callp 71 #[.pointer (some qa0), .int .i64 (IntKind.i64.wrap (qx1 + 1))] (.one (.agg [.int .i64, .int .i64, .str, .sl])) (fun r26 => .back (.both (.eff (.load ⟨n7, 3, none⟩ .sl (fun l27 => .back (.eff (.new (.cells #[.int .i64 r26.1, .int .i64 r26.2.1, .string r26.2.2.1, .slice r26.2.2.2.1.1 r26.2.2.2.1.2.1 r26.2.2.2.1.2.2] 125 (0, 0)) (fun n28 => .back (.eff (.run (builtin .append #[123, 123] 123 #[false, false] #[.slice l27.1 l27.2.1 l27.2.2, .slice (some ⟨n28, 0, none⟩) 1 1]) (.one (.leaf .sl)) (fun l29 => .back (.eff (.store ⟨n7, 3, none⟩ (.slice l29.1 l29.2.1 l29.2.2) (.back (.undrawn (.fin .normal [])))))))))))))) (.both (.eff (.new (.cells #[.int .i64 r26.1, .int .i64 r26.2.1, .string r26.2.2.1, .slice r26.2.2.2.1.1 r26.2.2.2.1.2.1 r26.2.2.2.1.2.2] 125 (0, 0)) (fun n30 => .back (.eff (.load ⟨n7, 3, none⟩ .sl (fun l31 => .back (.eff (.run (builtin .append #[123, 123] 123 #[false, false] #[.slice l31.1 l31.2.1 l31.2.2, .slice (some ⟨n30, 0, none⟩) 1 1]) (.one (.leaf .sl)) (fun l32 => .back (.eff (.store ⟨n7, 3, none⟩ (.slice l32.1 l32.2.1 l32.2.2) (.back (.undrawn (.fin .normal [])))))))))))))) (.triv)))) (fun ch33 => .done (.panicked ch33)))) (.triv))) := by kernel_rfl
abbrev fx91_38 (qa0 : Addr) (qx1 : Int) (n1 : Nat) (n7 : Nat) : List (Tmp × Value) := [(0, .pointer (some qa0)), (1, .int .i64 qx1), (4, .pointer (some ⟨n1, 0, none⟩)), (5, .pointer (some ⟨n7, 0, none⟩))]
abbrev mx91_38 : List (Tmp × Comp) := []
def s91_38 : Script := .ld .sl (.sym (.ld (.int .i64) (.clx .nil)) .nil)
theorem t91_38 (qa0 : Addr) (qx1 : Int) (n1 : Nat) (n7 : Nat) (gg38 : Nat → Value) : pieceT Tryz.prog (at_ Tryz.f91 [1, 0, 1, 1, 1, 1, 1, 1, 0, 0, 0, 0, 1, 1, 0, 1, 0, 1, 1, 1, 0, 0]) 85 (fx91_38 qa0 qx1 n1 n7) gg38 (mx91_38.map (·.1)) [] [] s91_38 = .load ⟨n7, 3, none⟩ .sl (fun l39 => .br ((↑l39.snd.fst : Int) == 6) (.load (qa0.add 1) (.int .i64) (fun x40 => .callx 72 #[.pointer (some qa0), .int .i64 22, .int .i64 x40] (fun ch41 => .done (.panicked ch41)))) (.fin .normal [])) := by kernel_rfl
def s91_19 : Script := .ct 0 [0, 1, 4, 5] mx91_20 (.clp (.tup []) (.cl (.one (.leaf (.int .u8))) (.sym (.ld (.int .i64) .nil) (.sym (.ct 0 [0, 1, 4, 5] mx91_38 (.ld (.int .i64) (.clp (.tup []) .nil .nil))) (.ld (.int .i64) (.clx .nil))))) .nil)
theorem t91_19 (qa0 : Addr) (qx1 : Int) (n1 : Nat) (n7 : Nat) (gg19 : Nat → Value) : pieceT Tryz.prog (at_ Tryz.f91 [1, 0, 1, 1, 1, 1, 1, 1, 0, 0, 0]) 85 (fx91_19 qa0 qx1 n1 n7 ++ mvals m91_19 (())) gg19 (m91_19.map (·.1)) (mx91_19.map (·.1)) (mr91_19.map (·.1)) s91_19 = .cut (at_ Tryz.f91 [1, 0, 1, 1, 1, 1, 1, 1, 0, 0, 0, 0, 0]) 85 (fx91_20 qa0 qx1 n1 n7) mx91_20 (fun u34 g34 => .callp 70 #[.pointer (some qa0)] (.tup []) (fun r35 => .call 88 #[.pointer (some qa0)] (.one (.leaf (.int .u8))) (fun x36 => .br (x36 == 93) (.load (qa0.add 1) (.int .i64) (fun x37 => .store (qa0.add 1) (.int .i64 (IntKind.i64.wrap (x37 + 1))) (.fin (.exit 0) []))) (.br (x36 == 44) (.cut (at_ Tryz.f91 [1, 0, 1, 1, 1, 1, 1, 1, 0, 0, 0, 0, 1, 1, 0, 1, 0, 1, 1, 1, 0, 0]) 85 (fx91_38 qa0 qx1 n1 n7) mx91_38 (fun u42 g42 => .load (qa0.add 1) (.int .i64) (fun x43 => .store (qa0.add 1) (.int .i64 (IntKind.i64.wrap (x43 + 1))) (.callp 70 #[.pointer (some qa0)] (.tup []) (fun r44 => .fin .normal []) (fun ch45 => .done (.panicked ch45)))))) (.load (qa0.add 1) (.int .i64) (fun x46 => .callx 72 #[.pointer (some qa0), .int .i64 28, .int .i64 x46] (fun ch47 => .done (.panicked ch47))))))) (fun ch48 => .done (.panicked ch48))) := by kernel_rfl
def s91 : Script := .ct 1 [0, 1, 4] mx91_2 (.ld (.int .i64) (.clp (.tup []) (.cl (.one (.leaf (.int .u8))) (.sym (.ld (.int .i64) (.ld (.int .i64) (.ld (.int .i64) (.ld .str (.ld .sl (.ld (.int .i64) (.ld (.int .i64) (.ld .str (.ld .sl .nil))))))))) (.lp 0 [0, 1, 4, 5] [] mx91_19 mr91_19 (.ld (.int .i64) (.ld (.int .i64) (.ld .str (.ld .sl (.ld (.int .i64) (.ld (.int .i64) (.ld .str (.ld .sl .nil)))))))) .nil))) .nil))
theorem t91 (qa0 : Addr) (qx1 : Int) : fnT Tryz.prog Tryz.f91 #[.pointer (some qa0), .int .i64 qx1] s91 = .new (.cells #[.int .i64 0, .int .i64 0, .string (bytesL []), .slice none 0 0] 125 (0, 0)) (fun n1 => .cut (at_ Tryz.f91 [1, 0, 0]) 85 (fx91_2 qa0 qx1 n1) mx91_2 (fun u5 g5 => .load (qa0.add 1) (.int .i64) (fun x6 => .store (qa0.add 1) (.int .i64 (IntKind.i64.wrap (x6 + 1))) (.new (.cells #[.int .i64 0, .int .i64 0, .string (bytesL []), .slice none 0 0] 125 (0, 0)) (fun n7 => .store ⟨n7, 0, none⟩ (.int .i64 3) (.store ⟨n7, 1, none⟩ (.int .i64 0) (.store ⟨n7, 2, none⟩ (.string (bytesL [])) (.store ⟨n7, 3, none⟩ (.slice none 0 0) (.callp 70 #[.pointer (some qa0)] (.tup []) (fun r8 => .call 88 #[.pointer (some qa0)] (.one (.leaf (.int .u8))) (fun x9 => .br (x9 == 93) (.load (qa0.add 1) (.int .i64) (fun x10 => .store (qa0.add 1) (.int .i64 (IntKind.i64.wrap (x10 + 1))) (.load ⟨n7, 0, none⟩ (.int .i64) (fun x11 => .load ⟨n7, 1, none⟩ (.int .i64) (fun x12 => .load ⟨n7, 2, none⟩ .str (fun s13 => .load ⟨n7, 3, none⟩ .sl (fun l14 => .store ⟨n1, 0, none⟩ (.int .i64 x11) (.store ⟨n1, 1, none⟩ (.int .i64 x12) (.store ⟨n1, 2, none⟩ (.string s13) (.store ⟨n1, 3, none⟩ (.slice l14.1 l14.2.1 l14.2.2) (.load ⟨n1, 0, none⟩ (.int .i64) (fun x15 => .load ⟨n1, 1, none⟩ (.int .i64) (fun x16 => .load ⟨n1, 2, none⟩ .str (fun s17 => .load ⟨n1, 3, none⟩ .sl (fun l18 => .done (.returned (.agg #[.int .i64 x15, .int .i64 x16, .string s17, .slice l18.1 l18.2.1 l18.2.2]))))))))))))))))) (.loop (at_ Tryz.f91 [1, 0, 1, 1, 1, 1, 1, 1, 0, 0, 0]) 85 (fx91_19 qa0 qx1 n1 n7) [] mx91_19 mr91_19 0 (fun u49 g49 => .load ⟨n7, 0, none⟩ (.int .i64) (fun x50 => .load ⟨n7, 1, none⟩ (.int .i64) (fun x51 => .load ⟨n7, 2, none⟩ .str (fun s52 => .load ⟨n7, 3, none⟩ .sl (fun l53 => .store ⟨n1, 0, none⟩ (.int .i64 x50) (.store ⟨n1, 1, none⟩ (.int .i64 x51) (.store ⟨n1, 2, none⟩ (.string s52) (.store ⟨n1, 3, none⟩ (.slice l53.1 l53.2.1 l53.2.2) (.load ⟨n1, 0, none⟩ (.int .i64) (fun x54 => .load ⟨n1, 1, none⟩ (.int .i64) (fun x55 => .load ⟨n1, 2, none⟩ .str (fun s56 => .load ⟨n1, 3, none⟩ .sl (fun l57 => .done (.returned (.agg #[.int .i64 x54, .int .i64 x55, .string s56, .slice l57.1 l57.2.1 l57.2.2]))))))))))))))) (fun u58 g58 => .stuck)))) (fun ch59 => .done (.panicked ch59))))))))))) := by kernel_rfl
theorem rlist_any (k : Nat) (nd : Nat) (s : ByteArray) (depth : Int) (h7 : 11 ≤ nd) (d0 : 0 ≤ depth) (d1 : depth ≤ 3)
    (hv : depth < 3 → ∀ (w : World) (i : Nat) (parts : Int), RdS w nd s i parts → Tabs w → Ev w → 0 ≤ parts → parts ≤ 12 → Calls Tryz.prog 71 #[.pointer (some ⟨nd, 0, none⟩), .int .i64 (depth + 1)] w (RdR w nd s (rdX k (depth + 1) (rest s i) parts)))
    (w : World) (i : Nat) (parts : Int) (D : RdS w nd s i parts) (hT : Tabs w) (hE : Ev w) (p0 : 0 ≤ parts) (p1 : parts ≤ 12) (hp : pk (rest s i) = 91) :
    Calls Tryz.prog 91 #[.pointer (some ⟨nd, 0, none⟩), .int .i64 depth] w (RdR w nd s (rlistX (rdX k (depth + 1)) depth (rest s i) parts)) := by
  refine calls_of_fnT mixed Tryz.func91 (s := s91) ?_
  rw [t91]
  simp only [addr_add, Nat.zero_add]
  have hnd := D.blk.lt
  have hil := pk_lt s i (by omega)
  refine nw fun w1 h1 z1 b1 => ?_
  have D1 := D.no h1
  unfold rlistX
  refine cut_i mixed s91_2 (fun (v : Unit) w' => ¬ depth ≥ 3 ∧ w' = w1) (by kernel_rfl) (fun g => ?_) ?_
  · rw [t91_2]
    simp only [addr_add, Nat.zero_add]
    refine br_both (fun e => ?_) fun e => ?_
    · have e := of_decide_eq_true e
      refine ld_int D1.c1 (cx_i (rfail_any _ _ _ w1) ?_)
      rintro r w3 ⟨rfl, rfl⟩
      refine ⟨_, rfl, h1.no, ?_⟩
      rw [if_pos e]
      exact RBad.mk 23 D.le
    · exact ⟨rfl, (), rfl, of_decide_eq_false e, rfl⟩
  rintro ⟨⟩ g w2 ⟨hd, rfl⟩
  rw [if_neg hd, rest_tail]
  refine ld_int D1.c1 (at_next D1 hil fun w3 h3 D3 => ?_)
  have B3 := b1.ch h3 (fun e : w.heap.size = nd => by omega)
  have s3 := h3.size
  refine nw fun w4 h4 z4 b4 => ?_
  refine st_blk b4 (by simp) rfl fun w5 h5 z5 b5 => st_blk b5 (by simp) rfl fun w6 h6' z6 b6 => st_blk b6 (by simp) rfl fun w7 h7' z7 b7 => st_blk b7 (by simp) rfl fun w8 h8 z8 b8 => ?_
  have h38 : Ch No w3 w8 := h4.then_ (h5.trans (h6'.trans (h7'.trans h8))) (fun i hi (e : i = _) => by omega)
  have D8 := D3.no h38
  have H8 : Ch (· = nd) w w8 := h1.no.trans (h3.trans h38.no)
  have B8 := B3.ch h38 (fun h => h)
  generalize hn6 : w3.heap.size = n6 at *
  have hbase : w8.heap.size = n6 + 1 := by omega
  refine cp_i (blanks_any w8 nd s (i + 1) parts D8) ?_
  rintro r w9 ⟨rfl, h9, i9, D9, hi9⟩
  refine .inl ⟨(), rfl, ?_⟩
  rw [← hi9]
  have s9 := h9.size
  have H9 := H8.trans h9
  have B9 := B8.ch h9 (fun e : w.heap.size = nd => by omega)
  have b9 := b8.ch h9 (fun e : n6 = nd => by omega)
  have T9 : Tabs w9 := hT.ch (base := nd) (H9.mono fun k (h : k = nd) => by show nd ≤ k; omega) h7
  have E9 : Ev w9 := hE.ch H9 (fun e : 7 = nd => by omega)
  refine cl_i (peek_any w9 nd s i9 parts D9) ?_
  rintro r w10 ⟨rfl, h10⟩
  refine ⟨_, rfl, ?_⟩
  have D10 := D9.no h10
  have H10 := H9.trans h10.no
  have B10 := B9.ch h10 (fun h => h)
  have c10 := b9.ch h10 (fun h => h)
  have s10 := h10.size
  -- the result's block written and read
  have fin : ∀ (wz : World) (q : Option Addr) (t d : Nat) (acc : List Elt) (i' : Nat) (n' : Int), Blk wz n6 [.int .i64 3, .int .i64 0, .string (bytesL []), .slice q t d] 125 → Blk wz w.heap.size [.int .i64 0, .int .i64 0, .string (bytesL []), .slice none 0 0] 125 → RowV wz (n6 + 1) q t d acc → Ch (· = nd) w wz → RdS wz nd s i' n' →
      ∀ w', Ch (· = w.heap.size) wz w' → RdR w nd s (.ok (.mk 3 0 (bytesL []) (acc.map (·.1)), rest s i', n')) (.returned (valV (.mk 3 0 (bytesL []) (acc.map (·.1))) q t d)) w' := by
    intro wz q t d acc i' n' hb hB hV hC hD w' hw
    have V' := hV.ch hw (fun k hk (e : k = w.heap.size) => by omega)
    exact ⟨hC.then_ hw (fun b hb (e : b = w.heap.size) => by omega), q, t, d, i', rfl, (V'.is 3 0 (bytesL [])).mono fun b hb => ⟨by omega, hb.2⟩, hD.keep hw (fun e : nd = w.heap.size => by omega), rfl⟩
  refine br_both (fun e => ?_) fun e => ?_
  · have e : (pk (rest s i9) : Int) = 93 := by simpa using e
    have hl9 := pk_lt s i9 (by omega)
    rw [if_pos (by omega), rest_tail]
    refine ld_int D10.c1 (at_next D10 hl9 fun w11 h11 D11 => ?_)
    have B11 := B10.ch h11 (fun e : w.heap.size = nd => by omega)
    have c11 := c10.ch h11 (fun e : n6 = nd => by omega)
    refine ld_int (c11.cell 0) (ld_int (c11.cell 1) (ld_str (c11.cell 2) (ld_sl (c11.cell 3) ?_)))
    refine st_blk B11 (by simp) rfl fun w12 h12 z12 b12 => st_blk b12 (by simp) rfl fun w13 h13 z13 b13 => st_blk b13 (by simp) rfl fun w14 h14 z14 b14 => st_blk b14 (by simp) rfl fun w15 h15 z15 b15 => ?_
    refine ld_int (b15.cell 0) (ld_int (b15.cell 1) (ld_str (b15.cell 2) (ld_sl (b15.cell 3) ?_)))
    exact fin w11 none 0 0 [] (i9 + 1) parts c11 B11 (RowV.nil _ _) (H10.trans h11) D11 w15 (h12.trans (h13.trans (h14.trans h15)))
  have e : ¬ (pk (rest s i9) : Int) = 93 := by simpa using e
  rw [if_neg (by omega)]
  refine loop_i mixed m91_19 s91_19 (by kernel_rfl) (by kernel_rfl)
    (fun (_ : Unit) w' => ∃ (t : Nat) (q : Option Addr) (d : Nat) (acc : List Elt) (i' : Nat) (n' : Int), t < 6 ∧ Blk w' n6 [.int .i64 3, .int .i64 0, .string (bytesL []), .slice q t d] 125 ∧ Blk w' w.heap.size [.int .i64 0, .int .i64 0, .string (bytesL []), .slice none 0 0] 125 ∧
      RowV w' (n6 + 1) q t d acc ∧ Ch (· = nd) w w' ∧ RdS w' nd s i' n' ∧ 0 ≤ n' ∧ n' ≤ 12 ∧ n6 + 1 ≤ w'.heap.size ∧
      ritemsX (rdX k (depth + 1)) 6 [] (rest s i9) parts = ritemsX (rdX k (depth + 1)) (6 - t) (acc.map (·.1)) (rest s i') n')
    (fun (_ : Unit) w' => match w'.cell? ⟨n6, 3, none⟩ with
      | some (.slice _ n _) => 6 - n
      | _ => 0) () rfl ⟨0, none, 0, [], i9, parts, by omega, c10, B10, RowV.nil _ _, H10, D10, p0, p1, by omega, rfl⟩ ?_
  rintro ⟨⟩ g wz ⟨t, q, d, acc, i', n', ht6, bz, Bz, Vz, Hz, Dz, n0, n1', hsz, hm⟩
  rw [t91_19]
  simp only [addr_add, Nat.zero_add]
  obtain ⟨f, hf⟩ : ∃ f, 6 - t = f + 1 := ⟨5 - t, by omega⟩
  rw [hf] at hm
  have hm' : ritemsX (rdX k (depth + 1)) 6 [] (rest s i9) parts = (match rdX k (depth + 1) (rest s i') n' with
    | .error e => .error e
    | .ok (x, l1, n1) => if pk (blanksM l1) = 93 then .ok (acc.map (·.1) ++ [x], (blanksM l1).tail, n1)
      else if pk (blanksM l1) = 44 then (if f = 0 then .error (22, (blanksM l1).length) else ritemsX (rdX k (depth + 1)) f (acc.map (·.1) ++ [x]) (blanksM (blanksM l1).tail) n1)
      else .error (28, (blanksM l1).length)) := hm
  have hd3 : depth < 3 := by omega
  have hdw : IntKind.i64.wrap (depth + 1) = depth + 1 := by rw [IntKind.wrap_i64]; omega
  have cz : wz.cell? ⟨n6, 3, none⟩ = some (.slice q t d) := bz.cell 3
  refine cut_i mixed s91_20 (fun (v : Unit) w' => ∃ (x : VT) (q1 : Option Addr) (k1 c1 : Nat) (i1 : Nat) (n1 : Int) (q' : Option Addr) (d' : Nat), rdX k (depth + 1) (rest s i') n' = .ok (x, rest s i1, n1) ∧ Blk w' n6 [.int .i64 3, .int .i64 0, .string (bytesL []), .slice q' (t + 1) d'] 125 ∧ Blk w' w.heap.size [.int .i64 0, .int .i64 0, .string (bytesL []), .slice none 0 0] 125 ∧
      RowV w' (n6 + 1) q' (t + 1) d' (acc ++ [(x, q1, k1, c1)]) ∧ Ch (· = nd) w w' ∧ RdS w' nd s i1 n1 ∧ 0 ≤ n1 ∧ n1 ≤ 12 ∧ n6 + 1 ≤ w'.heap.size) (by kernel_rfl) (fun g => ?_) ?_
  · rw [t91_20, hdw]
    refine ⟨fun _ => True, trivial, ?_⟩
    have hdr : Ch No wz wz.drew := (Ch.refl _ _).drew
    replace bz := bz.ch hdr (fun h => h)
    replace Bz := Bz.ch hdr (fun h => h)
    replace Vz := Vz.ch hdr (fun _ _ h => h)
    replace Hz := Hz.trans hdr.no
    replace Dz := Dz.no hdr
    replace hsz := Nat.le_trans hsz hdr.size
    clear hdr cz
    generalize wz.drew = w9' at *
    have Tz : Tabs w9' := hT.ch (base := nd) (Hz.mono fun k (h : k = nd) => by show nd ≤ k; omega) h7
    have Ez : Ev w9' := hE.ch Hz (fun e : 7 = nd => by omega)
    have ok : ∀ (x : VT) (q1 : Option Addr) (k1 c1 : Nat) (i1 : Nat) (n1 : Int), rdX k (depth + 1) (rest s i') n' = .ok (x, rest s i1, n1) → ∀ w10', Ch (· = nd) w9' w10' → RdS w10' nd s i1 n1 → ∀ w13 q' d', Blk w13 n6 [.int .i64 3, .int .i64 0, .string (bytesL []), .slice q' (t + 1) d'] 125 → RowV w13 (n6 + 1) q' (t + 1) d' (acc ++ [(x, q1, k1, c1)]) → Ch (fun b => n6 ≤ b) w10' w13 →
        (Exit.normal = Exit.normal ∧ ∃ v : Unit, ([] : List (Tmp × Value)) = mvals mx91_20 v ∧ ∃ (x : VT) (q1 : Option Addr) (k1 c1 : Nat) (i1 : Nat) (n1 : Int) (q' : Option Addr) (d' : Nat), rdX k (depth + 1) (rest s i') n' = .ok (x, rest s i1, n1) ∧ Blk w13 n6 [.int .i64 3, .int .i64 0, .string (bytesL []), .slice q' (t + 1) d'] 125 ∧ Blk w13 w.heap.size [.int .i64 0, .int .i64 0, .string (bytesL []), .slice none 0 0] 125 ∧
          RowV w13 (n6 + 1) q' (t + 1) d' (acc ++ [(x, q1, k1, c1)]) ∧ Ch (· = nd) w w13 ∧ RdS w13 nd s i1 n1 ∧ 0 ≤ n1 ∧ n1 ≤ 12 ∧ n6 + 1 ≤ w13.heap.size) := by
      intro x q1 k1 c1 i1 n1 hx w10' hc10 hD w13 q' d' hb hV hC
      have hb12 := partV_bound x n' (depth + 1) n0 n1'
      rw [(rd_is k _ _ _ _ _ _ (rdX_ok hx)).1] at hb12
      have := hc10.size
      have := hC.size
      exact ⟨rfl, (), rfl, x, q1, k1, c1, i1, n1, q', d', hx, hb, (Bz.ch hc10 (fun e : w.heap.size = nd => by omega)).ch hC (fun h => by omega), hV, (Hz.trans hc10).then_ hC (fun b hb h => by omega), hD.keep hC (fun h => by omega), hb12.1, hb12.2.2 rfl, by omega⟩
    have bad : ∀ f, rdX k (depth + 1) (rest s i') n' = .error f → ∀ e2 w10', Ch (· = nd) w9' w10' → RBad s f e2 → RdR w nd s (match ritemsX (rdX k (depth + 1)) 6 [] (rest s i9) parts with
        | .error e => .error e
        | .ok (xs, l2, n2) => .ok (.mk 3 0 (bytesL []) xs, l2, n2)) e2 w10' := by
      intro f hx e2 w10' hc hb
      refine ⟨Hz.trans hc, ?_⟩
      rw [hm', hx]
      exact hb
    refine ⟨?_, ?_, trivial⟩
    · refine eff_i (ld_sl (bz.cell 3) (bk trivial (eff_i ?_)))
      refine cp_i (hv hd3 w9' i' n' Dz Tz Ez n0 n1') ?_
      rintro e2 w10' ⟨h10', hr⟩
      cases hx : rdX k (depth + 1) (rest s i') n' with
      | error f =>
        rw [hx] at hr
        have hr' := hr
        refine .inr ⟨_, hr, ?_⟩
        exact bad f hx _ w10' h10' rfl
      | ok y =>
        obtain ⟨x, l1, n1⟩ := y
        rw [hx] at hr
        obtain ⟨q1, k1, c1, i1, rfl, hI, D10', rfl⟩ := hr
        refine .inl ⟨(x.kind, x.int, x.text, (q1, k1, c1), ()), rfl, bk trivial (eff_i ?_)⟩
        refine nw fun w11 h11 z11 b11 => bk trivial (eff_i ?_)
        exact list_tail2 nd n6 (by omega) w9' w10' w11 q t d acc (by omega) bz Vz hsz h10' (x, q1, k1, c1) hI h11 _ b11 _ (fun w13 q' d' a1 a2 a3 => by have h := ok x q1 k1 c1 i1 n1 hx w10' h10' D10' w13 q' d' a1 a2 a3; rw [hx] at h; exact h)
    refine eff_i ?_
    refine cp_i (hv hd3 w9' i' n' Dz Tz Ez n0 n1') ?_
    rintro e2 w10' ⟨h10', hr⟩
    cases hx : rdX k (depth + 1) (rest s i') n' with
    | error f =>
      rw [hx] at hr
      refine .inr ⟨_, hr, ?_⟩
      exact bad f hx _ w10' h10' rfl
    | ok y =>
      obtain ⟨x, l1, n1⟩ := y
      rw [hx] at hr
      obtain ⟨q1, k1, c1, i1, rfl, hI, D10', rfl⟩ := hr
      have b10' := bz.ch h10' (fun e : n6 = nd => by omega)
      refine .inl ⟨(x.kind, x.int, x.text, (q1, k1, c1), ()), rfl, bk trivial ⟨?_, ?_, trivial⟩⟩
      · refine eff_i (ld_sl (b10'.cell 3) (bk trivial (eff_i ?_)))
        refine nw fun w11 h11 z11 b11 => bk trivial (eff_i ?_)
        exact list_tail2 nd n6 (by omega) w9' w10' w11 q t d acc (by omega) bz Vz hsz h10' (x, q1, k1, c1) hI h11 _ b11 _ (fun w13 q' d' a1 a2 a3 => by have h := ok x q1 k1 c1 i1 n1 hx w10' h10' D10' w13 q' d' a1 a2 a3; rw [hx] at h; exact h)
      · refine eff_i (nw fun w11 h11 z11 b11 => bk trivial (eff_i ?_))
        refine ld_sl ((b10'.ch h11 (fun h => h)).cell 3) (bk trivial (eff_i ?_))
        exact list_tail2 nd n6 (by omega) w9' w10' w11 q t d acc (by omega) bz Vz hsz h10' (x, q1, k1, c1) hI h11 _ b11 _ (fun w13 q' d' a1 a2 a3 => by have h := ok x q1 k1 c1 i1 n1 hx w10' h10' D10' w13 q' d' a1 a2 a3; rw [hx] at h; exact h)
  rintro ⟨⟩ g wa ⟨x, q1, k1, c1, i1, n1, q', d', hx, ba, Ba, Va, Ha, Da, m0, m1, hsa⟩
  rw [hx] at hm'
  dsimp only at hm'
  refine cp_i (blanks_any wa nd s i1 n1 Da) ?_
  rintro r wb ⟨rfl, hb, i2, Db, hi2⟩
  refine .inl ⟨(), rfl, ?_⟩
  rw [← hi2] at hm'
  have sb := hb.size
  have Hb := Ha.trans hb
  refine cl_i (peek_any wb nd s i2 n1 Db) ?_
  rintro r wc ⟨rfl, hc⟩
  refine ⟨_, rfl, ?_⟩
  have sc := hc.size
  have Dc := Db.no hc
  have Hc := Hb.trans hc.no
  have hac : Ch (· = nd) wa wc := hb.trans hc.no
  have bc := ba.ch hac (fun e : n6 = nd => by omega)
  have Bc := Ba.ch hac (fun e : w.heap.size = nd => by omega)
  have Vc := Va.ch hac (fun k hk (e : k = nd) => by omega)
  have hcz : ∀ (w' : World), Ch (· = nd) wc w' → w'.cell? ⟨n6, 3, none⟩ = some (.slice q' (t + 1) d') := fun w' h => (bc.ch h (fun e : n6 = nd => by omega)).cell 3
  refine br_both (fun e => ?_) fun e1 => br_both (fun e => ?_) fun e2 => ?_
  · have e : (pk (rest s i2) : Int) = 93 := by simpa using e
    have hl2 := pk_lt s i2 (by omega)
    refine ld_int Dc.c1 (at_next Dc hl2 fun wd hd' Dd => ?_)
    refine ⟨rfl, (), rfl, fun g => ?_⟩
    have bd := bc.ch hd' (fun e : n6 = nd => by omega)
    have Bd := Bc.ch hd' (fun e : w.heap.size = nd => by omega)
    have Vd := Vc.ch hd' (fun k hk (e : k = nd) => by omega)
    refine ld_int (bd.cell 0) (ld_int (bd.cell 1) (ld_str (bd.cell 2) (ld_sl (bd.cell 3) ?_)))
    refine st_blk Bd (by simp) rfl fun w12 h12 z12 b12 => st_blk b12 (by simp) rfl fun w13 h13 z13 b13 => st_blk b13 (by simp) rfl fun w14 h14 z14 b14 => st_blk b14 (by simp) rfl fun w15 h15 z15 b15 => ?_
    refine ld_int (b15.cell 0) (ld_int (b15.cell 1) (ld_str (b15.cell 2) (ld_sl (b15.cell 3) ?_)))
    have := fin wd q' (t + 1) d' (acc ++ [(x, q1, k1, c1)]) (i2 + 1) n1 bd Bd Vd (Hc.trans hd') Dd w15 (h12.trans (h13.trans (h14.trans h15)))
    rw [hm', if_pos (by omega), rest_tail]
    rw [List.map_append] at this
    exact this
  · have e1 : ¬ (pk (rest s i2) : Int) = 93 := by simpa using e1
    have e : (pk (rest s i2) : Int) = 44 := by simpa using e
    have hl2 := pk_lt s i2 (by omega)
    rw [if_neg (by omega), if_pos (by omega), rest_tail] at hm'
    refine cut_i mixed s91_38 (fun (v : Unit) w' => t + 1 ≠ 6 ∧ w' = wc) (by kernel_rfl) (fun g => ?_) ?_
    · rw [t91_38]
      simp only [addr_add, Nat.zero_add]
      refine ld_sl (bc.cell 3) (br_both (fun e => ?_) fun e => ?_)
      · have e : ((t + 1 : Nat) : Int) = 6 := by simpa using e
        refine ld_int Dc.c1 (cx_i (rfail_any _ _ _ wc) ?_)
        rintro r we ⟨rfl, rfl⟩
        refine ⟨_, rfl, Hc, ?_⟩
        obtain rfl : f = 0 := by omega
        rw [hm', if_pos rfl]
        exact RBad.mk 22 Dc.le
      · have e : ¬ ((t + 1 : Nat) : Int) = 6 := by simpa using e
        exact ⟨rfl, (), rfl, by omega, rfl⟩
    rintro ⟨⟩ g wd ⟨ht, rfl⟩
    refine ld_int Dc.c1 (at_next Dc hl2 fun we he De => ?_)
    refine cp_i (blanks_any we nd s (i2 + 1) n1 De) ?_
    rintro r wf ⟨rfl, hf', i3, Df, hi3⟩
    refine .inl ⟨(), rfl, ?_⟩
    have hcf := he.trans hf'
    refine ⟨(), rfl, ⟨t + 1, q', d', _, i3, n1, by omega, bc.ch hcf (fun e : n6 = nd => by omega), Bc.ch hcf (fun e : w.heap.size = nd => by omega), Vc.ch hcf (fun k hk (e : k = nd) => by omega), Hc.trans hcf, Df, m0, m1, by have := hcf.size; omega, ?_⟩, ?_⟩
    · rw [hm', if_neg (by omega), hi3, show 6 - (t + 1) = f by omega, List.map_append]
      rfl
    · rw [cz, hcz _ hcf]
      show 6 - (t + 1) < 6 - t
      omega
  · have e1 : ¬ (pk (rest s i2) : Int) = 93 := by simpa using e1
    have e2 : ¬ (pk (rest s i2) : Int) = 44 := by simpa using e2
    rw [if_neg (by omega), if_neg (by omega)] at hm'
    refine ld_int Dc.c1 (cx_i (rfail_any _ _ _ wc) ?_)
    rintro r we ⟨rfl, rfl⟩
    refine ⟨_, rfl, Hc, ?_⟩
    rw [hm']
    exact RBad.mk 28 Dc.le
/-! the tree of function 71 -/
abbrev fx71_3 (qa0 : Addr) (qx1 : Int) (n1 : Nat) (x2 : Int) : List (Tmp × Value) := [(0, .pointer (some qa0)), (1, .int .i64 qx1), (4, .pointer (some ⟨n1, 0, none⟩)), (5, .int .u8 x2)]
abbrev mx71_3 : List (Tmp × Comp) := [(6, .leaf .bool)]
def s71_3 : Script := .sym (.lit (.lit .nil)) (.lit (.lit .nil))
theorem t71_3 (qa0 : Addr) (qx1 : Int) (n1 : Nat) (x2 : Int) (gg3 : Nat → Value) : pieceT Tryz.prog (at_ Tryz.f71 [1, 1, 0]) 76 (fx71_3 qa0 qx1 n1 x2) gg3 (mx71_3.map (·.1)) [] [] s71_3 = .br (Decidable.decide (x2 ≥ 48)) (.fin .normal [(6, .bool (Decidable.decide (x2 ≤ 57)))]) (.fin .normal [(6, .bool false)]) := by kernel_rfl
abbrev fx71_5 (qa0 : Addr) (qx1 : Int) (n1 : Nat) (x2 : Int) (u4 : Bool × Unit) : List (Tmp × Value) := [(0, .pointer (some qa0)), (1, .int .i64 qx1), (4, .pointer (some ⟨n1, 0, none⟩)), (5, .int .u8 x2), (6, .bool u4.1)]
abbrev mx71_5 : List (Tmp × Comp) := []
def s71_5 : Script := .sym (.lit (.lit (.sym (.lit (.lit (.sym (.lit (.lit (.sym (.lit (.lit (.sym (.ld (.int .i64) (.clx .nil)) .nil))) (.lit (.lit (.lit .nil)))))) (.lit (.lit (.lit (.lit (.lit (.lit .nil))))))))) (.lit (.lit (.lit (.lit (.lit (.lit (.lit (.lit (.lit .nil)))))))))))) (.lit (.lit (.lit (.lit (.lit (.lit (.lit (.lit (.lit (.lit (.lit (.lit .nil))))))))))))
theorem t71_5 (qa0 : Addr) (qx1 : Int) (n1 : Nat) (x2 : Int) (u4 : Bool × Unit) (gg5 : Nat → Value) : pieceT Tryz.prog (at_ Tryz.f71 [1, 1, 1, 0]) 76 (fx71_5 qa0 qx1 n1 x2 u4) gg5 (mx71_5.map (·.1)) [] [] s71_5 = .br (x2 != 110) (.br (x2 != 45) (.br (x2 != 34) (.br (x2 != 91) (.br (!u4.fst) (.load (qa0.add 1) (.int .i64) (fun x6 => .callx 72 #[.pointer (some qa0), .int .i64 28, .int .i64 x6] (fun ch7 => .done (.panicked ch7)))) (.fin .normal [])) (.fin .normal [])) (.fin .normal [])) (.fin .normal [])) (.fin .normal []) := by kernel_rfl
abbrev fx71_10 (qa0 : Addr) (qx1 : Int) (n1 : Nat) (x2 : Int) : List (Tmp × Value) := [(0, .pointer (some qa0)), (1, .int .i64 qx1), (4, .pointer (some ⟨n1, 0, none⟩)), (5, .int .u8 x2)]
abbrev mx71_10 : List (Tmp × Comp) := []
def s71_10 : Script := .ld (.int .i64) (.sym (.ld (.int .i64) (.clx .nil)) .nil)
theorem t71_10 (qa0 : Addr) (qx1 : Int) (n1 : Nat) (x2 : Int) (gg10 : Nat → Value) : pieceT Tryz.prog (at_ Tryz.f71 [1, 1, 1, 1, 1, 0]) 76 (fx71_10 qa0 qx1 n1 x2) gg10 (mx71_10.map (·.1)) [] [] s71_10 = .load (qa0.add 2) (.int .i64) (fun x11 => .br (Decidable.decide (x11 > 12)) (.load (qa0.add 1) (.int .i64) (fun x12 => .callx 72 #[.pointer (some qa0), .int .i64 22, .int .i64 x12] (fun ch13 => .done (.panicked ch13)))) (.fin .normal [])) := by kernel_rfl
def s71 : Script := .cl (.one (.leaf (.int .u8))) (.ct 0 [0, 1, 4, 5] mx71_3 (.ct 0 [0, 1, 4, 5, 6] mx71_5 (.ld (.int .i64) (.ct 0 [0, 1, 4, 5] mx71_10 (.sym (.clp (.tup []) (.ld (.int .i64) (.ld (.int .i64) (.ld .str (.ld .sl .nil)))) .nil) (.sym (.clp (.one (.leaf .str)) (.ld (.int .i64) (.ld (.int .i64) (.ld .str (.ld .sl .nil)))) .nil) (.sym (.clp (.one (.agg [.int .i64, .int .i64, .str, .sl])) (.ld (.int .i64) (.ld (.int .i64) (.ld .str (.ld .sl .nil)))) .nil) (.clp (.one (.leaf (.int .i64))) (.ld (.int .i64) (.ld (.int .i64) (.ld .str (.ld .sl .nil)))) .nil))))))))
theorem t71 (qa0 : Addr) (qx1 : Int) : fnT Tryz.prog Tryz.f71 #[.pointer (some qa0), .int .i64 qx1] s71 = .new (.cells #[.int .i64 0, .int .i64 0, .string (bytesL []), .slice none 0 0] 125 (0, 0)) (fun n1 => .call 88 #[.pointer (some qa0)] (.one (.leaf (.int .u8))) (fun x2 => .cut (at_ Tryz.f71 [1, 1, 0]) 76 (fx71_3 qa0 qx1 n1 x2) mx71_3 (fun u4 g4 => .cut (at_ Tryz.f71 [1, 1, 1, 0]) 76 (fx71_5 qa0 qx1 n1 x2 u4) mx71_5 (fun u8 g8 => .load (qa0.add 2) (.int .i64) (fun x9 => .store (qa0.add 2) (.int .i64 (IntKind.i64.wrap (x9 + 1))) (.cut (at_ Tryz.f71 [1, 1, 1, 1, 1, 0]) 76 (fx71_10 qa0 qx1 n1 x2) mx71_10 (fun u14 g14 => .br (x2 == 110) (.callp 89 #[.pointer (some qa0), .string (bytesL [110, 111, 110, 101])] (.tup []) (fun r15 => .store ⟨n1, 0, none⟩ (.int .i64 0) (.store ⟨n1, 1, none⟩ (.int .i64 0) (.store ⟨n1, 2, none⟩ (.string (bytesL [])) (.store ⟨n1, 3, none⟩ (.slice none 0 0) (.load ⟨n1, 0, none⟩ (.int .i64) (fun x16 => .load ⟨n1, 1, none⟩ (.int .i64) (fun x17 => .load ⟨n1, 2, none⟩ .str (fun s18 => .load ⟨n1, 3, none⟩ .sl (fun l19 => .done (.returned (.agg #[.int .i64 x16, .int .i64 x17, .string s18, .slice l19.1 l19.2.1 l19.2.2]))))))))))) (fun ch20 => .done (.panicked ch20))) (.br (x2 == 34) (.callp 90 #[.pointer (some qa0)] (.one (.leaf .str)) (fun s21 => .store ⟨n1, 0, none⟩ (.int .i64 2) (.store ⟨n1, 1, none⟩ (.int .i64 0) (.store ⟨n1, 2, none⟩ (.string s21) (.store ⟨n1, 3, none⟩ (.slice none 0 0) (.load ⟨n1, 0, none⟩ (.int .i64) (fun x22 => .load ⟨n1, 1, none⟩ (.int .i64) (fun x23 => .load ⟨n1, 2, none⟩ .str (fun s24 => .load ⟨n1, 3, none⟩ .sl (fun l25 => .done (.returned (.agg #[.int .i64 x22, .int .i64 x23, .string s24, .slice l25.1 l25.2.1 l25.2.2]))))))))))) (fun ch26 => .done (.panicked ch26))) (.br (x2 == 91) (.callp 91 #[.pointer (some qa0), .int .i64 qx1] (.one (.agg [.int .i64, .int .i64, .str, .sl])) (fun r27 => .store ⟨n1, 0, none⟩ (.int .i64 r27.1) (.store ⟨n1, 1, none⟩ (.int .i64 r27.2.1) (.store ⟨n1, 2, none⟩ (.string r27.2.2.1) (.store ⟨n1, 3, none⟩ (.slice r27.2.2.2.1.1 r27.2.2.2.1.2.1 r27.2.2.2.1.2.2) (.load ⟨n1, 0, none⟩ (.int .i64) (fun x28 => .load ⟨n1, 1, none⟩ (.int .i64) (fun x29 => .load ⟨n1, 2, none⟩ .str (fun s30 => .load ⟨n1, 3, none⟩ .sl (fun l31 => .done (.returned (.agg #[.int .i64 x28, .int .i64 x29, .string s30, .slice l31.1 l31.2.1 l31.2.2]))))))))))) (fun ch32 => .done (.panicked ch32))) (.callp 92 #[.pointer (some qa0)] (.one (.leaf (.int .i64))) (fun x33 => .store ⟨n1, 0, none⟩ (.int .i64 1) (.store ⟨n1, 1, none⟩ (.int .i64 x33) (.store ⟨n1, 2, none⟩ (.string (bytesL [])) (.store ⟨n1, 3, none⟩ (.slice none 0 0) (.load ⟨n1, 0, none⟩ (.int .i64) (fun x34 => .load ⟨n1, 1, none⟩ (.int .i64) (fun x35 => .load ⟨n1, 2, none⟩ .str (fun s36 => .load ⟨n1, 3, none⟩ .sl (fun l37 => .done (.returned (.agg #[.int .i64 x34, .int .i64 x35, .string s36, .slice l37.1 l37.2.1 l37.2.2]))))))))))) (fun ch38 => .done (.panicked ch38)))))))))))) := by kernel_rfl
theorem rval_any (nd : Nat) (s : ByteArray) (h7 : 11 ≤ nd) (k : Nat) : ∀ (depth : Int), 0 ≤ depth → depth ≤ 3 → 3 - depth < (k : Int) → ∀ (w : World) (i : Nat) (parts : Int), RdS w nd s i parts → Tabs w → Ev w → 0 ≤ parts → parts ≤ 12 →
    Calls Tryz.prog 71 #[.pointer (some ⟨nd, 0, none⟩), .int .i64 depth] w (RdR w nd s (rdX k depth (rest s i) parts)) := by
  induction k with
  | zero => intro depth _ _ h; omega
  | succ k ih =>
    intro depth d0 d1 dk w i parts D hT hE p0 p1
    refine calls_of_fnT mixed Tryz.func71 (s := s71) ?_
    rw [t71]
    simp only [addr_add, Nat.zero_add]
    have hnd := D.blk.lt
    refine nw fun w1 h1 z1 b1 => ?_
    have D1 := D.no h1
    refine cl_i (peek_any w1 nd s i parts D1) ?_
    rintro r w2 ⟨rfl, h2⟩
    refine ⟨_, rfl, ?_⟩
    have D2 := D1.no h2
    have h02 : Ch No w w2 := h1.trans h2
    have b2 := b1.ch h2 (fun h => h)
    have hile := D.le
    have hp := pk_256 (rest s i)
    rw [rdX_succ]
    refine cut_i mixed s71_3 (fun (v : Bool × Unit) w' => w' = w2 ∧ v.1 = decide (48 ≤ pk (rest s i) ∧ pk (rest s i) ≤ 57)) (by kernel_rfl) (fun g => ?_) ?_
    · rw [t71_3]
      exact br_both (fun e => ⟨rfl, (decide ((pk (rest s i) : Int) ≤ 57), ()), rfl, rfl, two_t (a := 48) (b := 57) e⟩) fun e => ⟨rfl, (false, ()), rfl, rfl, two_f (a := 48) (b := 57) e⟩
    rintro ⟨v, ⟨⟩⟩ g w3 ⟨rfl, hv⟩
    dsimp only at hv
    subst hv
    have ne_ : ∀ {n : Nat} {m : Int}, m = (n : Int) → ((pk (rest s i) : Int) != m) = true → pk (rest s i) ≠ n := fun {n m} hm h he => by
      rw [hm, he] at h
      simp at h
    have eq_ : ∀ {n : Nat} {m : Int}, m = (n : Int) → ((pk (rest s i) : Int) != m) = false → pk (rest s i) = n := fun {n m} hm h => by
      rw [hm] at h
      have : (pk (rest s i) : Int) = (n : Int) := by simpa using h
      omega
    refine cut_i mixed s71_5 (fun (v : Unit) w' => w' = w3 ∧ begs (pk (rest s i)) = true) (by kernel_rfl) (fun g => ?_) ?_
    · rw [t71_5]
      simp only [addr_add, Nat.zero_add]
      have ok : begs (pk (rest s i)) = true → ∀ (v : Unit), (Exit.normal = Exit.normal ∧ ∃ v, ([] : List (Tmp × Value)) = mvals mx71_5 v ∧ w3 = w3 ∧ begs (pk (rest s i)) = true) := fun h v => ⟨rfl, (), rfl, rfl, h⟩
      refine br_both (fun e1 => br_both (fun e2 => br_both (fun e3 => br_both (fun e4 => br_both (fun e5 => ?_) fun e5 => ok ?_ ()) fun e4 => ok ?_ ()) fun e3 => ok ?_ ()) fun e2 => ok ?_ ()) fun e1 => ok ?_ ()
      · have e1 := ne_ (n := 110) rfl e1
        have e2 := ne_ (n := 45) rfl e2
        have e3 := ne_ (n := 34) rfl e3
        have e4 := ne_ (n := 91) rfl e4
        have e5 : ¬ (48 ≤ pk (rest s i) ∧ pk (rest s i) ≤ 57) := fun h => by
          rw [decide_eq_true h] at e5
          cases e5
        refine ld_int D2.c1 (cx_i (rfail_any _ _ _ w3) ?_)
        rintro r w4 ⟨rfl, rfl⟩
        refine ⟨_, rfl, h02.no, ?_⟩
        rw [if_pos (by unfold begs; exact decide_eq_false (by omega))]
        exact RBad.mk 28 hile
      · have e5 : 48 ≤ pk (rest s i) ∧ pk (rest s i) ≤ 57 := Decidable.byContradiction fun h => by
          rw [decide_eq_false h] at e5
          cases e5
        unfold begs; exact decide_eq_true (by omega)
      · have := eq_ (n := 91) rfl e4
        unfold begs; exact decide_eq_true (by omega)
      · have := eq_ (n := 34) rfl e3
        unfold begs; exact decide_eq_true (by omega)
      · have := eq_ (n := 45) rfl e2
        unfold begs; exact decide_eq_true (by omega)
      · have := eq_ (n := 110) rfl e1
        unfold begs; exact decide_eq_true (by omega)
    rintro ⟨⟩ g w4 ⟨rfl, hbeg⟩
    rw [if_neg (by rw [hbeg]; decide)]
    refine ld_int D2.c2 ?_
    have hwp : IntKind.i64.wrap (parts + 1) = parts + 1 := by rw [IntKind.wrap_i64]; omega
    rw [hwp]
    refine st_blk D2.blk (by simp) rfl fun w5 h5 z5 b5 => ?_
    have D5 : RdS w5 nd s i (parts + 1) := D2.set b5 hile
    have H5 : Ch (· = nd) w w5 := h02.no.trans h5
    have B5 := b2.ch h5 (fun e : w.heap.size = nd => by omega)
    have s2 := h2.size
    have s5 := h5.size
    refine cut_i mixed s71_10 (fun (v : Unit) w' => w' = w5 ∧ ¬ parts + 1 > 12) (by kernel_rfl) (fun g => ?_) ?_
    · rw [t71_10]
      simp only [addr_add, Nat.zero_add]
      refine ld_int D5.c2 (br_both (fun e => ?_) fun e => ⟨rfl, (), rfl, rfl, of_decide_eq_false e⟩)
      have e := of_decide_eq_true e
      refine ld_int D5.c1 (cx_i (rfail_any _ _ _ w5) ?_)
      rintro r w6 ⟨rfl, rfl⟩
      refine ⟨_, rfl, H5, ?_⟩
      rw [if_pos e]
      exact RBad.mk 22 hile
    rintro ⟨⟩ g w6 ⟨rfl, c12⟩
    rw [if_neg c12]
    have T5 : Tabs w6 := hT.ch (base := nd) (H5.mono fun k (h : k = nd) => by show nd ≤ k; omega) h7
    have E5 : Ev w6 := hE.ch H5 (fun e : 7 = nd => by omega)
    have fin : ∀ (w7 : World) (x : VT) (q : Option Addr) (n d : Nat) (i' : Nat) (n' : Int) (l1 : List UInt8), Ch (· = nd) w6 w7 → Blk w7 w.heap.size [.int .i64 0, .int .i64 0, .string (bytesL []), .slice none 0 0] 125 → IsVB (fun b => w6.heap.size ≤ b ∧ b < w7.heap.size) w7 x q n d → RdS w7 nd s i' n' → l1 = rest s i' →
        ∀ w8, Ch (· = w.heap.size) w7 w8 → RdR w nd s (.ok (x, l1, n')) (.returned (valV x q n d)) w8 := by
      intro w7 x q n d i' n' l1 h7' b7 hI D7 hl w8 h8
      refine ⟨(H5.trans h7').then_ h8 (fun b hb (e : b = w.heap.size) => by omega), q, n, d, i', rfl, ?_, D7.keep h8 (fun e : nd = w.heap.size => by omega), hl⟩
      have := h8.size
      exact (hI.ch h8 (fun b hb (e : b = w.heap.size) => by omega)).mono fun b hb => ⟨by omega, by omega⟩
    refine br_both (fun e => ?_) fun e1 => br_both (fun e => ?_) fun e2 => br_both (fun e => ?_) fun e3 => ?_
    · have e : (pk (rest s i) : Int) = 110 := by simpa using e
      rw [if_pos (by omega)]
      refine cp_i (want_any w6 nd s i (parts + 1) (bytesL [110, 111, 110, 101]) (by decide) (by decide) D5) ?_
      rintro r w7 ⟨h7', hr⟩
      have hws : (bytesL [110, 111, 110, 101]).size = 4 := rfl
      have hwl : (bytesL [110, 111, 110, 101]).data.toList = [110, 111, 110, 101] := rfl
      rw [hws, hwl] at hr
      cases hn : wantX [110, 111, 110, 101] (rest s i) with
      | ok l4 =>
        rw [hn] at hr
        obtain ⟨rfl, D7, hl4⟩ := hr
        refine .inl ⟨(), rfl, ?_⟩
        have B7 := B5.ch h7' (fun e : w.heap.size = nd => by omega)
        refine st_blk B7 (by simp) rfl fun w8 h8 z8 b8 => st_blk b8 (by simp) rfl fun w9 h9 z9 b9 => st_blk b9 (by simp) rfl fun w10 h10 z10 b10 => st_blk b10 (by simp) rfl fun w11 h11 z11 b11 => ?_
        refine ld_int (b11.cell 0) (ld_int (b11.cell 1) (ld_str (b11.cell 2) (ld_sl (b11.cell 3) ?_)))
        exact fin w7 noneV none 0 0 (i + 4) (parts + 1) _ h7' B7 (IsVB.flat _ _ _) D7 hl4 w11 (h8.trans (h9.trans (h10.trans h11)))
      | error f =>
        rw [hn] at hr
        exact .inr ⟨_, hr, H5.trans h7', rfl⟩
    · have e1 : ¬ (pk (rest s i) : Int) = 110 := by simpa using e1
      have e : (pk (rest s i) : Int) = 34 := by simpa using e
      rw [if_neg (by omega), if_pos (by omega)]
      refine cp_i (rtext_any w6 nd s i (parts + 1) D5 T5 h7 (by omega)) ?_
      rintro r w7 ⟨h7', hr⟩
      cases hx : rtextX (rest s i) with
      | error f =>
        rw [hx] at hr
        exact .inr ⟨_, hr, H5.trans h7', rfl⟩
      | ok y =>
        obtain ⟨x, l1⟩ := y
        rw [hx] at hr
        obtain ⟨rfl, i', D7, hl⟩ := hr
        refine .inl ⟨_, rfl, ?_⟩
        have B7 := B5.ch h7' (fun e : w.heap.size = nd => by omega)
        refine st_blk B7 (by simp) rfl fun w8 h8 z8 b8 => st_blk b8 (by simp) rfl fun w9 h9 z9 b9 => st_blk b9 (by simp) rfl fun w10 h10 z10 b10 => st_blk b10 (by simp) rfl fun w11 h11 z11 b11 => ?_
        refine ld_int (b11.cell 0) (ld_int (b11.cell 1) (ld_str (b11.cell 2) (ld_sl (b11.cell 3) ?_)))
        exact fin w7 (.mk 2 0 x []) none 0 0 i' (parts + 1) l1 h7' B7 (IsVB.flat _ _ _) D7 hl w11 (h8.trans (h9.trans (h10.trans h11)))
    · have e1 : ¬ (pk (rest s i) : Int) = 110 := by simpa using e1
      have e2 : ¬ (pk (rest s i) : Int) = 34 := by simpa using e2
      have e : (pk (rest s i) : Int) = 91 := by simpa using e
      rw [if_neg (by omega), if_neg (by omega), if_pos (by omega)]
      refine cp_i (rlist_any k nd s depth h7 d0 d1 (fun hd w i parts D hT hE p0 p1 => ih (depth + 1) (by omega) (by omega) (by omega) w i parts D hT hE p0 p1) w6 i (parts + 1) D5 T5 E5 (by omega) (by omega) (by omega)) ?_
      rintro r w7 ⟨h7', hr⟩
      cases hx : rlistX (rdX k (depth + 1)) depth (rest s i) (parts + 1) with
      | error f =>
        rw [hx] at hr
        exact .inr ⟨_, hr, H5.trans h7', rfl⟩
      | ok y =>
        obtain ⟨x, l1, n1⟩ := y
        rw [hx] at hr
        obtain ⟨q, n, d, i', rfl, hI, D7, hl⟩ := hr
        refine .inl ⟨(x.kind, x.int, x.text, (q, n, d), ()), rfl, ?_⟩
        have B7 := B5.ch h7' (fun e : w.heap.size = nd => by omega)
        refine st_blk B7 (by simp) rfl fun w8 h8 z8 b8 => st_blk b8 (by simp) rfl fun w9 h9 z9 b9 => st_blk b9 (by simp) rfl fun w10 h10 z10 b10 => st_blk b10 (by simp) rfl fun w11 h11 z11 b11 => ?_
        refine ld_int (b11.cell 0) (ld_int (b11.cell 1) (ld_str (b11.cell 2) (ld_sl (b11.cell 3) ?_)))
        exact fin w7 x q n d i' n1 l1 h7' B7 hI D7 hl w11 (h8.trans (h9.trans (h10.trans h11)))
    · have e1 : ¬ (pk (rest s i) : Int) = 110 := by simpa using e1
      have e2 : ¬ (pk (rest s i) : Int) = 34 := by simpa using e2
      have e3 : ¬ (pk (rest s i) : Int) = 91 := by simpa using e3
      rw [if_neg (by omega), if_neg (by omega), if_neg (by omega)]
      refine cp_i (rint_any w6 nd s i (parts + 1) D5 E5 h7) ?_
      rintro r w7 ⟨h7', hr⟩
      cases hx : rintX (rest s i) with
      | error f =>
        rw [hx] at hr
        exact .inr ⟨_, hr, H5.trans h7', rfl⟩
      | ok y =>
        obtain ⟨x, l1⟩ := y
        rw [hx] at hr
        obtain ⟨rfl, i', D7, hl⟩ := hr
        refine .inl ⟨_, rfl, ?_⟩
        have B7 := B5.ch h7' (fun e : w.heap.size = nd => by omega)
        refine st_blk B7 (by simp) rfl fun w8 h8 z8 b8 => st_blk b8 (by simp) rfl fun w9 h9 z9 b9 => st_blk b9 (by simp) rfl fun w10 h10 z10 b10 => st_blk b10 (by simp) rfl fun w11 h11 z11 b11 => ?_
        refine ld_int (b11.cell 0) (ld_int (b11.cell 1) (ld_str (b11.cell 2) (ld_sl (b11.cell 3) ?_)))
        exact fin w7 (.mk 1 x (bytesL []) []) none 0 0 i' (parts + 1) l1 h7' B7 (IsVB.flat _ _ _) D7 hl w11 (h8.trans (h9.trans (h10.trans h11)))
end Go.Proofs.YtkebljkdkaagfaaGreatDoor.V
