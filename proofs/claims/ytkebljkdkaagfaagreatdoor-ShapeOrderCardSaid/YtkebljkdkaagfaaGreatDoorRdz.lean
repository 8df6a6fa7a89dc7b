/- caught, its deferred closure, Parse with its faults. -/
import Derived.Test.YtkebljkdkaagfaaGreatDoorRdw
import Derived.Tactics
import Derived.Tactics2
import Derived.Laws.Pointers
namespace Go.Proofs.YtkebljkdkaagfaaGreatDoor.V
open Go Tr
open Go.RowKit (Below)
set_option maxRecDepth 100000
/-- What is thrown. -/
def gu (er at_ : Int) : Value := .iface 141 (.agg #[.int .i64 er, .int .i64 at_])
/-! the tree of function 69 -/
abbrev fx69_2 (er : Int) (pl : Int) (qa1 : Addr) (qa2 : Addr) (qa3 : Addr) (n1 : Nat) : List (Tmp × Value) := [(0, .iface 141 (.agg #[.int .i64 er, .int .i64 pl])), (1, .pointer (some qa1)), (2, .pointer (some qa2)), (3, .pointer (some qa3)), (8, .pointer (some ⟨n1, 0, none⟩)), (9, .bool true)]
abbrev mx69_2 : List (Tmp × Comp) := []
def s69_2 : Script := .lit .nil
theorem t69_2 (er : Int) (pl : Int) (qa1 : Addr) (qa2 : Addr) (qa3 : Addr) (n1 : Nat) (gg2 : Nat → Value) : pieceT Tryz.prog (at_ Tryz.f69 [1, 1, 0]) 31 (fx69_2 er pl qa1 qa2 qa3 n1) gg2 (mx69_2.map (·.1)) [] [] s69_2 = .fin .normal [] := by kernel_rfl
def s69 : Script := .lit (.ct 1 [0, 1, 2, 3, 8, 9] mx69_2 (.hd0 (.hq 0 (.hq 1 (.hq 2 (.hq 3 (.hq 4 (.hq 5 (.ld (.int .i64) (.hq 6 (.hq 7 (.ld (.int .i64) (.hq 8 (.he 9 (.hq 10 (.he 11 (.hq 12 (.he 13 .nil))))))))))))))))))
theorem t69 (er : Int) (pl : Int) (qa1 : Addr) (qa2 : Addr) (qa3 : Addr) : fnT Tryz.prog Tryz.f69 #[.iface 141 (.agg #[.int .i64 er, .int .i64 pl]), .pointer (some qa1), .pointer (some qa2), .pointer (some qa3)] s69 = .new (.cells #[.int .i64 0, .int .i64 0] 141 (0, 0)) (fun n1 => .store ⟨n1, 0, none⟩ (.int .i64 er) (.store ⟨n1, 1, none⟩ (.int .i64 pl) (.cut (at_ Tryz.f69 [1, 1, 0]) 31 (fx69_2 er pl qa1 qa2 qa3 n1) mx69_2 (fun u3 g3 => .hdrawn (.load ⟨n1, 1, none⟩ (.int .i64) (fun x4 => .load ⟨n1, 0, none⟩ (.int .i64) (fun x5 => .eff (.store qa1 (.int .i64 0) (.store (qa1.add 1) (.int .i64 0) (.store (qa1.add 2) (.string (bytesL [])) (.store (qa1.add 3) (.slice none 0 0) (.back (.eff (.store qa2 (.int .i64 x4) (.back (.eff (.store qa3 (.int .i64 x5) (.back (.undrawn (.done (.returned (.tuple #[])))))))))))))))))))))) := by kernel_rfl
/-! the tree of function 2900 -/
def s69n : Script := .lit .nil
theorem t69n (qa1 : Addr) (qa2 : Addr) (qa3 : Addr) : fnT Tryz.prog Tryz.f69 #[.nilIface, .pointer (some qa1), .pointer (some qa2), .pointer (some qa3)] s69n = .done (.returned (.tuple #[])) := by kernel_rfl
theorem caught_nil (a b c : Addr) (w : World) : Calls Tryz.prog 69 #[.nilIface, .pointer (some a), .pointer (some b), .pointer (some c)] w fun e w' => e = .returned (.tuple #[]) ∧ w' = w := by
  refine calls_of_fnT mixed Tryz.func69 (s := s69n) ?_
  rw [t69n]
  exact ⟨rfl, rfl⟩
theorem caught_any (n1 n2 n3 : Nat) (er at_ : Int) (w : World) (v1 v2 v3 v4 x y : Value) (t2 t3 : TypeId) (h12 : n1 ≠ n2) (h13 : n1 ≠ n3) (h23 : n2 ≠ n3) (b1 : Blk w n1 [v1, v2, v3, v4] 125) (b2 : Blk w n2 [x] t2) (b3 : Blk w n3 [y] t3) :
    Calls Tryz.prog 69 #[gu er at_, .pointer (some ⟨n1, 0, none⟩), .pointer (some ⟨n2, 0, none⟩), .pointer (some ⟨n3, 0, none⟩)] w fun e w' => e = .returned (.tuple #[]) ∧ Ch (fun b => b = n1 ∨ b = n2 ∨ b = n3) w w' ∧
      Blk w' n1 [.int .i64 0, .int .i64 0, .string (bytesL []), .slice none 0 0] 125 ∧ Blk w' n2 [.int .i64 at_] t2 ∧ Blk w' n3 [.int .i64 er] t3 := by
  unfold gu
  refine calls_of_fnT mixed Tryz.func69 (s := s69) ?_
  rw [t69]
  simp only [addr_add, Nat.zero_add]
  refine nw fun w1 h1 z1 c1 => ?_
  refine st_blk c1 (by simp) rfl fun w2 h2 z2 c2 => st_blk c2 (by simp) rfl fun w3 h3 z3 c3 => ?_
  have hl1 := b1.lt
  have hl2 := b2.lt
  have hl3 := b3.lt
  have h03 : Ch No w w3 := h1.then_ (h2.trans h3) (fun i hi (e : i = _) => by omega)
  refine cut_i mixed s69_2 (fun (v : Unit) w' => w' = w3) (by kernel_rfl) (fun g => ?_) ?_
  · rw [t69_2]
    exact ⟨rfl, (), rfl, rfl⟩
  rintro ⟨⟩ g w4 rfl
  have hd := (Ch.refl No w4).drew
  refine ⟨fun w' => Blk w' w.heap.size [.int .i64 er, .int .i64 at_] 141, c3.ch hd (fun h => h), ?_⟩
  replace c3 := c3.ch hd (fun h => h)
  replace b1 := (b1.ch h03 (fun h => h)).ch hd (fun h => h)
  replace b2 := (b2.ch h03 (fun h => h)).ch hd (fun h => h)
  replace b3 := (b3.ch h03 (fun h => h)).ch hd (fun h => h)
  replace h03 := h03.trans hd
  generalize w4.drew = w5 at *
  refine lh_int (x := at_) (fun w' h => h.cell 1) (lh_int (x := er) (fun w' h => h.cell 0) (eff_i ?_))
  refine st_blk b1 (by simp) rfl fun w6 h6 z6 b6 => st_blk b6 (by simp) rfl fun w7 h7 z7 b7 => st_blk b7 (by simp) rfl fun w8 h8 z8 b8 => st_blk b8 (by simp) rfl fun w9 h9 z9 b9 => ?_
  have h59 := h6.trans (h7.trans (h8.trans h9))
  have d2 := b2.ch h59 (fun e : n2 = n1 => h12 e.symm)
  have d3 := b3.ch h59 (fun e : n3 = n1 => h13 e.symm)
  have c9 := c3.ch h59 (fun e : w.heap.size = n1 => by omega)
  refine bk c9 (eff_i (st_blk d2 (by simp) rfl fun w10 h10 z10 d10 => bk (c9.ch h10 (fun e : w.heap.size = n2 => by omega)) (eff_i (st_blk (d3.ch h10 (fun e : n3 = n2 => h23 e.symm)) (by simp) rfl fun w11 h11 z11 d11 =>
    bk ((c9.ch h10 (fun e : w.heap.size = n2 => by omega)).ch h11 (fun e : w.heap.size = n3 => by omega)) ?_))))
  refine ⟨rfl, ?_, ?_, ?_, d11⟩
  · exact (h03.no.trans (h59.mono fun k h => .inl h)).trans ((h10.mono fun k h => .inr (.inl h)).trans (h11.mono fun k h => .inr (.inr h)))
  · exact (b9.ch h10 (fun e : n1 = n2 => h12 e)).ch h11 (fun e : n1 = n3 => h13 e)
  · exact d10.ch h11 (fun e : n2 = n3 => h23 e)
theorem closP_pan (a b c : Addr) (er at_ : Int) (w : World) (Post : World → Prop) (h : Calls Tryz.prog 69 #[gu er at_, .pointer (some a), .pointer (some b), .pointer (some c)] w fun e w' => e = .returned (.tuple #[]) ∧ Post w') :
    CallsD Tryz.prog 68 #[.pointer (some a), .pointer (some b), .pointer (some c)] (.panicking (thrown er at_)) w fun e u' w' => e = .returned (.tuple #[]) ∧ u' = .panicking [{ v := gu er at_, recovered := true }] ∧ Post w' := by
  refine callsD_of_wpS Tryz.func68 rfl fun c₀ cs hu => ?_
  apply wpS_region
  simp [wpOpsS, go_sem, recoverD, hu, thrown, Tryz.ntmps68]
  refine h.mono fun e w' ⟨he, hp⟩ => ?_
  subst he
  exact ⟨rfl, _, rfl, .tuple #[], by simp [results, Tryz.results68], rfl, rfl, hp⟩
theorem closP_idle (a b c : Addr) (w : World) : CallsD Tryz.prog 68 #[.pointer (some a), .pointer (some b), .pointer (some c)] .returning w fun e u' w' => e = .returned (.tuple #[]) ∧ u' = .returning ∧ w' = w := by
  refine callsD_of_wpS Tryz.func68 rfl fun c₀ cs hu => ?_
  apply wpS_region
  simp [wpOpsS, go_sem, recoverD, hu, Tryz.ntmps68]
  refine (caught_nil a b c w).mono fun e w' ⟨he, hw⟩ => ?_
  subst he hw
  exact ⟨rfl, .returning, by cases c₀; simp_all, .tuple #[], by simp [results, Tryz.results68], rfl, rfl, rfl⟩
def ParseR (w : World) (s : ByteArray) (e : Ending) (w' : World) : Prop :=
  Ch No w w' ∧ match parseX s.data.toList with
    | .error f => e = .returned (.tuple #[valV noneV none 0 0, .int .i64 ((s.size - f.2 : Nat) : Int), .int .i64 f.1])
    | .ok (x, _) => ∃ q n d, e = .returned (.tuple #[valV x q n d, .int .i64 (s.size : Int), .int .i64 0]) ∧ IsVB (fun b => w.heap.size ≤ b ∧ b < w'.heap.size) w' x q n d
/-! the tree of function 64 -/
def s64 : Script := .clp (.tup []) (.clp (.one (.agg [.int .i64, .int .i64, .str, .sl])) (.clp (.tup []) (.ld (.int .i64) (.sym (.ld (.int .i64) (.clx .nil)) (.ld (.int .i64) (.ld (.int .i64) (.ld .str (.ld .sl .nil)))))) .nil) .nil) .nil
theorem t64 (qs0 : ByteArray) : defT Tryz.prog Tryz.f64 #[.string qs0] s64 = .new (.cells #[.int .i64 0, .int .i64 0, .string (bytesL []), .slice none 0 0] 125 (0, 0)) (fun n1 => .new (.cells #[.int .i64 0] 3 (0, 0)) (fun n2 => .new (.cells #[.int .i64 0] 32 (0, 0)) (fun n3 => .mark (.new (.cells #[.string (bytesL []), .int .i64 0, .int .i64 0] 138 (0, 0)) (fun n4 => .store ⟨n4, 0, none⟩ (.string qs0) (.store ⟨n4, 1, none⟩ (.int .i64 0) (.store ⟨n4, 2, none⟩ (.int .i64 0) (.callp 70 #[.pointer (some ⟨n4, 0, none⟩)] (.tup []) (fun r5 => .callp 71 #[.pointer (some ⟨n4, 0, none⟩), .int .i64 0] (.one (.agg [.int .i64, .int .i64, .str, .sl])) (fun r6 => .store ⟨n1, 0, none⟩ (.int .i64 r6.1) (.store ⟨n1, 1, none⟩ (.int .i64 r6.2.1) (.store ⟨n1, 2, none⟩ (.string r6.2.2.1) (.store ⟨n1, 3, none⟩ (.slice r6.2.2.2.1.1 r6.2.2.2.1.2.1 r6.2.2.2.1.2.2) (.callp 70 #[.pointer (some ⟨n4, 0, none⟩)] (.tup []) (fun r7 => .load ⟨n4, 1, none⟩ (.int .i64) (fun x8 => .br (Decidable.decide (x8 < (↑qs0.size : Int))) (.load ⟨n4, 1, none⟩ (.int .i64) (fun x9 => .callx 72 #[.pointer (some ⟨n4, 0, none⟩), .int .i64 28, .int .i64 x9] (fun ch10 => .fin (.panic ch10) [(0, .func (.func 68) #[] #[.pointer (some ⟨n1, 0, none⟩), .pointer (some ⟨n2, 0, none⟩), .pointer (some ⟨n3, 0, none⟩)]), (1, .agg #[]), (2, .agg #[.string qs0, undef, .pointer (some ⟨n1, 0, none⟩), .pointer (some ⟨n2, 0, none⟩), .pointer (some ⟨n3, 0, none⟩), .pointer (some ⟨n4, 0, none⟩), .func (.func 68) #[] #[.pointer (some ⟨n1, 0, none⟩), .pointer (some ⟨n2, 0, none⟩), .pointer (some ⟨n3, 0, none⟩)], .string qs0, .agg #[.string qs0, .int .i64 0, .int .i64 0], .tuple #[], .agg #[.int .i64 r6.1, .int .i64 r6.2.1, .string r6.2.2.1, .slice r6.2.2.2.1.1 r6.2.2.2.1.2.1 r6.2.2.2.1.2.2], .tuple #[], .pointer (some ⟨n4, 1, none⟩), .int .i64 x8, .string qs0, .int .i64 (↑qs0.size : Int), .bool true, .pointer (some ⟨n4, 1, none⟩), .int .i64 x9, undef, undef, undef, undef])]))) (.load ⟨n1, 0, none⟩ (.int .i64) (fun x11 => .load ⟨n1, 1, none⟩ (.int .i64) (fun x12 => .load ⟨n1, 2, none⟩ .str (fun s13 => .load ⟨n1, 3, none⟩ .sl (fun l14 => .store ⟨n1, 0, none⟩ (.int .i64 x11) (.store ⟨n1, 1, none⟩ (.int .i64 x12) (.store ⟨n1, 2, none⟩ (.string s13) (.store ⟨n1, 3, none⟩ (.slice l14.1 l14.2.1 l14.2.2) (.store ⟨n2, 0, none⟩ (.int .i64 (↑qs0.size : Int)) (.store ⟨n3, 0, none⟩ (.int .i64 0) (.fin .ret [(0, .func (.func 68) #[] #[.pointer (some ⟨n1, 0, none⟩), .pointer (some ⟨n2, 0, none⟩), .pointer (some ⟨n3, 0, none⟩)]), (1, .agg #[]), (2, .agg #[.string qs0, undef, .pointer (some ⟨n1, 0, none⟩), .pointer (some ⟨n2, 0, none⟩), .pointer (some ⟨n3, 0, none⟩), .pointer (some ⟨n4, 0, none⟩), .func (.func 68) #[] #[.pointer (some ⟨n1, 0, none⟩), .pointer (some ⟨n2, 0, none⟩), .pointer (some ⟨n3, 0, none⟩)], .string qs0, .agg #[.string qs0, .int .i64 0, .int .i64 0], .tuple #[], .agg #[.int .i64 r6.1, .int .i64 r6.2.1, .string r6.2.2.1, .slice r6.2.2.2.1.1 r6.2.2.2.1.2.1 r6.2.2.2.1.2.2], .tuple #[], .pointer (some ⟨n4, 1, none⟩), .int .i64 x8, .string qs0, .int .i64 (↑qs0.size : Int), .bool false, undef, undef, undef, .agg #[.int .i64 x11, .int .i64 x12, .string s13, .slice l14.1 l14.2.1 l14.2.2], .string qs0, .int .i64 (↑qs0.size : Int)])]))))))))))))) (fun ch15 => .fin (.panic ch15) [(0, .func (.func 68) #[] #[.pointer (some ⟨n1, 0, none⟩), .pointer (some ⟨n2, 0, none⟩), .pointer (some ⟨n3, 0, none⟩)]), (1, .agg #[]), (2, .agg #[.string qs0, undef, .pointer (some ⟨n1, 0, none⟩), .pointer (some ⟨n2, 0, none⟩), .pointer (some ⟨n3, 0, none⟩), .pointer (some ⟨n4, 0, none⟩), .func (.func 68) #[] #[.pointer (some ⟨n1, 0, none⟩), .pointer (some ⟨n2, 0, none⟩), .pointer (some ⟨n3, 0, none⟩)], .string qs0, .agg #[.string qs0, .int .i64 0, .int .i64 0], .tuple #[], .agg #[.int .i64 r6.1, .int .i64 r6.2.1, .string r6.2.2.1, .slice r6.2.2.2.1.1 r6.2.2.2.1.2.1 r6.2.2.2.1.2.2], undef, undef, undef, undef, undef, undef, undef, undef, undef, undef, undef, undef])])))))) (fun ch16 => .fin (.panic ch16) [(0, .func (.func 68) #[] #[.pointer (some ⟨n1, 0, none⟩), .pointer (some ⟨n2, 0, none⟩), .pointer (some ⟨n3, 0, none⟩)]), (1, .agg #[]), (2, .agg #[.string qs0, undef, .pointer (some ⟨n1, 0, none⟩), .pointer (some ⟨n2, 0, none⟩), .pointer (some ⟨n3, 0, none⟩), .pointer (some ⟨n4, 0, none⟩), .func (.func 68) #[] #[.pointer (some ⟨n1, 0, none⟩), .pointer (some ⟨n2, 0, none⟩), .pointer (some ⟨n3, 0, none⟩)], .string qs0, .agg #[.string qs0, .int .i64 0, .int .i64 0], .tuple #[], undef, undef, undef, undef, undef, undef, undef, undef, undef, undef, undef, undef, undef])])) (fun ch17 => .fin (.panic ch17) [(0, .func (.func 68) #[] #[.pointer (some ⟨n1, 0, none⟩), .pointer (some ⟨n2, 0, none⟩), .pointer (some ⟨n3, 0, none⟩)]), (1, .agg #[]), (2, .agg #[.string qs0, undef, .pointer (some ⟨n1, 0, none⟩), .pointer (some ⟨n2, 0, none⟩), .pointer (some ⟨n3, 0, none⟩), .pointer (some ⟨n4, 0, none⟩), .func (.func 68) #[] #[.pointer (some ⟨n1, 0, none⟩), .pointer (some ⟨n2, 0, none⟩), .pointer (some ⟨n3, 0, none⟩)], .string qs0, .agg #[.string qs0, .int .i64 0, .int .i64 0], undef, undef, undef, undef, undef, undef, undef, undef, undef, undef, undef, undef, undef, undef])]))))))))) := by kernel_rfl
theorem resP (n1 n2 n3 : Nat) (tm : Array Value) (h2 : tm[2]? = some (.pointer (some ⟨n1, 0, none⟩))) (h3 : tm[3]? = some (.pointer (some ⟨n2, 0, none⟩))) (h4 : tm[4]? = some (.pointer (some ⟨n3, 0, none⟩))) (w : World) (x : VT) (p : Option Addr) (m c : Nat) (a b : Int)
    (b1 : Blk w n1 (cellsV x p m c) 125) (b2 : Blk w n2 [.int .i64 a] 3) (b3 : Blk w n3 [.int .i64 b] 32) : (results Tryz.f64 tm).run Tryz.prog w = .ok (.tuple #[valV x p m c, .int .i64 a, .int .i64 b]) w := by
  have c0 : w.cell? ⟨n1, 0, none⟩ = some (.int .i64 x.kind) := b1.cell 0
  have c1 : w.cell? ⟨n1, 1, none⟩ = some (.int .i64 x.int) := b1.cell 1
  have c2 : w.cell? ⟨n1, 2, none⟩ = some (.string x.text) := b1.cell 2
  have c3 : w.cell? ⟨n1, 3, none⟩ = some (.slice p m c) := b1.cell 3
  have d0 : w.cell? ⟨n2, 0, none⟩ = some (.int .i64 a) := b2.cell 0
  have e0 : w.cell? ⟨n3, 0, none⟩ = some (.int .i64 b) := b3.cell 0
  simp [results, Tryz.results64, go_sem, h2, h3, h4, c0, c1, c2, c3, d0, e0, valV]
theorem parse_any (w : World) (s : ByteArray) (hs : s.size ≤ 140737488355328) (hT : Tabs w) (hE : Ev w) (h7g : 11 ≤ w.heap.size) : Calls Tryz.prog 64 #[.string s] w (ParseR w s) := by
  refine calls_of_defT mixed Tryz.func64 (s := s64) ?_
  rw [t64]
  refine nw fun w1 h1 z1 b1 => nw fun w2 h2 z2 b2 => nw fun w3 h3 z3 b3 => ?_
  show wpT _ _ _ _ .pl w3
  refine nw fun w4 h4 z4 b4 => st_blk b4 (by simp) rfl fun w5 h5 z5 b5 => st_blk b5 (by simp) rfl fun w6 h6 z6 b6 => st_blk b6 (by simp) rfl fun w7 h7 z7 b7 => ?_
  have h03 : Ch No w w3 := h1.trans (h2.trans h3)
  have h47 := h5.trans (h6.trans h7)
  have h07 : Ch No w w7 := (h03.trans h4).then_ h47 (fun i hi (e : i = w3.heap.size) => by omega)
  have B1 := (((b1.ch h2 (fun h => h)).ch h3 (fun h => h)).ch h4 (fun h => h)).ch h47 (fun e : w.heap.size = w3.heap.size => by omega)
  have B2 := ((b2.ch h3 (fun h => h)).ch h4 (fun h => h)).ch h47 (fun e : w1.heap.size = w3.heap.size => by omega)
  have B3 := (b3.ch h4 (fun h => h)).ch h47 (fun e : w2.heap.size = w3.heap.size => by omega)
  generalize hn1 : w.heap.size = n1 at *
  generalize hn2 : w1.heap.size = n2 at *
  generalize hn3 : w2.heap.size = n3 at *
  generalize hn4 : w3.heap.size = n4 at *
  have D : RdS w7 n4 s 0 0 := ⟨b7, by omega, hs⟩
  have T7 := hT.no h07
  have E7 : Ev w7 := hE.ch h07 (fun h => h)
  -- a refusal goes through the deferred closure
  have refuse : ∀ (er a : Int) (tm : Array Value) (w8 : World), Ch (· = n4) w7 w8 → tm[2]? = some (.pointer (some ⟨n1, 0, none⟩)) → tm[3]? = some (.pointer (some ⟨n2, 0, none⟩)) → tm[4]? = some (.pointer (some ⟨n3, 0, none⟩)) → (∃ v1 v2 v3 v4, Blk w8 n1 [v1, v2, v3, v4] 125) →
      Leaves Tryz.prog Tryz.f64 tm (fun e w' => Ch No w w' ∧ e = .returned (.tuple #[valV noneV none 0 0, .int .i64 a, .int .i64 er])) [{ target := .fn (.func 68) #[.pointer (some ⟨n1, 0, none⟩), .pointer (some ⟨n2, 0, none⟩), .pointer (some ⟨n3, 0, none⟩)], args := #[] }] (.panicking (thrown er a)) w8 := by
    intro er a tm w8 h8 t2 t3 t4 ⟨v1, v2, v3, v4, C1⟩
    have C2 := B2.ch h8 (fun e : n2 = n4 => by omega)
    have C3 := B3.ch h8 (fun e : n3 = n4 => by omega)
    refine leaves_cons (f := 68) (args := #[.pointer (some ⟨n1, 0, none⟩), .pointer (some ⟨n2, 0, none⟩), .pointer (some ⟨n3, 0, none⟩)]) (by simp) (by simp [go_sem]) ?_
    refine (closP_pan _ _ _ er a w8 _ (caught_any n1 n2 n3 er a w8 _ _ _ _ _ _ _ _ (by omega) (by omega) (by omega) C1 C2 C3)).mono ?_
    rintro e u' w9 ⟨rfl, rfl, h9, c1, c2, c3⟩
    show Leaves _ _ _ _ _ (settle _) _
    refine ⟨_, resP n1 n2 n3 _ t2 t3 t4 w9 noneV none 0 0 a er c1 c2 c3, (h07.then_ h8 (fun i hi (e : i = n4) => by omega)).then_ h9 (fun i hi h => by omega), rfl⟩
  have hl0 : rest s 0 = s.data.toList := List.drop_zero
  have big7 : 11 ≤ n4 := by have := h07.size; omega
  refine cp_i (blanks_any w7 n4 s 0 0 D) ?_
  rintro r w7' ⟨rfl, h7', i0, D7, hi0⟩
  refine .inl ⟨(), rfl, ?_⟩
  rw [hl0] at hi0
  have T7' : Tabs w7' := T7.ch (base := n4) (h7'.mono fun k (h : k = n4) => by show n4 ≤ k; omega) big7
  have E7' : Ev w7' := E7.ch h7' (fun e : 7 = n4 => by omega)
  refine cp_i (rval_any n4 s big7 4 0 (by omega) (by omega) (by decide) w7' i0 0 D7 T7' E7' (by omega) (by omega)) ?_
  rintro e w8 ⟨h8', hr⟩
  have h8 := h7'.trans h8'
  rw [hi0] at hr
  have C1 := B1.ch h8 (fun e : n1 = n4 => by omega)
  have C2 := B2.ch h8 (fun e : n2 = n4 => by omega)
  have C3 := B3.ch h8 (fun e : n3 = n4 => by omega)
  have H8 : Ch No w w8 := h07.then_ h8 (fun i hi (e : i = n4) => by omega)
  cases hx : rdX 4 0 (blanksM s.data.toList) 0 with
  | error f =>
    rw [hx] at hr
    refine .inr ⟨_, hr, ?_⟩
    refine ⟨_, _, _, _, rfl, ?_⟩
    dsimp only
    have hpm : parseX s.data.toList = .error f := by unfold parseX; rw [hx]
    have hR : ParseR w s = fun e w' => Ch No w w' ∧ e = .returned (.tuple #[valV noneV none 0 0, .int .i64 ((s.size - f.2 : Nat) : Int), .int .i64 f.1]) := by
      funext e w'
      unfold ParseR
      rw [hpm]
    rw [hR]
    exact refuse f.1 _ _ w8 h8 rfl rfl rfl ⟨_, _, _, _, C1⟩
  | ok y =>
    obtain ⟨x, l1, n'⟩ := y
    rw [hx] at hr
    obtain ⟨q, m, d, i', rfl, hI, D8, hl⟩ := hr
    have hpm : parseX s.data.toList = if blanksM l1 = [] then .ok (x, n') else .error (28, (blanksM l1).length) := by unfold parseX; rw [hx]
    refine .inl ⟨(x.kind, x.int, x.text, (q, m, d), ()), rfl, ?_⟩
    refine st_blk C1 (by simp) rfl fun w9 h9 z9 d9 => st_blk d9 (by simp) rfl fun w10 h10 z10 d10 => st_blk d10 (by simp) rfl fun w11 h11 z11 d11 => st_blk d11 (by simp) rfl fun w12 h12 z12 d12 => ?_
    have h912 := h9.trans (h10.trans (h11.trans h12))
    have D12 := D8.keep h912 (fun e : n4 = n1 => by omega)
    refine cp_i (blanks_any w12 n4 s i' n' D12) ?_
    rintro r w13 ⟨rfl, h13, j, D13, hj⟩
    refine .inl ⟨(), rfl, ?_⟩
    rw [← hl] at hj
    have d13 := d12.ch h13 (fun e : n1 = n4 => by omega)
    have h8_13 : Ch (fun k => k = n1 ∨ k = n4) w8 w13 := (h912.mono fun k h => .inl h).trans (h13.mono fun k h => .inr h)
    have hjle := D13.le
    have hnil : blanksM l1 = [] ↔ j = s.size := by
      rw [← hj]
      constructor
      · intro h
        have := congrArg List.length h
        rw [show (rest s j).length = s.size - j by show (List.drop j _).length = _; rw [List.length_drop, sizeB]] at this
        simp at this; omega
      · rintro rfl
        exact List.drop_of_length_le (by have := sizeB s; omega)
    refine ld_int D13.c1 (br_both (fun e => ?_) fun e => ?_)
    · have e : (j : Int) < (s.size : Int) := of_decide_eq_true e
      refine ld_int D13.c1 (cx_i (rfail_any _ _ _ w13) ?_)
      rintro r w14 ⟨rfl, rfl⟩
      refine ⟨_, rfl, ?_⟩
      refine ⟨_, _, _, _, rfl, ?_⟩
      dsimp only
      unfold ParseR
      rw [hpm, if_neg (fun h => by have := hnil.1 h; omega)]
      have H13 : Ch No w w14 := H8.then_ h8_13 (fun i hi h => by omega)
      have C2' := C2.ch h8_13 (fun h => by omega)
      have C3' := C3.ch h8_13 (fun h => by omega)
      refine leaves_cons (f := 68) (args := #[.pointer (some ⟨n1, 0, none⟩), .pointer (some ⟨n2, 0, none⟩), .pointer (some ⟨n3, 0, none⟩)]) (by simp) (by simp [go_sem]) ?_
      refine (closP_pan _ _ _ 28 j w14 _ (caught_any n1 n2 n3 28 j w14 _ _ _ _ _ _ _ _ (by omega) (by omega) (by omega) d13 C2' C3')).mono ?_
      rintro e u' w15 ⟨rfl, rfl, h15, c1, c2, c3⟩
      show Leaves _ _ _ _ _ (settle _) _
      refine ⟨_, resP n1 n2 n3 _ rfl rfl rfl w15 noneV none 0 0 j 28 c1 c2 c3, H13.then_ h15 (fun i hi h => by omega), ?_⟩
      rw [← hj, restL]
      dsimp only
      rw [show s.size - (s.size - j) = j by omega]
    · have e : ¬ (j : Int) < (s.size : Int) := of_decide_eq_false e
      refine ld_int (d13.cell 0) (ld_int (d13.cell 1) (ld_str (d13.cell 2) (ld_sl (d13.cell 3) ?_)))
      refine st_blk d13 (by simp) rfl fun w14 h14 z14 d14 => st_blk d14 (by simp) rfl fun w15 h15 z15 d15 => st_blk d15 (by simp) rfl fun w16 h16 z16 d16 => st_blk d16 (by simp) rfl fun w17 h17 z17 d17 => ?_
      have h8_17 : Ch (fun k => k = n1 ∨ k = n4) w8 w17 := h8_13.trans ((h14.trans (h15.trans (h16.trans h17))).mono fun k h => .inl h)
      refine st_blk (C2.ch h8_17 (fun h => by omega)) (by simp) rfl fun w18 h18 z18 d18 => ?_
      refine st_blk ((C3.ch h8_17 (fun h => by omega)).ch h18 (fun e : n3 = n2 => by omega)) (by simp) rfl fun w19 h19 z19 d19 => ?_
      have h8_19 : Ch (fun k => k = n1 ∨ k = n2 ∨ k = n3 ∨ k = n4) w8 w19 := (h8_17.mono fun k h => by omega).trans ((h18.mono fun k (h : k = n2) => by omega).trans (h19.mono fun k (h : k = n3) => by omega))
      have H19 : Ch No w w19 := H8.then_ h8_19 (fun i hi h => by omega)
      have HI : IsVB (fun b => w.heap.size ≤ b ∧ b < w19.heap.size) w19 x q m d := (hI.ch h8_19 (fun k hk h => by have := hk.1; have := h07.size; have := h7'.size; have := D.blk.lt; omega)).mono fun k hk => ⟨by have := hk.1; have := h07.size; have := h7'.size; omega, by have := hk.2; have := h8_19.size; omega⟩
      refine ⟨_, _, _, _, rfl, ?_⟩
      dsimp only
      refine leaves_cons (f := 68) (args := #[.pointer (some ⟨n1, 0, none⟩), .pointer (some ⟨n2, 0, none⟩), .pointer (some ⟨n3, 0, none⟩)]) (by simp) (by simp [go_sem]) ?_
      refine (closP_idle _ _ _ w19).mono ?_
      rintro e u' w20 ⟨rfl, rfl, rfl⟩
      show Leaves _ _ _ _ _ (settle _) _
      have F1 : Blk w20 n1 (cellsV x q m d) 125 := (d17.ch h18 (fun e : n1 = n2 => by omega)).ch h19 (fun e : n1 = n3 => by omega)
      have F2 : Blk w20 n2 [.int .i64 (s.size : Int)] 3 := d18.ch h19 (fun e : n2 = n3 => by omega)
      refine ⟨_, resP n1 n2 n3 _ rfl rfl rfl w20 x q m d s.size 0 F1 F2 d19, H19, ?_⟩
      rw [hpm, if_pos (hnil.2 (by omega))]
      exact ⟨q, m, d, rfl, HI⟩
end Go.Proofs.YtkebljkdkaagfaaGreatDoor.V
