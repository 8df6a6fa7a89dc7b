/- spread: what its iterator hands over. -/
import Derived.Test.YtkebljkdkaagfaaGreatDoorShc
import Derived.Test.YtkebljkdkaagfaaGreatDoorRgf
import Derived.Laws.MakeOwn
namespace Go.Proofs.YtkebljkdkaagfaaGreatDoor.S
open Go Tr
set_option maxRecDepth 100000
set_option maxHeartbeats 4000000
/-! the tree of function 27 -/
def s27 : Script := .nil
theorem t27 (qx0_0 : Int) (qa0_1 : Option Addr) (qn0_1 : Nat) (qc0_1 : Nat) (qa0_2 : Option Addr) (qn0_2 : Nat) (qc0_2 : Nat) (qx1 : Int) (qb2 : Bool) : fnT Tryz.prog Tryz.f27 #[.agg #[.int .i64 qx0_0, .slice qa0_1 qn0_1 qc0_1, .slice qa0_2 qn0_2 qc0_2], .int .i64 qx1, .bool qb2] s27 = .new (.cells #[.int .i64 qx0_0, .slice qa0_1 qn0_1 qc0_1, .slice qa0_2 qn0_2 qc0_2] 25 (0, 0)) (fun n1 => .new (.cells #[.int .i64 qx1] 3 (0, 0)) (fun n2 => .new (.cells #[.bool qb2] 4 (0, 0)) (fun n3 => .done (.returned (.func (.func 40) #[] #[.pointer (some ⟨n1, 0, none⟩), .pointer (some ⟨n2, 0, none⟩), .pointer (some ⟨n3, 0, none⟩)]))))) := by kernel_rfl
/-! the tree of function 40 -/
abbrev fx40_3 (ql : Nat) (qf0 : Addr) (qf1 : Addr) (qf2 : Addr) (l2 : Option Addr × Nat × Nat) : List (Tmp × Value) := [(0, .func (.yield ql) #[] #[]), (1, .pointer (some qf0)), (2, .pointer (some qf1)), (3, .pointer (some qf2)), (5, .slice l2.1 l2.2.1 l2.2.2), (16, .int .i64 (↑l2.snd.fst : Int))]
abbrev m40_3 : List (Tmp × Comp) := [(17, .leaf (.int .i64))]
abbrev mx40_3 : List (Tmp × Comp) := []
abbrev mr40_3 : List (Tmp × Comp) := []
def s40_3 : Script := .sym (.ix .nil) .nil
theorem t40_3 (ql : Nat) (qf0 : Addr) (qf1 : Addr) (qf2 : Addr) (l2 : Option Addr × Nat × Nat) (x_17 : Int) (gg3 : Nat → Value) : pieceT Tryz.prog (at_ Tryz.f40 [1, 0, 1, 0, 0]) 91 (fx40_3 ql qf0 qf1 qf2 l2 ++ mvals m40_3 (x_17, ())) gg3 (m40_3.map (·.1)) (mx40_3.map (·.1)) (mr40_3.map (·.1)) s40_3 = .br (Decidable.decide (x_17 < (↑l2.snd.fst : Int))) (.idx l2.1 x_17 l2.2.1 1 (fun a4 => .store a4 (.int .i64 (-1)) (.fin .normal [(17, .int .i64 (IntKind.i64.wrap (x_17 + 1)))]))) (.fin (.exit 0) []) := by kernel_rfl
abbrev fx40_8 (ql : Nat) (qf0 : Addr) (qf2 : Addr) (l2 : Option Addr × Nat × Nat) : List (Tmp × Value) := [(0, .func (.yield ql) #[] #[]), (1, .pointer (some qf0)), (3, .pointer (some qf2)), (5, .slice l2.1 l2.2.1 l2.2.2)]
abbrev m40_8 : List (Tmp × Comp) := [(7, .leaf (.int .i64))]
abbrev mx40_8 : List (Tmp × Comp) := []
abbrev mr40_8 : List (Tmp × Comp) := []
abbrev fx40_10 (ql : Nat) (qf0 : Addr) (qf2 : Addr) (l2 : Option Addr × Nat × Nat) (x_7 : Int) : List (Tmp × Value) := [(0, .func (.yield ql) #[] #[]), (1, .pointer (some qf0)), (3, .pointer (some qf2)), (5, .slice l2.1 l2.2.1 l2.2.2), (7, .int .i64 x_7), (35, .int .i64 (↑l2.snd.fst : Int))]
abbrev m40_10 : List (Tmp × Comp) := [(36, .leaf (.int .i64))]
abbrev mx40_10 : List (Tmp × Comp) := []
abbrev mr40_10 : List (Tmp × Comp) := []
def s40_10 : Script := .sym (.ix (.ld (.int .i64) (.sym (.lit (.lit (.lit (.yl (.lit (.lit (.sym .nil .nil))))))) (.lit (.lit (.lit (.lit (.lit (.lit .nil))))))))) .nil
theorem t40_10 (ql : Nat) (qf0 : Addr) (qf2 : Addr) (l2 : Option Addr × Nat × Nat) (x_7 : Int) (x_36 : Int) (gg10 : Nat → Value) : pieceT Tryz.prog (at_ Tryz.f40 [1, 1, 1, 1, 0, 0, 1, 0, 0, 0, 1, 0, 0]) 91 (fx40_10 ql qf0 qf2 l2 x_7 ++ mvals m40_10 (x_36, ())) gg10 (m40_10.map (·.1)) (mx40_10.map (·.1)) (mr40_10.map (·.1)) s40_10 = .br (Decidable.decide (x_36 < (↑l2.snd.fst : Int))) (.idx l2.1 x_36 l2.2.1 1 (fun a11 => .load a11 (.int .i64) (fun x12 => .br (x12 == x_7) (.yld ql #[.int .i64 x_36, .int .i64 x_7] (fun b13 => .br (!b13) (.fin .ret []) (.fin .normal [(36, .int .i64 (IntKind.i64.wrap (x_36 + 1)))]))) (.fin .normal [(36, .int .i64 (IntKind.i64.wrap (x_36 + 1)))])))) (.fin (.exit 4) []) := by kernel_rfl
abbrev fx40_16 (ql : Nat) (qf0 : Addr) (qf2 : Addr) (l2 : Option Addr × Nat × Nat) (x_7 : Int) (l15 : Option Addr × Nat × Nat) : List (Tmp × Value) := [(0, .func (.yield ql) #[] #[]), (1, .pointer (some qf0)), (3, .pointer (some qf2)), (5, .slice l2.1 l2.2.1 l2.2.2), (7, .int .i64 x_7), (54, .slice l15.1 l15.2.1 l15.2.2), (55, .int .i64 (↑l15.snd.fst : Int))]
abbrev m40_16 : List (Tmp × Comp) := [(56, .leaf (.int .i64))]
abbrev mx40_16 : List (Tmp × Comp) := []
abbrev mr40_16 : List (Tmp × Comp) := []
abbrev fx40_23 (ql : Nat) (qf0 : Addr) (qf2 : Addr) (l2 : Option Addr × Nat × Nat) (x_7 : Int) (l15 : Option Addr × Nat × Nat) (x_56 : Int) (n22 : Nat) : List (Tmp × Value) := [(0, .func (.yield ql) #[] #[]), (1, .pointer (some qf0)), (3, .pointer (some qf2)), (5, .slice l2.1 l2.2.1 l2.2.2), (7, .int .i64 x_7), (10, .pointer (some ⟨n22, 0, none⟩)), (54, .slice l15.1 l15.2.1 l15.2.2), (55, .int .i64 (↑l15.snd.fst : Int)), (56, .int .i64 x_56)]
abbrev mx40_23 : List (Tmp × Comp) := [(83, .leaf .bool)]
def s40_23 : Script := .ld (.int .i64) (.ix (.ld (.int .i64) (.sym (.lit (.lit (.ld (.int .i64) (.lit (.ix (.lit (.ld (.int .i64) (.lit (.lit (.sym (.ld .bool (.lit (.sym (.lit (.lit (.lit (.lit (.lit (.lit .nil)))))) (.ld (.int .i64) (.ld .sl (.ld .sl (.lit (.ld (.int .i64) (.ld (.int .i64) (.ld (.int .i64) (.ld (.int .i64) (.lit (.cl (.one (.leaf .bool)) (.lit (.lit (.lit (.lit .nil))))))))))))))))) (.lit (.lit (.lit .nil))))))))))))) (.lit (.lit (.lit (.lit (.lit (.lit (.lit (.lit (.lit (.lit .nil)))))))))))))
theorem t40_23 (ql : Nat) (qf0 : Addr) (qf2 : Addr) (l2 : Option Addr × Nat × Nat) (x_7 : Int) (l15 : Option Addr × Nat × Nat) (x_56 : Int) (n22 : Nat) (gg23 : Nat → Value) : pieceT Tryz.prog (at_ Tryz.f40 [1, 1, 1, 1, 0, 0, 1, 0, 0, 1, 1, 0, 0, 1, 1, 0, 0, 1, 0]) 91 (fx40_23 ql qf0 qf2 l2 x_7 l15 x_56 n22) gg23 (mx40_23.map (·.1)) [] [] s40_23 = .load ⟨n22, 0, none⟩ (.int .i64) (fun x24 => .idx l2.1 x24 l2.2.1 1 (fun a25 => .load a25 (.int .i64) (fun x26 => .br (x26 == x_7) (.load ⟨n22, 2, none⟩ (.int .i64) (fun x27 => .idx l2.1 x27 l2.2.1 1 (fun a28 => .load a28 (.int .i64) (fun x29 => .br (Decidable.decide (x29 < 0)) (.load qf2 .bool (fun b30 => .br b30 (.fin .normal [(83, .bool true)]) (.load qf0 (.int .i64) (fun x31 => .load (qf0.add 1) .sl (fun l32 => .load (qf0.add 2) .sl (fun l33 => .load ⟨n22, 0, none⟩ (.int .i64) (fun x34 => .load ⟨n22, 1, none⟩ (.int .i64) (fun x35 => .load ⟨n22, 2, none⟩ (.int .i64) (fun x36 => .load ⟨n22, 3, none⟩ (.int .i64) (fun x37 => .call 38 #[.agg #[.int .i64 x31, .slice l32.1 l32.2.1 l32.2.2, .slice l33.1 l33.2.1 l33.2.2], .agg #[.int .i64 x34, .int .i64 x35, .int .i64 x36, .int .i64 x37]] (.one (.leaf .bool)) (fun b38 => .fin .normal [(83, .bool (!b38))]))))))))))) (.fin .normal [(83, .bool false)]))))) (.fin .normal [(83, .bool false)])))) := by kernel_rfl
def s40_16 : Script := .sym (.ix (.ld (.int .i64) (.ld (.int .i64) (.ld (.int .i64) (.ld (.int .i64) (.ct 0 [0, 1, 3, 5, 7, 10, 54, 55, 56] mx40_23 (.sym (.ld (.int .i64) (.ix .nil)) .nil))))))) .nil
theorem t40_16 (ql : Nat) (qf0 : Addr) (qf2 : Addr) (l2 : Option Addr × Nat × Nat) (x_7 : Int) (l15 : Option Addr × Nat × Nat) (x_56 : Int) (gg16 : Nat → Value) : pieceT Tryz.prog (at_ Tryz.f40 [1, 1, 1, 1, 0, 0, 1, 0, 0, 1, 1, 0, 0]) 91 (fx40_16 ql qf0 qf2 l2 x_7 l15 ++ mvals m40_16 (x_56, ())) gg16 (m40_16.map (·.1)) (mx40_16.map (·.1)) (mr40_16.map (·.1)) s40_16 = .br (Decidable.decide (x_56 < (↑l15.snd.fst : Int))) (.idx l15.1 x_56 l15.2.1 4 (fun a17 => .load a17 (.int .i64) (fun x18 => .load (a17.add 1) (.int .i64) (fun x19 => .load (a17.add 2) (.int .i64) (fun x20 => .load (a17.add 3) (.int .i64) (fun x21 => .new (.cells #[.int .i64 0, .int .i64 0, .int .i64 0, .int .i64 0] 39 (0, 0)) (fun n22 => .store ⟨n22, 0, none⟩ (.int .i64 x18) (.store ⟨n22, 1, none⟩ (.int .i64 x19) (.store ⟨n22, 2, none⟩ (.int .i64 x20) (.store ⟨n22, 3, none⟩ (.int .i64 x21) (.cut (at_ Tryz.f40 [1, 1, 1, 1, 0, 0, 1, 0, 0, 1, 1, 0, 0, 1, 1, 0, 0, 1, 0]) 91 (fx40_23 ql qf0 qf2 l2 x_7 l15 x_56 n22) mx40_23 (fun u39 g39 => .br u39.1 (.load ⟨n22, 2, none⟩ (.int .i64) (fun x40 => .idx l2.1 x40 l2.2.1 1 (fun a41 => .store a41 (.int .i64 (IntKind.i64.wrap (x_7 + 1))) (.fin .normal [(56, .int .i64 (IntKind.i64.wrap (x_56 + 1)))])))) (.fin .normal [(56, .int .i64 (IntKind.i64.wrap (x_56 + 1)))]))))))))))))) (.fin (.exit 6) []) := by kernel_rfl
def s40_8 : Script := .ld .sl (.sym (.lp 4 [0, 1, 3, 5, 7, 35] [36] mx40_10 mr40_10 (.ld .sl (.lp 6 [0, 1, 3, 5, 7, 54, 55] [56] mx40_16 mr40_16 .nil .nil)) .nil) .nil)
theorem t40_8 (ql : Nat) (qf0 : Addr) (qf2 : Addr) (l2 : Option Addr × Nat × Nat) (x_7 : Int) (gg8 : Nat → Value) : pieceT Tryz.prog (at_ Tryz.f40 [1, 1, 1, 1, 0, 0]) 91 (fx40_8 ql qf0 qf2 l2 ++ mvals m40_8 (x_7, ())) gg8 (m40_8.map (·.1)) (mx40_8.map (·.1)) (mr40_8.map (·.1)) s40_8 = .load (qf0.add 1) .sl (fun l9 => .br (Decidable.decide (x_7 < (↑l9.snd.fst : Int))) (.loop (at_ Tryz.f40 [1, 1, 1, 1, 0, 0, 1, 0, 0, 0, 1, 0, 0]) 91 (fx40_10 ql qf0 qf2 l2 x_7) [(36, .int .i64 0)] mx40_10 mr40_10 4 (fun u14 g14 => .load (qf0.add 2) .sl (fun l15 => .loop (at_ Tryz.f40 [1, 1, 1, 1, 0, 0, 1, 0, 0, 1, 1, 0, 0]) 91 (fx40_16 ql qf0 qf2 l2 x_7 l15) [(56, .int .i64 0)] mx40_16 mr40_16 6 (fun u42 g42 => .fin .normal [(7, .int .i64 (IntKind.i64.wrap (x_7 + 1)))]) (fun u43 g43 => .stuck))) (fun u44 g44 => .fin .ret [])) (.fin (.exit 2) [])) := by kernel_rfl
def s40 : Script := .ld .sl (.nop (.rn (.one (.leaf .sl)) (.lp 0 [0, 1, 2, 3, 5, 16] [17] mx40_3 mr40_3 (.ld (.int .i64) (.ix (.lp 2 [0, 1, 3, 5] [7] mx40_8 mr40_8 .nil .nil))) .nil)))
theorem t40 (ql : Nat) (qf0 : Addr) (qf1 : Addr) (qf2 : Addr) : fnT Tryz.prog Tryz.f40 #[.func (.yield ql) #[] #[], .pointer (some qf0), .pointer (some qf1), .pointer (some qf2)] s40 = .load (qf0.add 1) .sl (fun l1 => .run (vNext (Instr.makeSlice 29 (.int .i64 (↑l1.snd.fst : Int)) (.int .i64 (↑l1.snd.fst : Int)))) (.one (.leaf .sl)) (fun l2 => .loop (at_ Tryz.f40 [1, 0, 1, 0, 0]) 91 (fx40_3 ql qf0 qf1 qf2 l2) [(17, .int .i64 0)] mx40_3 mr40_3 0 (fun u5 g5 => .load qf1 (.int .i64) (fun x6 => .idx l2.1 x6 l2.2.1 1 (fun a7 => .store a7 (.int .i64 0) (.loop (at_ Tryz.f40 [1, 1, 1, 1, 0, 0]) 91 (fx40_8 ql qf0 qf2 l2) [(7, .int .i64 0)] mx40_8 mr40_8 2 (fun u45 g45 => .done (.returned (.tuple #[]))) (fun u46 g46 => .done (.returned (.tuple #[]))))))) (fun u47 g47 => .stuck))) := by kernel_rfl
abbrev tBool : TypeId := 4
abbrev tBools : TypeId := 28
theorem infoBool : (Tryz.prog.info? tBool).map (fun i => (i.zero, i.size, i.bytes)) = some (some (.bool false), 1, 1) := by kernel_rfl
section
variable {P : Program} {R : Ending → World → Prop} {Q : Exit → List (Tmp × Value) → World → Prop} {w : World}
/-- make([]T, n), T of one cell: a new block of zeros. -/
theorem run_mks {t e : TypeId} {z : Value} {bytes : Nat} (ht : P.underlying t = some (.slice e)) (hi : (P.info? e).map (fun i => (i.zero, i.size, i.bytes)) = some (some z, 1, bytes)) (hz : z.cells = #[z]) {n : Nat} (hn : bytes * n ≤ 281474976710656) (hn2 : n ≤ 9223372036854775807) (w : World) :
    (Instr.makeSlice t (.int .i64 (n : Nat)) (.int .i64 (n : Nat))).run P w = .ok (.slice (some ⟨w.heap.size, 0, none⟩) n n) (w.alloc (.cells (List.replicate n z).toArray e (0, 0))) := by
  cases hi' : P.info? e with
  | none => rw [hi'] at hi; cases hi
  | some i =>
    rw [hi'] at hi
    simp only [Option.map_some, Option.some.injEq, Prod.mk.injEq] at hi
    have hb : (i.bytes : Int) * (n : Int) ≤ 281474976710656 := by
      rw [hi.2.2]
      have : ((bytes * n : Nat) : Int) ≤ 281474976710656 := by omega
      rwa [Int.natCast_mul] at this
    rw [run_make w t e i z ht hi' hi.1 .i64 .i64 n n (by omega) (Int.le_refl _) hb (by omega)]
    rw [Int.toNat_natCast, hi.2.1, Nat.mul_one, hz, ← toList_madeCells_one]
theorem mks_i {t e : TypeId} {z : Value} {bytes : Nat} (ht : P.underlying t = some (.slice e)) (hi : (P.info? e).map (fun i => (i.zero, i.size, i.bytes)) = some (some z, 1, bytes)) (hz : z.cells = #[z]) {n : Nat} (hn : bytes * n ≤ 281474976710656) (hn2 : n ≤ 9223372036854775807)
    {K : Option Addr × Nat × Nat → T} (h : ∀ w1, Ch No w w1 → w1.heap.size = w.heap.size + 1 → Blk w1 w.heap.size (List.replicate n z) e → wpT P R Q (K (some ⟨w.heap.size, 0, none⟩, n, n)) .pl w1) :
    wpT P R Q (.run (vNext (Instr.makeSlice t (.int .i64 (n : Nat)) (.int .i64 (n : Nat)))) (.one (.leaf .sl)) K) .pl w := by
  refine t_run (x := (some ⟨w.heap.size, 0, none⟩, n, n)) (w' := w.alloc (.cells (List.replicate n z).toArray e (0, 0))) ?_ (h _ ((Ch.refl _ _).alloc _) (by simp) (blk_new _ _ _))
  simp only [vNext, Sem.run_bind, run_mks ht hi hz hn hn2, Result.andThen]
  rfl
end
/-! ### What has come -/
theorem prefix_flatMap (f : Nat → List (Nat × Nat)) {d n : Nat} (hd : d < n) {r : List (Nat × Nat)} (hr : r <+: f d) : (List.range d).flatMap f ++ r <+: (List.range n).flatMap f := by
  obtain ⟨m, rfl⟩ : ∃ m, n = d + (m + 1) := ⟨n - d - 1, by omega⟩
  rw [List.range_add, List.flatMap_append]
  refine List.prefix_append_right_inj _ |>.2 ?_
  obtain ⟨s, hs⟩ := hr
  refine ⟨s ++ ((List.range m).map (fun x => d + (x + 1))).flatMap f, ?_⟩
  rw [List.range_succ_eq_map, List.map_cons, List.flatMap_cons, ← List.append_assoc, hs, List.map_map, Nat.add_zero]
  rfl
def uptoM (G : Gr) (n t d x : Nat) : List (Nat × Nat) := ((List.range x).filter fun x => (farAt G n t d)[x]? == some (d : Int)).map fun x => (x, d)
theorem upto_all (G : Gr) (n t d : Nat) : uptoM G n t d n = roundM G n t d := rfl
theorem upto_step (G : Gr) (n t d x : Nat) : uptoM G n t d (x + 1) = uptoM G n t d x ++ (if (farAt G n t d)[x]? == some (d : Int) then [(x, d)] else []) := by
  unfold uptoM
  rw [List.range_succ, List.filter_append, List.map_append]
  congr 1
  cases h : (farAt G n t d)[x]? == some (d : Int) <;> simp [List.filter, h]
theorem upto_prefix (G : Gr) (n t d : Nat) {x : Nat} (hx : x ≤ n) : uptoM G n t d x <+: roundM G n t d := by
  unfold uptoM roundM
  obtain ⟨m, rfl⟩ : ∃ m, n = x + m := ⟨n - x, by omega⟩
  rw [List.range_add, List.filter_append, List.map_append]
  exact List.prefix_append _ _
theorem spread_succ (G : Gr) (n t d : Nat) : (List.range (d + 1)).flatMap (roundM G n t) = (List.range d).flatMap (roundM G n t) ++ roundM G n t d := by
  rw [List.range_succ, List.flatMap_append]
  simp
/-! ### One edge -/
def edgeP (e : EM) : Nat × Nat := (e.frm.toNat, e.to.toNat)
def goesB (p : PM) (back : Bool) (e : EM) : Bool := back || !loopsM p e
theorem gr_step (p : PM) (back : Bool) (i : Nat) (e : EM) (h : p.edges[i]? = some e) (d : Nat) (far : List Int) :
    relax (((p.edges.take (i + 1)).filter (goesB p back)).map edgeP) d far = if goesB p back e then relax1 d (relax (((p.edges.take i).filter (goesB p back)).map edgeP) d far) (edgeP e) else relax (((p.edges.take i).filter (goesB p back)).map edgeP) d far := by
  rw [List.take_add_one, h, Option.toList_some, List.filter_append, List.map_append]
  unfold relax
  rw [List.foldl_append]
  cases hq : goesB p back e <;> simp [List.filter, hq]
theorem relax1_is {d : Nat} {far : List Int} {a b : Nat} (ha : a < far.length) (hb : b < far.length) : relax1 d far (a, b) = if far[a] = (d : Int) ∧ far[b] < 0 then far.set b (d + 1 : Nat) else far := by
  unfold relax1
  simp only [List.getElem?_eq_getElem ha, List.getElem?_eq_getElem hb, Option.some.injEq, exists_eq_left']
/-! ### spread -/
theorem spread_any (w : World) (p : PM) (tp ep : Option Addr) (tc ec : Nat) (f : Int) (b : Bool) : Calls Tryz.prog 27 #[planV p tp tc ep ec, .int .i64 f, .bool b] w fun r w' => Ch No w w' ∧ ∃ n1 n2 n3, w.heap.size ≤ n1 ∧ n1 < n2 ∧ n2 < n3 ∧
    r = .returned (.func (.func 40) #[] #[.pointer (some ⟨n1, 0, none⟩), .pointer (some ⟨n2, 0, none⟩), .pointer (some ⟨n3, 0, none⟩)]) ∧ Blk w' n1 (planC p tp tc ep ec) tPlan ∧ Blk w' n2 [.int .i64 f] tInt ∧ Blk w' n3 [.bool b] tBool := by
  refine calls_of_fnT mixed Tryz.func27 (s := s27) ?_
  rw [t27]
  refine nw (cs := planC p tp tc ep ec) fun w1 c1 s1 b1 => nw (cs := [.int .i64 f]) fun w2 c2 s2 b2 => nw (cs := [.bool b]) fun w3 c3 s3 b3 => ?_
  exact ⟨c1.trans (c2.trans c3), _, _, _, Nat.le_refl _, by omega, by omega, rfl, (b1.ch c2 (fun h => h)).ch c3 (fun h => h), b2.ch c3 (fun h => h), b3⟩
theorem spread_iter (p : PM) (tp ep : Option Addr) (tc ec t : Nat) (back : Bool) (n1 n2 n3 : Nat) (Sb : Nat → Prop) (w0 : World) (b1 : Blk w0 n1 (planC p tp tc ep ec) tPlan) (b2 : Blk w0 n2 [.int .i64 (t : Nat)] tInt) (b3 : Blk w0 n3 [.bool back] tBool)
    (hS1 : ¬ Sb n1) (hS2 : ¬ Sb n2) (hS3 : ¬ Sb n3) (hSb : ∀ k, Sb k → k < w0.heap.size) (hP : ∀ W', Ch (fun k => Sb k ∨ w0.heap.size ≤ k) w0 W' → IsP W' tp ep p)
    (he : ∀ e ∈ p.edges, (0 ≤ e.frm ∧ e.frm < p.tasks.length) ∧ (0 ≤ e.to ∧ e.to < p.tasks.length) ∧ (0 ≤ e.out ∧ e.out < 4) ∧ 0 ≤ e.inn ∧ e.inn < 4) (hn : p.tasks.length ≤ 12) (ht : t < p.tasks.length) :
    IterC Tryz.prog 40 #[.pointer (some ⟨n1, 0, none⟩), .pointer (some ⟨n2, 0, none⟩), .pointer (some ⟨n3, 0, none⟩)] (fun y : Nat × Nat => #[.int .i64 (y.1 : Nat), .int .i64 (y.2 : Nat)]) Sb (spreadM (grOf p back) p.tasks.length t) w0 := by
  intro l J Jx W cW hl1 hl2 hJ hJx hround hJ0
  have hIP := hP w0 (Ch.refl _ _)
  have hen := hIP.en
  generalize hG : grOf p back = G
  rw [hG] at hround
  have hGr : ((p.edges.filter (goesB p back)).map edgeP) = G := by rw [← hG]; rfl
  refine calls_of_fnT mixed Tryz.func40 (s := s40) ?_
  show wpT _ _ _ (fnT Tryz.prog Tryz.f40 #[.func (.yield l) #[] #[], .pointer (some ⟨n1, 0, none⟩), .pointer (some ⟨n2, 0, none⟩), .pointer (some ⟨n3, 0, none⟩)] s40) .pl W
  rw [t40]
  simp only [addr_add, Nat.zero_add]
  have T0 : Ch (fun k => Sb k ∨ w0.heap.size ≤ k) w0 W := cW.no
  have hTn : ∀ {w'}, Ch (fun k => Sb k ∨ w0.heap.size ≤ k) w0 w' → Blk w' n1 (planC p tp tc ep ec) tPlan ∧ Blk w' n2 [.int .i64 (t : Nat)] tInt ∧ Blk w' n3 [.bool back] tBool := fun h =>
    ⟨b1.ch h (fun hh => hh.elim hS1 (fun h => by have := b1.lt; omega)), b2.ch h (fun hh => hh.elim hS2 (fun h => by have := b2.lt; omega)), b3.ch h (fun hh => hh.elim hS3 (fun h => by have := b3.lt; omega))⟩
  obtain ⟨B1, B2, B3⟩ := hTn T0
  refine ld_sl (B1.cell 1) ?_
  refine mks_i (n := p.tasks.length) (by kernel_rfl) infoInt rfl (by omega) (by omega) fun w1 c1 s1 bf => ?_
  have hz0 := cW.size
  generalize hfb : W.heap.size = fb at *
  -- a step of the iterator's own
  have own : ∀ {A B : World} {pre : List (Nat × Nat)}, J pre A → Ch (fun k => fb ≤ k) A B → J pre B := fun hj hc => hJ _ _ _ hj hc
  have J1 : J [] w1 := own hJ0 c1.no
  have T1 : Ch (fun k => Sb k ∨ w0.heap.size ≤ k) w0 w1 := T0.trans c1.no
  have ownT : ∀ {A B : World}, Ch (fun k => Sb k ∨ w0.heap.size ≤ k) w0 A → Ch (fun k => fb ≤ k) A B → Ch (fun k => Sb k ∨ w0.heap.size ≤ k) w0 B := fun h k => h.trans (k.mono fun i hi => .inr (by omega))
  generalize hN : p.tasks.length = n at *
  refine loop_i mixed m40_3 s40_3 (by kernel_rfl) (by kernel_rfl) (fun v w2 => ∃ i : Nat, v.1 = (i : Nat) ∧ i ≤ n ∧ Ch (fun k => Sb k ∨ w0.heap.size ≤ k) w0 w2 ∧ J [] w2 ∧ Blk w2 fb ((List.replicate i (-1 : Int) ++ List.replicate (n - i) 0).map intC) tInt) (fun v _ => n - v.1.toNat) (0, ()) rfl
    ⟨0, rfl, Nat.zero_le _, T1, J1, by simpa using bf⟩ ?_
  rintro ⟨_, ⟨⟩⟩ g w2 ⟨i, rfl, hi, T2, J2, bf2⟩
  rw [t40_3]
  dsimp only
  refine br_both (fun e => ?_) fun e => ?_
  · have e := lt_t e
    refine ix_i (by omega) (by omega) ?_
    rw [Int.toNat_natCast, addr_add, Nat.zero_add, Nat.mul_one]
    refine st_blk bf2 (by simp; omega) rfl fun w3 c3 s3 bf3 => ?_
    have hc : Ch (fun k => fb ≤ k) w2 w3 := c3.mono fun k (h : k = fb) => by omega
    refine ⟨(((i : Nat) : Int) + 1, ()), by rw [wrap_succ (by omega) (by omega)]; rfl, ⟨i + 1, rfl, by omega, ownT T2 hc, own J2 hc, ?_⟩, by show n - (((i : Nat) : Int) + 1).toNat < _; omega⟩
    have hset : (List.replicate i (-1 : Int) ++ List.replicate (n - i) 0).set i (-1) = List.replicate (i + 1) (-1) ++ List.replicate (n - (i + 1)) 0 := by
      rw [List.set_append_right _ _ (by simp), List.length_replicate, Nat.sub_self, show n - i = (n - (i + 1)) + 1 by omega, List.replicate_succ, List.set_cons_zero, List.replicate_succ' (n := i), List.append_assoc]
      rfl
    rw [← hset, List.map_set]
    exact bf3
  have e := lt_f e
  obtain rfl : i = n := by omega
  rw [Nat.sub_self, List.replicate_zero, List.append_nil] at bf2
  refine ⟨rfl, (), rfl, fun g => ?_⟩
  obtain ⟨B1, B2, B3⟩ := hTn T2
  refine ld_int (B2.cell 0) (ix_i (by omega) (by omega) ?_)
  rw [Int.toNat_natCast, addr_add, Nat.zero_add, Nat.mul_one]
  refine st_blk bf2 (by simp; omega) rfl fun w3 c3 s3 bf3 => ?_
  have hc3 : Ch (fun k => fb ≤ k) w2 w3 := c3.mono fun k (h : k = fb) => by omega
  have bf0 : Blk w3 fb ((farAt G i t 0).map intC) tInt := by
    have : (farAt G i t 0).map intC = ((List.replicate i (-1 : Int)).map intC).set t (intC 0) := by unfold farAt; rw [List.map_set]
    rw [this]
    exact bf3
  have T3 := ownT T2 hc3
  have J3 := own J2 hc3
  clear bf3 bf2 bf T2 J2 T1 J1
  -- the rounds
  have hlen := fun d => farAt_len G i t d
  refine loop_i mixed m40_8 s40_8 (by kernel_rfl) (by kernel_rfl) (fun v w4 => ∃ d : Nat, v.1 = (d : Nat) ∧ d ≤ i ∧ Ch (fun k => Sb k ∨ w0.heap.size ≤ k) w0 w4 ∧ J ((List.range d).flatMap (roundM G i t)) w4 ∧ Blk w4 fb ((farAt G i t d).map intC) tInt) (fun v _ => i - v.1.toNat) (0, ()) rfl
    ⟨0, rfl, Nat.zero_le _, T3, J3, bf0⟩ ?_
  rintro ⟨_, ⟨⟩⟩ g w4 ⟨d, rfl, hd, T4, J4, bf4⟩
  rw [t40_8]
  simp only [addr_add, Nat.zero_add]
  obtain ⟨B1, B2, B3⟩ := hTn T4
  refine ld_sl (B1.cell 1) (br_both (fun e => ?_) fun e => ?_)
  · have e : ((d : Nat) : Int) < (p.tasks.length : Int) := lt_t e
    have hdn : d < i := by omega
    refine loop_i mixed m40_10 s40_10 (by kernel_rfl) (by kernel_rfl) (fun v w5 => ∃ x : Nat, v.1 = (x : Nat) ∧ x ≤ i ∧ Ch (fun k => Sb k ∨ w0.heap.size ≤ k) w0 w5 ∧ J ((List.range d).flatMap (roundM G i t) ++ uptoM G i t d x) w5 ∧ Blk w5 fb ((farAt G i t d).map intC) tInt) (fun v _ => i - v.1.toNat) (0, ()) rfl
      ⟨0, rfl, Nat.zero_le _, T4, by simpa [uptoM] using J4, bf4⟩ ?_
    rintro ⟨_, ⟨⟩⟩ g w5 ⟨x, rfl, hx, T5, J5, bf5⟩
    rw [t40_10]
    dsimp only
    refine br_both (fun e2 => ?_) fun e2 => ?_
    · have e2 := lt_t e2
      have hxn : x < i := by omega
      have hxl : x < (farAt G i t d).length := by rw [hlen]; exact hxn
      refine ix_i (by omega) (by omega) ?_
      rw [Int.toNat_natCast, addr_add, Nat.zero_add, Nat.mul_one]
      have hat := List.getElem?_eq_getElem hxl
      have hstep := upto_step G i t d x
      refine ld_int ((bf5.cell x).trans (by rw [List.getElem?_map, hat]; rfl)) (br_both (fun e3 => ?_) fun e3 => ?_)
      · have e3 : (farAt G i t d)[x] = (d : Int) := eq_of_beq e3
        rw [if_pos (by rw [hat, e3]; exact beq_self_eq_true _)] at hstep
        have hpre : (List.range d).flatMap (roundM G i t) ++ uptoM G i t d x ++ [(x, d)] <+: spreadM G i t := by
          rw [List.append_assoc, ← hstep]
          exact prefix_flatMap _ hdn (upto_prefix G i t d hxn)
        refine yld_i (hround _ (x, d) w5 J5 hpre) ?_
        rintro r w6 (⟨rfl, J6, c6⟩ | ⟨rfl, J6⟩)
        · refine ⟨true, rfl, br_false rfl ⟨(((x : Nat) : Int) + 1, ()), by rw [wrap_succ (by omega) (by omega)]; rfl, ⟨x + 1, rfl, hxn, T5.trans (c6.mono fun k hk => hk.imp id (fun h => by omega)), ?_, bf5.ch c6 (fun hk => ?_)⟩, by show i - (((x : Nat) : Int) + 1).toNat < _; omega⟩⟩
          · rw [hstep, ← List.append_assoc]
            exact J6
          · rcases hk with hk | hk
            · have := hSb _ hk; omega
            · omega
        · refine ⟨false, rfl, br_true rfl ⟨(), rfl, fun g => ⟨(), rfl, fun g => ⟨⟨_, rfl⟩, .inr ⟨_, hpre, J6⟩⟩⟩⟩⟩
      · have e3 : ¬ (farAt G i t d)[x] = (d : Int) := fun hh => by rw [hh] at e3; simp at e3
        rw [if_neg (by rw [hat]; simpa using e3), List.append_nil] at hstep
        exact ⟨(((x : Nat) : Int) + 1, ()), by rw [wrap_succ (by omega) (by omega)]; rfl, ⟨x + 1, rfl, hxn, T5, by rw [hstep]; exact J5, bf5⟩, by show i - (((x : Nat) : Int) + 1).toNat < _; omega⟩
    · have e2 := lt_f e2
      obtain rfl : x = i := by omega
      rw [upto_all, ← spread_succ] at J5
      refine ⟨rfl, (), rfl, fun g => ?_⟩
      obtain ⟨B1, B2, B3⟩ := hTn T5
      refine ld_sl (B1.cell 2) ?_
      generalize hpre : (List.range (d + 1)).flatMap (roundM G x t) = pre at *
      refine loop_i mixed m40_16 s40_16 (by kernel_rfl) (by kernel_rfl) (fun v w6 => ∃ j : Nat, v.1 = (j : Nat) ∧ j ≤ p.edges.length ∧ Ch (fun k => Sb k ∨ w0.heap.size ≤ k) w0 w6 ∧ J pre w6 ∧ Blk w6 fb ((relax (((p.edges.take j).filter (goesB p back)).map edgeP) d (farAt G x t d)).map intC) tInt) (fun v _ => p.edges.length - v.1.toNat) (0, ()) rfl
        ⟨0, rfl, Nat.zero_le _, T5, J5, bf5⟩ ?_
      rintro ⟨_, ⟨⟩⟩ g w6 ⟨j, rfl, hj, T6, J6, bf6⟩
      rw [t40_16]
      simp only [addr_add, Nat.zero_add]
      generalize hfar : relax (((p.edges.take j).filter (goesB p back)).map edgeP) d (farAt G x t d) = far at *
      have hfl : far.length = x := by rw [← hfar, (relax_grown d _ _).1, farAt_len]
      refine br_both (fun e4 => ?_) fun e4 => ?_
      · have e4 : ((j : Nat) : Int) < (p.edges.length : Int) := lt_t e4
        obtain ⟨ed, hed⟩ := some_at (l := p.edges) (i := j) (by omega)
        obtain ⟨⟨f0, f1⟩, ⟨t0, t1⟩, -⟩ := he ed (List.mem_of_getElem? hed)
        rw [← hN] at hfl
        have hst := gr_step p back j ed hed d (farAt G x t d)
        rw [hfar] at hst
        refine ed_i (hP _ T6) hed fun ea n7 w7 c7 hn7 b7 => ?_
        have hc7 : Ch (fun k => fb ≤ k) w6 w7 := c7.no
        have T7 := ownT T6 hc7
        have bf7 := bf6.ch c7 (fun h => h)
        have fa : ed.frm.toNat < far.length := by omega
        have fb_ : ed.to.toNat < far.length := by omega
        refine cut_i mixed s40_23 (fun v w8 => Ch No w7 w8 ∧ v.1 = (decide (far[ed.frm.toNat] = (d : Int)) && decide (far[ed.to.toNat] < 0) && goesB p back ed)) (by kernel_rfl) (fun g => ?_) ?_
        · rw [t40_23]
          simp only [addr_add, Nat.zero_add]
          refine ld_int (b7.cell 0) (ix_i f0 (by omega) ?_)
          rw [addr_add, Nat.zero_add, Nat.mul_one]
          refine ld_int ((bf7.cell _).trans (by rw [List.getElem?_map, List.getElem?_eq_getElem fa]; rfl)) (br_both (fun e5 => ?_) fun e5 => ?_)
          · have e5 : far[ed.frm.toNat] = (d : Int) := eq_of_beq e5
            refine ld_int (b7.cell 2) (ix_i t0 (by omega) ?_)
            rw [addr_add, Nat.zero_add, Nat.mul_one]
            refine ld_int ((bf7.cell _).trans (by rw [List.getElem?_map, List.getElem?_eq_getElem fb_]; rfl)) (br_both (fun e6 => ?_) fun e6 => ?_)
            · have e6 := lt_t e6
              obtain ⟨B1, B2, B3⟩ := hTn T7
              refine ld_bool (B3.cell 0) (br_both (fun e7 => ?_) fun e7 => ?_)
              · refine ⟨rfl, (true, ()), rfl, Ch.refl _ _, ?_⟩
                rw [decide_eq_true e5, decide_eq_true e6, e7]
                rfl
              · refine ld_int (B1.cell 0) (ld_sl (B1.cell 1) (ld_sl (B1.cell 2) (ld_int (b7.cell 0) (ld_int (b7.cell 1) (ld_int (b7.cell 2) (ld_int (b7.cell 3) (cl_i (loops_any w7 p tp ep tc ec ed (hP _ T7) t0 (by omega)) ?_)))))))
                rintro r w8 ⟨rfl, c8⟩
                refine ⟨loopsM p ed, rfl, rfl, (_, ()), rfl, c8, ?_⟩
                rw [decide_eq_true e5, decide_eq_true e6]
                unfold goesB
                rw [e7]
                rfl
            · have e6 : ¬ far[ed.to.toNat] < 0 := of_decide_eq_false e6
              refine ⟨rfl, (false, ()), rfl, Ch.refl _ _, ?_⟩
              rw [decide_eq_false e6, Bool.and_false, Bool.false_and]
          · have e5 : ¬ far[ed.frm.toNat] = (d : Int) := fun hh => by rw [hh] at e5; simp at e5
            refine ⟨rfl, (false, ()), rfl, Ch.refl _ _, ?_⟩
            rw [decide_eq_false e5, Bool.false_and, Bool.false_and]
        rintro ⟨b, ⟨⟩⟩ g w8 ⟨c8, hb⟩
        dsimp only at hb ⊢
        have bf8 := bf7.ch c8 (fun h => h)
        have b8 := b7.ch c8 (fun h => h)
        have T8 := ownT T7 (c8.no (S := fun k => fb ≤ k))
        have J8 := own (own J6 hc7) (c8.no (S := fun k => fb ≤ k))
        have hr1 := relax1_is (d := d) fa fb_
        refine br_both (fun e5 => ?_) fun e5 => ?_
        · rw [e5] at hb
          have hb := hb.symm
          rw [Bool.and_eq_true, Bool.and_eq_true, decide_eq_true_eq, decide_eq_true_eq] at hb
          obtain ⟨⟨h1, h2⟩, h3⟩ := hb
          refine ld_int (b8.cell 2) (ix_i t0 (by omega) ?_)
          rw [addr_add, Nat.zero_add, Nat.mul_one]
          refine st_blk bf8 (by rw [List.length_map]; exact fb_) rfl fun w9 c9 s9 bf9 => ?_
          have hc9 : Ch (fun k => fb ≤ k) w8 w9 := c9.mono fun k (h : k = fb) => by omega
          refine ⟨(((j : Nat) : Int) + 1, ()), by rw [wrap_succ (by omega) (by omega)]; rfl, ⟨j + 1, rfl, by omega, ownT T8 hc9, own J8 hc9, ?_⟩, by show p.edges.length - (((j : Nat) : Int) + 1).toNat < _; omega⟩
          rw [hst, if_pos h3]
          show Blk w9 fb ((relax1 d far (ed.frm.toNat, ed.to.toNat)).map intC) tInt
          rw [hr1, if_pos ⟨h1, h2⟩, List.map_set]
          rw [wrap_succ (by omega) (by omega)] at bf9
          exact bf9
        · refine ⟨(((j : Nat) : Int) + 1, ()), by rw [wrap_succ (by omega) (by omega)]; rfl, ⟨j + 1, rfl, by omega, T8, J8, ?_⟩, by show p.edges.length - (((j : Nat) : Int) + 1).toNat < _; omega⟩
          rw [e5] at hb
          have hb := hb.symm
          rw [hst]
          by_cases h3 : goesB p back ed = true
          · rw [if_pos h3]
            show Blk w8 fb ((relax1 d far (ed.frm.toNat, ed.to.toNat)).map intC) tInt
            rw [hr1, if_neg (fun hh => by rw [decide_eq_true hh.1, decide_eq_true hh.2, h3] at hb; cases hb)]
            exact bf8
          · rw [if_neg h3]
            exact bf8
      · have e4 : ((p.edges.length : Nat) : Int) ≤ ((j : Nat) : Int) := lt_f e4
        obtain rfl : j = p.edges.length := by omega
        rw [List.take_length, hGr] at hfar
        refine ⟨rfl, (), rfl, fun g => ⟨(((d : Nat) : Int) + 1, ()), by rw [wrap_succ (by omega) (by omega)]; rfl, ⟨d + 1, rfl, by omega, T6, by rw [hpre]; exact J6, ?_⟩, by show x - (((d : Nat) : Int) + 1).toNat < _; omega⟩⟩
        show Blk w6 fb ((relax G d (farAt G x t d)).map intC) tInt
        rw [hfar]
        exact bf6
  · have e : ((p.tasks.length : Nat) : Int) ≤ ((d : Nat) : Int) := lt_f e
    obtain rfl : d = i := by omega
    exact ⟨rfl, (), rfl, fun g => ⟨⟨_, rfl⟩, .inl J4⟩⟩
end Go.Proofs.YtkebljkdkaagfaaGreatDoor.S
