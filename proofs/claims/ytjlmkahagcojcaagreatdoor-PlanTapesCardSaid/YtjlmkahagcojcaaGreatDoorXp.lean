/- A tape's copy: valueCopy, tapeCopy. -/
import Derived.Test.YtjlmkahagcojcaaGreatDoorXo
import Derived.Deep.Upon
namespace Go.Proofs.YtjlmkahagcojcaaGreatDoor.V
open Go Tr
set_option maxRecDepth 100000
/-! the tree of function 50 -/
abbrev fx50_8 (n1 : Nat) (n2 : Nat) (n7 : Nat) : List (Tmp × Value) := [(1, .pointer (some ⟨n1, 0, none⟩)), (2, .pointer (some ⟨n2, 0, none⟩)), (3, .pointer (some ⟨n7, 0, none⟩))]
abbrev m50_8 : List (Tmp × Comp) := [(4, .leaf (.int .i64))]
abbrev mx50_8 : List (Tmp × Comp) := []
abbrev mr50_8 : List (Tmp × Comp) := []
def s50_8 : Script := .ld .sl (.sym (.hd0 (.hq 0 (.hq 2 (.hq 3 (.ld .sl (.hq 4 (.hq 5 (.ix (.hq 6 (.ld (.int .i64) (.ld (.int .i64) (.ld .str (.ld .sl (.hl 1 (.ld .sl (.he 7 (.cl (.one (.agg [.int .i64, .int .i64, .str, .sl])) (.he 8 (.he 9 (.rn (.one (.leaf .sl)) (.hq 10 (.he 11 .nil)))))))) (.hl 7 (.cl (.one (.agg [.int .i64, .int .i64, .str, .sl])) (.hl 1 (.ld .sl (.he 8 (.he 9 (.rn (.one (.leaf .sl)) (.hq 10 (.he 11 .nil)))))) (.hl 8 (.he 1 (.ld .sl (.he 9 (.rn (.one (.leaf .sl)) (.hq 10 (.he 11 .nil)))))) .nil))) .nil))))))))))))))) .nil)
theorem t50_8 (n1 : Nat) (n2 : Nat) (n7 : Nat) (x_4 : Int) (gg8 : Nat → Value) : pieceT Tryz.prog (at_ Tryz.f50 [1, 1, 1, 0, 1, 0, 0]) 26 (fx50_8 n1 n2 n7 ++ mvals m50_8 (x_4, ())) gg8 (m50_8.map (·.1)) (mx50_8.map (·.1)) (mr50_8.map (·.1)) s50_8 = .load ⟨n1, 3, none⟩ .sl (fun l9 => .br (Decidable.decide (x_4 < (↑l9.snd.fst : Int))) (.hdrawn (.load ⟨n1, 3, none⟩ .sl (fun l10 => .idx l10.1 x_4 l10.2.1 4 (fun a11 => .load a11 (.int .i64) (fun x12 => .load (a11.add 1) (.int .i64) (fun x13 => .load (a11.add 2) .str (fun s14 => .load (a11.add 3) .sl (fun l15 => .both (.eff (.load ⟨n7, 3, none⟩ .sl (fun l16 => .back (.eff (.call 50 #[.agg #[.int .i64 x12, .int .i64 x13, .string s14, .slice l15.1 l15.2.1 l15.2.2]] (.one (.agg [.int .i64, .int .i64, .str, .sl])) (fun r17 => .back (.eff (.new (.cells #[.int .i64 r17.1, .int .i64 r17.2.1, .string r17.2.2.1, .slice r17.2.2.2.1.1 r17.2.2.2.1.2.1 r17.2.2.2.1.2.2] 52 (0, 0)) (fun n18 => .back (.eff (.run (builtin .append #[50, 50] 50 #[false, false] #[.slice l16.1 l16.2.1 l16.2.2, .slice (some ⟨n18, 0, none⟩) 1 1]) (.one (.leaf .sl)) (fun l19 => .back (.eff (.store ⟨n7, 3, none⟩ (.slice l19.1 l19.2.1 l19.2.2) (.back (.undrawn (.fin .normal [(4, .int .i64 (IntKind.i64.wrap (x_4 + 1)))]))))))))))))))))) (.both (.eff (.call 50 #[.agg #[.int .i64 x12, .int .i64 x13, .string s14, .slice l15.1 l15.2.1 l15.2.2]] (.one (.agg [.int .i64, .int .i64, .str, .sl])) (fun r20 => .back (.both (.eff (.load ⟨n7, 3, none⟩ .sl (fun l21 => .back (.eff (.new (.cells #[.int .i64 r20.1, .int .i64 r20.2.1, .string r20.2.2.1, .slice r20.2.2.2.1.1 r20.2.2.2.1.2.1 r20.2.2.2.1.2.2] 52 (0, 0)) (fun n22 => .back (.eff (.run (builtin .append #[50, 50] 50 #[false, false] #[.slice l21.1 l21.2.1 l21.2.2, .slice (some ⟨n22, 0, none⟩) 1 1]) (.one (.leaf .sl)) (fun l23 => .back (.eff (.store ⟨n7, 3, none⟩ (.slice l23.1 l23.2.1 l23.2.2) (.back (.undrawn (.fin .normal [(4, .int .i64 (IntKind.i64.wrap (x_4 + 1)))])))))))))))))) (.both (.eff (.new (.cells #[.int .i64 r20.1, .int .i64 r20.2.1, .string r20.2.2.1, .slice r20.2.2.2.1.1 r20.2.2.2.1.2.1 r20.2.2.2.1.2.2] 52 (0, 0)) (fun n24 => .back (.eff (.load ⟨n7, 3, none⟩ .sl (fun l25 => .back (.eff (.run (builtin .append #[50, 50] 50 #[false, false] #[.slice l25.1 l25.2.1 l25.2.2, .slice (some ⟨n24, 0, none⟩) 1 1]) (.one (.leaf .sl)) (fun l26 => .back (.eff (.store ⟨n7, 3, none⟩ (.slice l26.1 l26.2.1 l26.2.2) (.back (.undrawn (.fin .normal [(4, .int .i64 (IntKind.i64.wrap (x_4 + 1)))])))))))))))))) (.triv)))))) (.triv)))))))))) (.fin (.exit 0) [])) := by kernel_rfl
def s50 : Script := .ld (.int .i64) (.ld (.int .i64) (.ld .str (.ld .sl (.lp 0 [1, 2, 3] [4] mx50_8 mr50_8 (.ld (.int .i64) (.ld (.int .i64) (.ld .str (.ld .sl (.ld (.int .i64) (.ld (.int .i64) (.ld .str (.ld .sl .nil)))))))) .nil))))
theorem t50 (qx0_0 : Int) (qx0_1 : Int) (qs0_2 : ByteArray) (qa0_3 : Option Addr) (qn0_3 : Nat) (qc0_3 : Nat) : fnT Tryz.prog Tryz.f50 #[.agg #[.int .i64 qx0_0, .int .i64 qx0_1, .string qs0_2, .slice qa0_3 qn0_3 qc0_3]] s50 = .new (.cells #[.int .i64 qx0_0, .int .i64 qx0_1, .string qs0_2, .slice qa0_3 qn0_3 qc0_3] 52 (0, 0)) (fun n1 => .new (.cells #[.int .i64 0, .int .i64 0, .string (bytesL []), .slice none 0 0] 52 (0, 0)) (fun n2 => .load ⟨n1, 0, none⟩ (.int .i64) (fun x3 => .load ⟨n1, 1, none⟩ (.int .i64) (fun x4 => .load ⟨n1, 2, none⟩ .str (fun s5 => .load ⟨n1, 3, none⟩ .sl (fun l6 => .new (.cells #[.int .i64 0, .int .i64 0, .string (bytesL []), .slice none 0 0] 52 (0, 0)) (fun n7 => .store ⟨n7, 0, none⟩ (.int .i64 x3) (.store ⟨n7, 1, none⟩ (.int .i64 x4) (.store ⟨n7, 2, none⟩ (.string s5) (.store ⟨n7, 3, none⟩ (.slice l6.1 l6.2.1 l6.2.2) (.store ⟨n7, 3, none⟩ (.slice none 0 0) (.loop (at_ Tryz.f50 [1, 1, 1, 0, 1, 0, 0]) 26 (fx50_8 n1 n2 n7) [(4, .int .i64 0)] mx50_8 mr50_8 0 (fun u27 g27 => .load ⟨n7, 0, none⟩ (.int .i64) (fun x28 => .load ⟨n7, 1, none⟩ (.int .i64) (fun x29 => .load ⟨n7, 2, none⟩ .str (fun s30 => .load ⟨n7, 3, none⟩ .sl (fun l31 => .store ⟨n2, 0, none⟩ (.int .i64 x28) (.store ⟨n2, 1, none⟩ (.int .i64 x29) (.store ⟨n2, 2, none⟩ (.string s30) (.store ⟨n2, 3, none⟩ (.slice l31.1 l31.2.1 l31.2.2) (.load ⟨n2, 0, none⟩ (.int .i64) (fun x32 => .load ⟨n2, 1, none⟩ (.int .i64) (fun x33 => .load ⟨n2, 2, none⟩ .str (fun s34 => .load ⟨n2, 3, none⟩ .sl (fun l35 => .done (.returned (.agg #[.int .i64 x32, .int .i64 x33, .string s34, .slice l35.1 l35.2.1 l35.2.2]))))))))))))))) (fun u36 g36 => .stuck))))))))))))) := by kernel_rfl
/-! the tree of function 17 -/
abbrev fx17_1 (qa0 : Option Addr) (qn0 : Nat) (qc0 : Nat) : List (Tmp × Value) := [(0, .slice qa0 qn0 qc0), (2, .slice none 0 0)]
abbrev m17_1 : List (Tmp × Comp) := [(3, .leaf .sl), (4, .leaf (.int .i64))]
abbrev mx17_1 : List (Tmp × Comp) := [(3, .leaf .sl)]
abbrev mr17_1 : List (Tmp × Comp) := []
abbrev fx17_2 (qa0 : Option Addr) (qn0 : Nat) (qc0 : Nat) (l_3 : Option Addr × Nat × Nat) (x_4 : Int) : List (Tmp × Value) := [(0, .slice qa0 qn0 qc0), (3, .slice l_3.1 l_3.2.1 l_3.2.2), (4, .int .i64 x_4)]
abbrev mx17_2 : List (Tmp × Comp) := [(5, .leaf .blk)]
def s17_2 : Script := .hd0 (.hq 0 (.hq 1 (.hq 2 (.ix (.hq 3 (.hq 4 (.ld .str (.hq 5 (.hq 6 (.hq 7 (.ix (.hq 8 (.hq 9 (.ld (.int .i64) (.ld (.int .i64) (.ld .str (.ld .sl (.hl 10 (.cl (.one (.agg [.int .i64, .int .i64, .str, .sl])) (.hq 11 (.he 12 (.he 13 .nil)))) (.hl 12 (.he 10 (.cl (.one (.agg [.int .i64, .int .i64, .str, .sl])) (.hq 11 (.he 13 .nil)))) .nil)))))))))))))))))))
theorem t17_2 (qa0 : Option Addr) (qn0 : Nat) (qc0 : Nat) (l_3 : Option Addr × Nat × Nat) (x_4 : Int) (gg2 : Nat → Value) : pieceT Tryz.prog (at_ Tryz.f17 [1, 1, 0, 1, 0, 0, 1, 0, 0, 0]) 38 (fx17_2 qa0 qn0 qc0 l_3 x_4) gg2 (mx17_2.map (·.1)) [] [] s17_2 = .hdrawn (.idx qa0 x_4 qn0 6 (fun a3 => .load a3 .str (fun s4 => .idx qa0 x_4 qn0 6 (fun a5 => .load (a5.add 1) (.int .i64) (fun x6 => .load ((a5.add 1).add 1) (.int .i64) (fun x7 => .load ((a5.add 1).add 2) .str (fun s8 => .load ((a5.add 1).add 3) .sl (fun l9 => .both (.eff (.call 50 #[.agg #[.int .i64 x6, .int .i64 x7, .string s8, .slice l9.1 l9.2.1 l9.2.2]] (.one (.agg [.int .i64, .int .i64, .str, .sl])) (fun r10 => .back (.eff (.new (.cells #[.string (bytesL []), .int .i64 0, .int .i64 0, .string (bytesL []), .slice none 0 0, .slice none 0 0] 54 (0, 0)) (fun n11 => .back (.eff (.store ⟨n11, 0, none⟩ (.string s4) (.store ⟨n11, 1, none⟩ (.int .i64 r10.1) (.store ⟨n11, 2, none⟩ (.int .i64 r10.2.1) (.store ⟨n11, 3, none⟩ (.string r10.2.2.1) (.store ⟨n11, 4, none⟩ (.slice r10.2.2.2.1.1 r10.2.2.2.1.2.1 r10.2.2.2.1.2.2) (.store ⟨n11, 5, none⟩ (.slice none 0 0) (.back (.undrawn (.fin .normal [(5, .pointer (some ⟨n11, 0, none⟩))])))))))))))))))) (.both (.eff (.new (.cells #[.string (bytesL []), .int .i64 0, .int .i64 0, .string (bytesL []), .slice none 0 0, .slice none 0 0] 54 (0, 0)) (fun n12 => .back (.eff (.call 50 #[.agg #[.int .i64 x6, .int .i64 x7, .string s8, .slice l9.1 l9.2.1 l9.2.2]] (.one (.agg [.int .i64, .int .i64, .str, .sl])) (fun r13 => .back (.eff (.store ⟨n12, 0, none⟩ (.string s4) (.store ⟨n12, 1, none⟩ (.int .i64 r13.1) (.store ⟨n12, 2, none⟩ (.int .i64 r13.2.1) (.store ⟨n12, 3, none⟩ (.string r13.2.2.1) (.store ⟨n12, 4, none⟩ (.slice r13.2.2.2.1.1 r13.2.2.2.1.2.1 r13.2.2.2.1.2.2) (.store ⟨n12, 5, none⟩ (.slice none 0 0) (.back (.undrawn (.fin .normal [(5, .pointer (some ⟨n12, 0, none⟩))])))))))))))))))) (.triv)))))))))) := by kernel_rfl
abbrev fx17_15 (qa0 : Option Addr) (qn0 : Nat) (qc0 : Nat) (l_3 : Option Addr × Nat × Nat) (x_4 : Int) (u14 : Nat × Unit) : List (Tmp × Value) := [(0, .slice qa0 qn0 qc0), (3, .slice l_3.1 l_3.2.1 l_3.2.2), (4, .int .i64 x_4), (5, .pointer (some ⟨u14.1, 0, none⟩))]
abbrev mx17_15 : List (Tmp × Comp) := []
def s17_15 : Script := .hd0 (.hq 0 (.hq 2 (.hq 3 (.hq 4 (.ix (.hq 5 (.hq 6 (.ld .sl (.he 1 (.ld .sl (.he 7 (.rn (.one (.leaf .sl)) (.hq 8 (.he 9 .nil))))))))))))))
theorem t17_15 (qa0 : Option Addr) (qn0 : Nat) (qc0 : Nat) (l_3 : Option Addr × Nat × Nat) (x_4 : Int) (u14 : Nat × Unit) (gg15 : Nat → Value) : pieceT Tryz.prog (at_ Tryz.f17 [1, 1, 0, 1, 0, 0, 1, 0, 0, 1, 0]) 38 (fx17_15 qa0 qn0 qc0 l_3 x_4 u14) gg15 (mx17_15.map (·.1)) [] [] s17_15 = .hdrawn (.idx qa0 x_4 qn0 6 (fun a16 => .load (a16.add 5) .sl (fun l17 => .eff (.load ⟨u14.1, 5, none⟩ .sl (fun l18 => .back (.eff (.run (builtin .append #[36, 36] 36 #[false, false] #[.slice l18.1 l18.2.1 l18.2.2, .slice l17.1 l17.2.1 l17.2.2]) (.one (.leaf .sl)) (fun l19 => .back (.eff (.store ⟨u14.1, 5, none⟩ (.slice l19.1 l19.2.1 l19.2.2) (.back (.undrawn (.fin .normal []))))))))))))) := by kernel_rfl
def s17_1 : Script := .sym (.ct 1 [0, 3, 4] mx17_2 (.ct 0 [0, 3, 4, 5] mx17_15 (.ld .str (.ld (.int .i64) (.ld (.int .i64) (.ld .str (.ld .sl (.ld .sl (.nop (.rn (.one (.leaf .sl)) .nil)))))))))) .nil
theorem t17_1 (qa0 : Option Addr) (qn0 : Nat) (qc0 : Nat) (l_3 : Option Addr × Nat × Nat) (x_4 : Int) (gg1 : Nat → Value) : pieceT Tryz.prog (at_ Tryz.f17 [1, 1, 0, 1, 0, 0]) 38 (fx17_1 qa0 qn0 qc0 ++ mvals m17_1 (l_3, x_4, ())) gg1 (m17_1.map (·.1)) (mx17_1.map (·.1)) (mr17_1.map (·.1)) s17_1 = .br (Decidable.decide (x_4 < (↑qn0 : Int))) (.cut (at_ Tryz.f17 [1, 1, 0, 1, 0, 0, 1, 0, 0, 0]) 38 (fx17_2 qa0 qn0 qc0 l_3 x_4) mx17_2 (fun u14 g14 => .cut (at_ Tryz.f17 [1, 1, 0, 1, 0, 0, 1, 0, 0, 1, 0]) 38 (fx17_15 qa0 qn0 qc0 l_3 x_4 u14) mx17_15 (fun u20 g20 => .load ⟨u14.1, 0, none⟩ .str (fun s21 => .load ⟨u14.1, 1, none⟩ (.int .i64) (fun x22 => .load ⟨u14.1, 2, none⟩ (.int .i64) (fun x23 => .load ⟨u14.1, 3, none⟩ .str (fun s24 => .load ⟨u14.1, 4, none⟩ .sl (fun l25 => .load ⟨u14.1, 5, none⟩ .sl (fun l26 => .new (.cells #[.string s21, .int .i64 x22, .int .i64 x23, .string s24, .slice l25.1 l25.2.1 l25.2.2, .slice l26.1 l26.2.1 l26.2.2] 54 (0, 0)) (fun n27 => .run (builtin .append #[40, 40] 40 #[false, false] #[.slice l_3.1 l_3.2.1 l_3.2.2, .slice (some ⟨n27, 0, none⟩) 1 1]) (.one (.leaf .sl)) (fun l28 => .fin .normal [(3, .slice l28.1 l28.2.1 l28.2.2), (4, .int .i64 (IntKind.i64.wrap (x_4 + 1)))]))))))))))) (.fin (.exit 0) [(3, .slice l_3.1 l_3.2.1 l_3.2.2)]) := by kernel_rfl
def s17 : Script := .lp 0 [0, 2] [3, 4] mx17_1 mr17_1 .nil .nil
theorem t17 (qa0 : Option Addr) (qn0 : Nat) (qc0 : Nat) : fnT Tryz.prog Tryz.f17 #[.slice qa0 qn0 qc0] s17 = .loop (at_ Tryz.f17 [1, 1, 0, 1, 0, 0]) 38 (fx17_1 qa0 qn0 qc0) [(3, .slice none 0 0), (4, .int .i64 0)] mx17_1 mr17_1 0 (fun u29 g29 => .done (.returned (.slice u29.1.1 u29.1.2.1 u29.1.2.2))) (fun u30 g30 => .stuck) := by kernel_rfl
section
variable {R : Ending → World → Prop} {Q : Exit → List (Tmp × Value) → World → Prop} {w : World}
/-- Behind an append to a value's items and its store. -/
theorem vap_core {w12 w13 : World} {n8 : Nat} {q q' : Option Addr} {t d c' : Nat} {acc : List Elt} {y : Elt} (V : RowV w (n8 + 1) q t d acc) (hy : IsVB (fun b => n8 + 1 ≤ b ∧ b < w.heap.size ∧ ¬ rowS q t d b) w y.1 y.2.1 y.2.2.1 y.2.2.2)
    (g12 : Grew (n8 + 1) tVal 4 w q t d w12 q' (t + 1) c' (acc.flatMap Elt.cells ++ y.cells)) (h13 : Ch (· = n8) w12 w13) (hs : n8 + 1 ≤ w.heap.size) : RowV w13 (n8 + 1) q' (t + 1) c' (acc ++ [y]) ∧ Ch (fun b => n8 ≤ b) w w13 := by
  have s12 := g12.ch.size
  have lo : ∀ k, rowS q t d k → n8 + 1 ≤ k ∧ k < w.heap.size := fun k hk => V.row.lt hk
  have hrow := Row.ch g12.own h13 (fun k hk (e : k = n8) => by
    rcases g12.lies k hk with h | h
    · have := (lo _ h).1; omega
    · omega)
  have lies : ∀ k, rowS q' (t + 1) c' k → rowS q t d k ∨ w.heap.size ≤ k := g12.lies
  have s13 := h13.size
  have mv : ∀ {z : Elt}, IsVB (fun b => n8 + 1 ≤ b ∧ b < w.heap.size ∧ ¬ rowS q t d b) w z.1 z.2.1 z.2.2.1 z.2.2.2 → IsVB (fun b => n8 + 1 ≤ b ∧ b < w13.heap.size ∧ ¬ rowS q' (t + 1) c' b) w13 z.1 z.2.1 z.2.2.1 z.2.2.2 := fun e9 => by
    have e12 := e9.ch g12.ch (fun k hk => hk.2.2)
    have e13 := e12.ch h13 (fun k hk (e : k = n8) => by have := hk.1; omega)
    refine e13.mono fun k hk => ⟨hk.1, by have := hk.2.1; omega, fun hr => ?_⟩
    rcases lies k hr with h | h
    · exact hk.2.2 h
    · have := hk.2.1; omega
  refine ⟨⟨?_, by simp [V.len], fun z hz => ?_⟩, ?_⟩
  · rw [List.flatMap_append]
    simpa using hrow
  · rcases List.mem_append.1 hz with hz | hz
    · exact mv (V.elts z hz)
    · obtain rfl : z = y := by simpa using hz
      exact mv hy
  · exact (g12.ch.mono fun k hk => by have := (lo _ hk).1; show n8 ≤ k; omega).trans (h13.mono fun k (hk : k = n8) => by show n8 ≤ k; omega)
/-- The same in a held region. -/
theorem vap_e {k i : Int} {s : ByteArray} {n8 : Nat} {q : Option Addr} {t d : Nat} {acc : List Elt} (ht : t ≤ 1000000) {y : Elt} {n10 : Nat} {K : T} {C : World → Prop} (hC : ∀ w', Ch (fun b => n8 ≤ b) w w' → C w')
    (b8 : Blk w n8 [.int .i64 k, .int .i64 i, .string s, .slice q t d] tVal) (V : RowV w (n8 + 1) q t d acc) (hs : n8 + 1 ≤ w.heap.size) (hy : IsVB (fun b => n8 + 1 ≤ b ∧ b < w.heap.size ∧ ¬ rowS q t d b) w y.1 y.2.1 y.2.2.1 y.2.2.2) (b10 : Blk w n10 y.cells tVal)
    (h : ∀ w' q' d', Blk w' n8 [.int .i64 k, .int .i64 i, .string s, .slice q' (t + 1) d'] tVal → RowV w' (n8 + 1) q' (t + 1) d' (acc ++ [y]) → Ch (fun b => n8 ≤ b) w w' → wpT Tryz.prog R Q K .pl w') :
    wpT Tryz.prog R Q (.run (builtin .append #[50, 50] 50 #[false, false] #[.slice q t d, .slice (some ⟨n10, 0, none⟩) 1 1]) (.one (.leaf .sl)) (fun l11 : Option Addr × Nat × Nat => .back (.eff (.store ⟨n8, 3, none⟩ (.slice l11.1 l11.2.1 l11.2.2) (.back (.undrawn K)))))) (.ef C) w := by
  refine ap_blk (by kernel_rfl) infoVal rfl (by omega) V.row hs b10 rfl (fun u hu => ?_) (Nat.le_trans (by omega : t + 1 ≤ 1000001) (by decide)) (by omega) fun q' c' w12 g12 => ?_
  · simp only [Elt.cells, cellsV, List.mem_cons, List.mem_nil_iff, or_false] at hu
    rcases hu with rfl | rfl | rfl | rfl <;> rfl
  have lo : ∀ k, rowS q t d k → n8 + 1 ≤ k ∧ k < w.heap.size := fun k hk => V.row.lt hk
  have b12 : Blk w12 n8 _ _ := b8.ch g12.ch (fun h => by have := (lo _ h).1; omega)
  refine bk (hC w12 (g12.ch.mono fun k hk => by have := (lo _ hk).1; show n8 ≤ k; omega)) (eff_i (st_blk b12 (by simp) rfl fun w13 h13 z13 b13 => ?_))
  obtain ⟨V13, h013⟩ := vap_core V hy g12 h13 hs
  exact bk (hC w13 h013) (un_h (h w13 q' c' b13 V13 h013))
end
set_option maxHeartbeats 1000000 in
theorem vcopy_any (k : Nat) : ∀ (x : VT) (p : Option Addr) (m c : Nat) (w : World), SizeOf.sizeOf x < k → IsV w x p m c → FewV x →
    Calls Tryz.prog 50 #[valV x p m c] w fun e w' => ∃ q n d, e = .returned (valV x q n d) ∧ Ch No w w' ∧ IsVB (fun b => w.heap.size ≤ b ∧ b < w'.heap.size) w' x q n d := by
  induction k with
  | zero => intro x p m c w h; omega
  | succ k ih =>
    intro x p m c w hk hx hF
    have hlen := RIt_len hx.its
    rw [FewV_def] at hF
    refine calls_of_fnT mixed Tryz.func50 (s := s50) ?_
    unfold valV
    rw [t50]
    refine nw fun w1 h1 z1 (b1 : Blk w1 _ (cellsV x p m c) tVal) => nw fun w2 h2 z2 b2 => ?_
    have b12 := b1.ch h2 (fun h => h)
    refine ld_v b12 ?_
    dsimp only
    refine nw fun w3 h3 z3 b3 => ?_
    have H3 := h1.trans (h2.trans h3)
    have b13 := b12.ch h3 (fun h => h)
    have b23 := b2.ch h3 (fun h => h)
    have hn1 := b1.lt
    have hn2 := b2.lt
    have hn3 := b3.lt
    generalize hN2 : w1.heap.size = n2 at *
    generalize hN7 : w2.heap.size = n7 at *
    refine st4_i (x := x) (p := p) (m := m) (c := c) b3 rfl fun w4 h4 b4 => st_blk b4 (by show 3 < 4; omega) rfl fun w5 h5 z5 b5 => ?_
    have h35 : Ch (· = n7) w3 w5 := h4.trans h5
    have H5 : Ch No w w5 := H3.then_ h35 fun i hi e => by omega
    have b15 := b13.ch h35 (fun e => by omega)
    have b25 := b23.ch h35 (fun e => by omega)
    have s35 := h35.size
    refine loop_i mixed m50_8 s50_8 (by kernel_rfl) (by kernel_rfl)
      (fun (v : Int × Unit) w' => ∃ (j : Nat) (acc : List Elt) (q : Option Addr) (d : Nat), v.1 = j ∧ j ≤ m ∧ Ch No w w' ∧ Blk w' w.heap.size (cellsV x p m c) tVal ∧ Blk w' n2 zeroC tVal ∧ Blk w' n7 [.int .i64 x.kind, .int .i64 x.int, .string x.text, .slice q j d] tVal ∧ RowV w' (n7 + 1) q j d acc ∧ acc.map (·.1) = x.items.take j ∧ n7 + 1 ≤ w'.heap.size)
      (fun (v : Int × Unit) _ => m - v.1.toNat) (0, ()) rfl ⟨0, [], none, 0, rfl, by omega, H5, b15, b25, b5, RowV.nil _ _, rfl, by omega⟩ ?_
    intro v g w6 hv
    rw [t50_8]
    obtain ⟨a, ⟨⟩⟩ := v
    dsimp only at hv ⊢
    obtain ⟨j, acc, q, d, ha, hj, H6, b16, b26, b76, V6, hacc, hs6⟩ := hv
    subst ha
    refine ld_sl (b16.cell 3) ?_
    dsimp only
    refine br_both (fun e => ?_) fun e => ?_
    · have hj' : j < m := by have := lt_t e; omega
      obtain ⟨y, hy⟩ : ∃ u, x.items[j]? = some u := ⟨_, List.getElem?_eq_getElem (by omega)⟩
      obtain ⟨ad, yp, ym, yc, hpa, cy, vy⟩ := hx.get hy
      have hsz := VT.size_lt hy
      have hFy := FewL_get _ _ _ hF.2 hy
      subst hpa
      have htk : x.items.take (j + 1) = x.items.take j ++ [y] := by
        obtain ⟨hlt, he⟩ := List.getElem?_eq_some_iff.1 hy
        rw [List.take_succ_eq_append_getElem hlt, he]
      have hwj : IntKind.i64.wrap ((j : Int) + 1) = ((j + 1 : Nat) : Int) := wrap_succ (by omega) (by omega)
      have hdr : Ch No w6 w6.drew := (Ch.refl _ _).drew
      have HC : ∀ {w'}, Ch (n7 ≤ ·) w6.drew w' → Ch (w.heap.size ≤ ·) w w' ∧ w'.cell? ⟨w.heap.size, 3, none⟩ = some (.slice (some ad) m c) := fun h => ⟨(H6.trans hdr).no.trans (h.mono fun k hk => by omega), h.cellv ((b16.ch hdr (fun h => h)).cell 3) (fun hh => by dsimp only at hh; omega)⟩
      have HN : ∀ {w'}, Ch No w6.drew w' → Ch (w.heap.size ≤ ·) w w' ∧ w'.cell? ⟨w.heap.size, 3, none⟩ = some (.slice (some ad) m c) := fun h => HC h.no
      refine hd_i (fun w' => Ch (w.heap.size ≤ ·) w w' ∧ w'.cell? ⟨w.heap.size, 3, none⟩ = some (.slice (some ad) m c)) (HN (Ch.refl _ _)) ?_
      refine lh_sl (fun _ h => h.2) ?_
      dsimp only
      refine ix_i (by omega) (by omega) ?_
      rw [Int.toNat_natCast]
      refine lh_int (fun _ h => upCell h.1 cy.c0) (lh_int (fun _ h => upCell h.1 cy.c1) (lh_str (fun _ h => upCell h.1 cy.c2) (lh_sl (fun _ h => upCell h.1 cy.c3) ?_)))
      dsimp only
      have b7d := b76.ch hdr (fun h => h)
      have Vd := V6.ch hdr (fun k _ h => h)
      have vyd : IsV w6.drew y yp ym yc := vy.up ((H6.trans hdr).no)
      have hsd : n7 + 1 ≤ w6.drew.heap.size := hs6
      have hc := ih y yp ym yc w6.drew (by omega) vyd hFy
      have fin : ∀ {R : Ending → World → Prop} {Q : Exit → List (Tmp × Value) → World → Prop} (w8 w9 : World) (yq : Option Addr) (yn yd n10 : Nat), Ch No w6.drew w8 → IsVB (fun b => w6.drew.heap.size ≤ b ∧ b < w8.heap.size) w8 y yq yn yd → Ch No w8 w9 → Blk w9 n10 (cellsV y yq yn yd) tVal →
          (∀ w' q' d', Blk w' n7 [.int .i64 x.kind, .int .i64 x.int, .string x.text, .slice q' (j + 1) d'] tVal → RowV w' (n7 + 1) q' (j + 1) d' (acc ++ [(y, yq, yn, yd)]) → Ch (n7 ≤ ·) w6.drew w' → Q .normal [(4, .int .i64 ((j + 1 : Nat) : Int))] w') →
          wpT Tryz.prog R Q (.run (builtin .append #[50, 50] 50 #[false, false] #[.slice q j d, .slice (some ⟨n10, 0, none⟩) 1 1]) (.one (.leaf .sl)) (fun l11 : Option Addr × Nat × Nat => .back (.eff (.store ⟨n7, 3, none⟩ (.slice l11.1 l11.2.1 l11.2.2) (.back (.undrawn (.fin .normal [(4, .int .i64 ((j + 1 : Nat) : Int))]))))))) (.ef fun w' => Ch (w.heap.size ≤ ·) w w' ∧ w'.cell? ⟨w.heap.size, 3, none⟩ = some (.slice (some ad) m c)) w9 := fun {R Q} w8 w9 yq yn yd n10 h8 hV h9 b10 hQ => by
        have s8 := h8.size
        have s9 := h9.size
        have H9 := h8.trans h9
        have lo : ∀ k, rowS q j d k → n7 + 1 ≤ k ∧ k < w6.drew.heap.size := fun k hk => Vd.row.lt hk
        refine vap_e (y := (y, yq, yn, yd)) (by omega) (fun w' h => HC (H9.no.trans h)) (b7d.ch H9 (fun h => h)) (Vd.ch H9 (fun k _ h => h)) (by omega) ((hV.ch h9 (fun k _ h => h)).mono fun k hk => ⟨by have := hk.1; omega, by have := hk.2; omega, fun hr => by have := (lo k hr).2; have := hk.1; omega⟩) b10 fun w' q' d' hb hV' hc' => ?_
        exact hQ w' q' d' hb hV' (H9.no.trans hc')
      have done_ : ∀ (yq : Option Addr) (yn yd : Nat) (w' : World) (q' : Option Addr) (d' : Nat), Blk w' n7 [.int .i64 x.kind, .int .i64 x.int, .string x.text, .slice q' (j + 1) d'] tVal → RowV w' (n7 + 1) q' (j + 1) d' (acc ++ [(y, yq, yn, yd)]) → Ch (n7 ≤ ·) w6.drew w' →
          ∃ v' : MVars m50_8, [((4 : Nat), Value.int .i64 ((j + 1 : Nat) : Int))] = mvals m50_8 v' ∧ (∃ (j : Nat) (acc : List Elt) (q : Option Addr) (d : Nat), v'.1 = j ∧ j ≤ m ∧ Ch No w w' ∧ Blk w' w.heap.size (cellsV x (some ad) m c) tVal ∧ Blk w' n2 zeroC tVal ∧ Blk w' n7 [.int .i64 x.kind, .int .i64 x.int, .string x.text, .slice q j d] tVal ∧ RowV w' (n7 + 1) q j d acc ∧ acc.map (·.1) = x.items.take j ∧ n7 + 1 ≤ w'.heap.size) ∧ m - v'.1.toNat < m - (j : Int).toNat := fun yq yn yd w' q' d' hb hV' hc' => by
        refine ⟨(((j + 1 : Nat) : Int), ()), rfl, ⟨j + 1, _, q', d', rfl, hj', (H6.trans hdr).then_ hc' fun i hi hh => by omega, (b16.ch hdr (fun h => h)).ch hc' (fun hh => by omega), (b26.ch hdr (fun h => h)).ch hc' (fun hh => by omega), hb, hV', ?_, by have := hc'.size; omega⟩, ?_⟩
        · rw [htk, List.map_append, hacc]; rfl
        · show m - (j + 1) < m - j
          exact Nat.sub_lt_sub_left hj' (Nat.lt_succ_self j)
      rw [hwj]
      refine ⟨?_, ?_, trivial⟩
      · refine eff_i (ld_sl (b7d.cell 3) (bk (HN (Ch.refl _ _)) (eff_i (cl_i hc ?_))))
        rintro e8 w8 ⟨yq, yn, yd, rfl, h8, V8⟩
        refine ⟨(y.kind, y.int, y.text, (yq, yn, yd), ()), rfl, bk (HN h8) (eff_i (nw fun w9 h9 z9 b9 => bk (HN (h8.trans h9)) (eff_i (fin w8 w9 yq yn yd _ h8 V8 h9 b9 fun w' q' d' hb hV' hc' => done_ yq yn yd w' q' d' hb hV' hc'))))⟩
      · refine eff_i (cl_i hc ?_)
        rintro e8 w8 ⟨yq, yn, yd, rfl, h8, V8⟩
        refine ⟨(y.kind, y.int, y.text, (yq, yn, yd), ()), rfl, bk (HN h8) ⟨?_, ?_, trivial⟩⟩
        · exact eff_i (ld_sl ((b7d.ch h8 (fun h => h)).cell 3) (bk (HN h8) (eff_i (nw fun w9 h9 z9 b9 => bk (HN (h8.trans h9)) (eff_i (fin w8 w9 yq yn yd _ h8 V8 h9 b9 fun w' q' d' hb hV' hc' => done_ yq yn yd w' q' d' hb hV' hc'))))))
        · exact eff_i (nw fun w9 h9 z9 b9 => bk (HN (h8.trans h9)) (eff_i (ld_sl ((b7d.ch (h8.trans h9) (fun h => h)).cell 3) (bk (HN (h8.trans h9)) (eff_i (fin w8 w9 yq yn yd _ h8 V8 h9 b9 fun w' q' d' hb hV' hc' => done_ yq yn yd w' q' d' hb hV' hc'))))))
    · have hj' : j = m := by have := lt_f e; omega
      subst hj'
      rw [List.take_of_length_le (by omega)] at hacc
      refine ⟨rfl, (), rfl, fun g => ?_⟩
      refine ld_v (x := x) b76 (st4_i (x := x) (p := q) (m := j) (c := d) b26 rfl fun w7 h7 b7 => ld_v b7 ?_)
      dsimp only
      refine ⟨q, j, d, rfl, H6.then_ h7 fun i hi e => by omega, ?_⟩
      have hx' := V6.is x.kind x.int x.text
      rw [hacc] at hx'
      have hxe : VT.mk x.kind x.int x.text x.items = x := by cases x; rfl
      rw [hxe] at hx'
      have s7 := h7.size
      exact (hx'.ch h7 (fun k hk (e : k = n2) => by have := hk.1; omega)).mono fun k hk => ⟨by have := hk.1; omega, by have := hk.2; omega⟩
section
variable {R : Ending → World → Prop} {Q : Exit → List (Tmp × Value) → World → Prop} {w : World} {md : Md} [hmd : md.Runs]
/-- Ints that stand somewhere, put behind nothing. -/
theorem ap_ints {k : Option Addr × Nat × Nat → T} {p : Option Addr} {n c : Nat} {l : List Int} (ha : AtI w p n l) (hn : n ≤ 2000000)
    (h : ∀ q' c' w', Ch No w w' → Row w' w.heap.size tInt 1 q' n c' (intCells l) → wpT Tryz.prog R Q (k (q', n, c')) md w') :
    wpT Tryz.prog R Q (.run (builtin .append #[tInts, tInts] tInts #[false, false] #[.slice none 0 0, .slice p n c]) (.one (.leaf .sl)) k) md w := by
  have hlen := ha.1
  have hne : n = 0 → intCells l = [] := fun h0 => List.eq_nil_of_length_eq_zero (by unfold intCells; rw [List.length_map]; omega)
  cases p with
  | none =>
    have h0 : n = 0 := Decidable.byContradiction fun h => by
      obtain ⟨g, o, e, _⟩ := ha.2 (by omega)
      cases e
    subst h0
    cases hi : Tryz.prog.info? tInt with
    | none => have := infoInt; rw [hi] at this; cases this
    | some i =>
      have hr' := run_append_nothing (P := Tryz.prog) w tInts tInts tInts tInt i (by kernel_rfl) hi none 0 0 (Nat.le_refl _) (.slice none 0 c) (Src.ofNil (P := Tryz.prog) (e' := tInt) w (by kernel_rfl) c)
      refine t_run (x := (none, 0, 0)) (w' := w) ?_ (h none 0 w (Ch.refl _ _) (by rw [hne rfl]; exact Row.nil _ _ _ _))
      simp only [builtin, Sem.run_bind, hr', Result.andThen]
      rfl
  | some a =>
    refine ap_row (by kernel_rfl) infoInt rfl (by omega) (Row.nil w w.heap.size tInt 1) (Nat.le_refl _) (intCells l) (by simp [intCells]; omega) (fun j u hu => ?_) (intCells_one l) (by unfold maxLen; omega) (by omega) fun q' c' w' g1 => ?_
    · have h0 : 0 < n := Decidable.byContradiction fun h => by rw [hne (by omega)] at hu; simp at hu
      obtain ⟨g, o, e, hc⟩ := ha.2 h0
      cases e
      simp only [intCells, List.getElem?_map, Option.map_eq_some_iff] at hu
      obtain ⟨x, hx, rfl⟩ := hu
      rw [addr_add]
      exact hc j x hx
    · have ho := g1.own
      rw [List.nil_append, Nat.zero_add] at ho
      rw [Nat.zero_add]
      exact h q' c' w' (g1.ch.mono fun k hk => by unfold rowS at hk; simp [Value.ownBlock] at hk) ho
end
/-! ### Rows of records with loops -/
def AtIB (B : Nat → Prop) (w : World) (p : Option Addr) (n : Nat) (l : List Int) : Prop := l.length = n ∧ (0 < n → ∃ g o, p = some ⟨g, o, none⟩ ∧ B g ∧ ∀ (j : Nat) (x : Int), l[j]? = some x → w.cell? ⟨g, o + j, none⟩ = some (.int .i64 x))
theorem AtIB.is {B : Nat → Prop} {w : World} {p : Option Addr} {n : Nat} {l : List Int} (h : AtIB B w p n l) : AtI w p n l := ⟨h.1, fun hn => by
  obtain ⟨g, o, e, _, hc⟩ := h.2 hn
  exact ⟨g, o, e, hc⟩⟩
theorem AtIB.ch {B S : Nat → Prop} {w w' : World} {p : Option Addr} {n : Nat} {l : List Int} (h : AtIB B w p n l) (hc : Ch S w w') (hB : ∀ k, B k → ¬ S k) : AtIB B w' p n l := ⟨h.1, fun hn => by
  obtain ⟨g, o, e, hb, hj⟩ := h.2 hn
  exact ⟨g, o, e, hb, fun j x hx => hc.cellv (hj j x hx) (hB _ hb)⟩⟩
theorem AtIB.mono {B B' : Nat → Prop} {w : World} {p : Option Addr} {n : Nat} {l : List Int} (h : AtIB B w p n l) (hB : ∀ k, B k → B' k) : AtIB B' w p n l := ⟨h.1, fun hn => by
  obtain ⟨g, o, e, hb, hj⟩ := h.2 hn
  exact ⟨g, o, e, hB _ hb, hj⟩⟩
theorem AtIB.of {w : World} {base : Nat} {p : Option Addr} {n c : Nat} {l : List Int} (h : Row w base tInt 1 p n c (intCells l)) : AtIB (fun k => base ≤ k ∧ k < w.heap.size) w p n l := by
  have hl := h.len
  unfold intCells at hl
  rw [List.length_map, Nat.mul_one] at hl
  refine ⟨hl, fun hn => ?_⟩
  obtain ⟨g, e, hg, hc⟩ := h.get hn
  refine ⟨g, 0, e, h.lt hg, fun j x hx => ?_⟩
  rw [Nat.zero_add]
  exact hc _ _ (by unfold intCells; rw [List.getElem?_map, hx]; rfl)
structure KE where
  r : RecM
  vq : Option Addr
  vn : Nat
  vc : Nat
  kp : Option Addr
  kn : Nat
  kc : Nat
def KE.cells (y : KE) : List Value := [.string y.r.key, .int .i64 y.r.val.kind, .int .i64 y.r.val.int, .string y.r.val.text, .slice y.vq y.vn y.vc, .slice y.kp y.kn y.kc]
structure RowK (w : World) (base : Nat) (p : Option Addr) (n c : Nat) (acc : List KE) : Prop where
  row : Row w base 54 6 p n c (acc.flatMap KE.cells)
  len : acc.length = n
  elts : ∀ y ∈ acc, IsVB (fun k => base ≤ k ∧ k < w.heap.size ∧ ¬ rowS p n c k) w y.r.val y.vq y.vn y.vc ∧ AtIB (fun k => base ≤ k ∧ k < w.heap.size ∧ ¬ rowS p n c k) w y.kp y.kn y.r.loops
theorem RowK.nil (w : World) (base : Nat) : RowK w base none 0 0 [] := ⟨Row.nil _ _ _ _, rfl, fun _ h => by cases h⟩
theorem RowK.push {w w1 w2 : World} {base : Nat} {q q' : Option Addr} {m d d' : Nat} {acc : List KE} {y : KE} (h : RowK w base q m d acc) (h1 : Ch No w w1) (hb : base ≤ w.heap.size) (hy : IsVB (fun b => w.heap.size ≤ b ∧ b < w1.heap.size) w1 y.r.val y.vq y.vn y.vc) (hk : AtIB (fun b => w.heap.size ≤ b ∧ b < w1.heap.size) w1 y.kp y.kn y.r.loops)
    (g : Grew base 54 6 w1 q m d w2 q' (m + 1) d' (acc.flatMap KE.cells ++ y.cells)) : RowK w2 base q' (m + 1) d' (acc ++ [y]) := by
  have s1 := h1.size
  have s2 := g.ch.size
  have lo : ∀ k, rowS q m d k → base ≤ k ∧ k < w.heap.size := fun k hk => h.row.lt hk
  refine ⟨?_, by simp [h.len], fun z hz => ?_⟩
  · rw [List.flatMap_append]
    simpa using g.own
  · rcases List.mem_append.1 hz with hz | hz
    · have sub : ∀ k, (base ≤ k ∧ k < w.heap.size ∧ ¬ rowS q m d k) → (base ≤ k ∧ k < w2.heap.size ∧ ¬ rowS q' (m + 1) d' k) := fun k hk => ⟨hk.1, by have := hk.2.1; omega, fun hr => by
        rcases g.lies k hr with h' | h'
        · exact hk.2.2 h'
        · have := hk.2.1; omega⟩
      exact ⟨(((h.elts z hz).1.ch h1 (fun k _ h => h)).ch g.ch (fun k hk => hk.2.2)).mono sub, (((h.elts z hz).2.ch h1 (fun k _ h => h)).ch g.ch (fun k hk => hk.2.2)).mono sub⟩
    · obtain rfl : z = y := by simpa using hz
      have sub : ∀ k, (w.heap.size ≤ k ∧ k < w1.heap.size) → (base ≤ k ∧ k < w2.heap.size ∧ ¬ rowS q' (m + 1) d' k) := fun k hk => ⟨by have := hk.1; omega, by have := hk.2; omega, fun hr => by
        rcases g.lies k hr with h' | h'
        · have := (lo _ h').2; have := hk.1; omega
        · have := hk.2; omega⟩
      have ne : ∀ k, (w.heap.size ≤ k ∧ k < w1.heap.size) → ¬ rowS q m d k := fun k hk h' => by have := (lo _ h').2; have := hk.1; omega
      exact ⟨(hy.ch g.ch ne).mono sub, (hk.ch g.ch ne).mono sub⟩
theorem flatK : ∀ (acc : List KE) (i r : Nat) (y : KE), acc[i]? = some y → r < 6 → (acc.flatMap KE.cells)[i * 6 + r]? = y.cells[r]?
  | [], i, _, _, h, _ => by simp at h
  | z :: acc, 0, r, y, h, hr => by
    simp at h
    subst h
    rw [List.flatMap_cons, Nat.zero_mul, Nat.zero_add, List.getElem?_append_left (by simpa [KE.cells] using hr)]
  | z :: acc, i + 1, r, y, h, hr => by
    have hl : (KE.cells z).length = 6 := rfl
    rw [List.flatMap_cons, List.getElem?_append_right (by omega), hl, show (i + 1) * 6 + r - 6 = i * 6 + r by omega]
    exact flatK acc i r y (by simpa using h) hr
theorem RowK.at {w : World} {base : Nat} {p : Option Addr} {n c : Nat} {acc : List KE} (h : RowK w base p n c acc) : AtT w p n (acc.map KE.r) := by
  refine ⟨by rw [List.length_map, h.len], fun hn => ?_⟩
  obtain ⟨g, rfl, _, hc⟩ := h.row.get hn
  refine ⟨_, rfl, fun j x hx => ?_⟩
  rw [List.getElem?_map] at hx
  obtain ⟨y, hy, rfl⟩ := Option.map_eq_some_iff.1 hx
  have cell : ∀ r v, r < 6 → y.cells[r]? = some v → w.cell? ⟨g, j * 6 + r, none⟩ = some v := fun r v hr hv => hc _ _ (by rw [flatK acc j r y hy hr]; exact hv)
  obtain ⟨hI, hK⟩ := h.elts y (List.mem_of_getElem? hy)
  refine ⟨y.vq, y.vn, y.vc, y.kp, y.kn, y.kc, ?_, ⟨?_, ?_, ?_, ?_⟩, ?_, hI.is, hK.is⟩ <;> simp only [addr_add, Nat.zero_add]
  · exact cell 0 _ (by omega) rfl
  · exact cell 1 _ (by omega) rfl
  · exact cell 2 _ (by omega) rfl
  · exact cell 3 _ (by omega) rfl
  · exact cell 4 _ (by omega) rfl
  · exact cell 5 _ (by omega) rfl
/-- A record is stored. -/
theorem st6_i {R : Ending → World → Prop} {Q : Exit → List (Tmp × Value) → World → Prop} {w : World} {md : Md} [hmd : md.Runs] {n1 : Nat} {k : ByteArray} {x : VT} {p : Option Addr} {m c : Nat} {q : Option Addr} {t d : Nat} {vs : List Value} {K : T} (hb : Blk w n1 vs tRec) (hl : vs.length = 6)
    (h : ∀ w1, Ch (· = n1) w w1 → Blk w1 n1 [.string k, .int .i64 x.kind, .int .i64 x.int, .string x.text, .slice p m c, .slice q t d] tRec → wpT Tryz.prog R Q K md w1) :
    wpT Tryz.prog R Q (.store ⟨n1, 0, none⟩ (.string k) (.store ⟨n1, 1, none⟩ (.int .i64 x.kind) (.store ⟨n1, 2, none⟩ (.int .i64 x.int) (.store ⟨n1, 3, none⟩ (.string x.text) (.store ⟨n1, 4, none⟩ (.slice p m c) (.store ⟨n1, 5, none⟩ (.slice q t d) K)))))) md w := by
  match vs, hl with
  | [v0, v1, v2, v3, v4, v5], _ =>
    exact st_blk hb (by simp) rfl fun w2 h2 z2 b2 => st_blk b2 (by simp) rfl fun w3 h3 z3 b3 => st_blk b3 (by simp) rfl fun w4 h4 z4 b4 => st_blk b4 (by simp) rfl fun w5 h5 z5 b5 => st_blk b5 (by simp) rfl fun w6 h6 z6 b6 => st_blk b6 (by simp) rfl fun w7 h7 z7 b7 => h w7 (h2.trans (h3.trans (h4.trans (h5.trans (h6.trans h7))))) b7
set_option maxHeartbeats 1000000 in
theorem tcopy_any (p : Option Addr) (n c : Nat) (l : List RecM) (w : World) (ha : AtT w p n l) (hF : FewR l) :
    Calls Tryz.prog 17 #[.slice p n c] w fun e w' => Ch No w w' ∧ ∃ q m d, e = .returned (.slice q m d) ∧ AtT w' q m l := by
  refine calls_of_fnT mixed Tryz.func17 (s := s17) ?_
  rw [t17]
  have hl := ha.1
  have hn : n ≤ 10000 := by have := hF.1; omega
  refine loop_i mixed m17_1 s17_1 (by kernel_rfl) (by kernel_rfl)
    (fun (v : (Option Addr × Nat × Nat) × Int × Unit) w' => ∃ (i : Nat) (acc : List KE), v.2.1 = i ∧ i ≤ n ∧ Ch No w w' ∧ RowK w' w.heap.size v.1.1 v.1.2.1 v.1.2.2 acc ∧ acc.map KE.r = l.take i)
    (fun (v : (Option Addr × Nat × Nat) × Int × Unit) _ => n - v.2.1.toNat) ((none, 0, 0), 0, ()) rfl ⟨0, [], rfl, Nat.zero_le _, Ch.refl _ _, RowK.nil _ _, rfl⟩ ?_
  intro v g w1 hv
  rw [t17_1]
  obtain ⟨⟨q, m, d⟩, iv, ⟨⟩⟩ := v
  dsimp only at hv ⊢
  obtain ⟨i, acc, hi, hin, h1, hK, hacc⟩ := hv
  subst hi
  have hml : m = i := by
    have h2 := hK.len
    have h3 := congrArg List.length hacc
    rw [List.length_map, List.length_take] at h3
    omega
  refine br_both (fun e => ?_) fun e => ?_
  · have hi1 : i < n := by have := lt_t e; omega
    clear e
    obtain ⟨r, hr⟩ : ∃ u, l[i]? = some u := ⟨_, List.getElem?_eq_getElem (by omega)⟩
    obtain ⟨hrl, hrF⟩ := hF.2 r (List.mem_of_getElem? hr)
    obtain ⟨ad, rfl, hcells⟩ := ha.2 (by omega)
    obtain ⟨vq, vn, vc, kp, kn, kc, c0, cv, c5, hv, hkI⟩ := hcells i r hr
    have hkn : kn = r.loops.length := hkI.1.symm
    have rd : ∀ {a : Addr} {v : Value} {w'}, Ch No w w' → w.cell? a = some v → w'.cell? a = some v := fun hc h => hc.cellv h (fun h => h)
    have hdr : Ch No w1 w1.drew := (Ch.refl _ _).drew
    refine cut_i mixed s17_2 (fun (v : Nat × Unit) w' => Ch No w1 w' ∧ w1.heap.size ≤ v.1 ∧ ∃ q2 n2 d2, Blk w' v.1 [.string r.key, .int .i64 r.val.kind, .int .i64 r.val.int, .string r.val.text, .slice q2 n2 d2, .slice none 0 0] tRec ∧ IsVB (fun b => w1.heap.size ≤ b ∧ b < w'.heap.size ∧ b ≠ v.1) w' r.val q2 n2 d2) (by kernel_rfl) (fun g => ?_) ?_
    · rw [t17_2]
      refine hd_i (fun w' => Ch No w w') (h1.trans hdr) (ix_i (by omega) (by omega) ?_)
      rw [Int.toNat_natCast]
      refine lh_str (fun _ h => rd h c0) (ix_i (by omega) (by omega) ?_)
      rw [Int.toNat_natCast]
      refine lh_int (fun _ h => rd h cv.c0) (lh_int (fun _ h => rd h cv.c1) (lh_str (fun _ h => rd h cv.c2) (lh_sl (fun _ h => rd h cv.c3) ?_)))
      dsimp only
      refine ⟨?_, ?_, trivial⟩
      · refine eff_i (cl_i (vcopy_any _ r.val vq vn vc w1.drew (Nat.lt_succ_self _) (hv.no (h1.trans hdr)) hrF) ?_)
        rintro e2 w2 ⟨q2, n2, d2, rfl, h2, V2⟩
        refine ⟨(r.val.kind, r.val.int, r.val.text, (q2, n2, d2), ()), rfl, bk ((h1.trans hdr).trans h2) (eff_i (nw fun w3 h3 z3 b3 => bk ((h1.trans hdr).trans (h2.trans h3)) (eff_i ?_)))⟩
        have s2 := h2.size
        refine st6_i (k := r.key) (x := r.val) (p := q2) (m := n2) (c := d2) (q := none) (t := 0) (d := 0) b3 rfl fun w4 h4 b4 => ?_
        have h24 : Ch No w2 w4 := h3.then_ h4 fun i hi e => by omega
        have hs1 : w1.heap.size ≤ w2.heap.size := s2
        refine bk ((h1.trans hdr).trans (h2.trans h24)) (un_h ⟨rfl, (w2.heap.size, ()), rfl, hdr.trans (h2.trans h24), hs1, q2, n2, d2, b4, ?_⟩)
        have s24 := h24.size
        exact (V2.ch h24 (fun k _ h => h)).mono fun k hk => ⟨hk.1, by have := hk.2; omega, by have := hk.2; dsimp only; omega⟩
      · refine eff_i (nw fun w3 h3 z3 b3 => bk ((h1.trans hdr).trans h3) (eff_i (cl_i (vcopy_any _ r.val vq vn vc w3 (Nat.lt_succ_self _) (hv.no ((h1.trans hdr).trans h3)) hrF) ?_)))
        rintro e2 w2 ⟨q2, n2, d2, rfl, h2, V2⟩
        refine ⟨(r.val.kind, r.val.int, r.val.text, (q2, n2, d2), ()), rfl, bk ((h1.trans hdr).trans (h3.trans h2)) (eff_i ?_)⟩
        have s2 := h2.size
        have b32 := b3.ch h2 (fun h => h)
        have hs3 := b3.lt
        have hs1 : w1.heap.size ≤ w1.drew.heap.size := Nat.le_refl _
        refine st6_i (k := r.key) (x := r.val) (p := q2) (m := n2) (c := d2) (q := none) (t := 0) (d := 0) b32 rfl fun w4 h4 b4 => ?_
        have h14 : Ch No w1.drew w4 := (h3.trans h2).then_ h4 fun i hi e => by omega
        refine bk ((h1.trans hdr).trans h14) (un_h ⟨rfl, (w1.drew.heap.size, ()), rfl, hdr.trans h14, hs1, q2, n2, d2, b4, ?_⟩)
        have s4 := h4.size
        exact (V2.ch h4 (fun k hk (e : k = w1.drew.heap.size) => by have := hk.1; omega)).mono fun k hk => ⟨by have := hk.1; have := h3.size; omega, by have := hk.2; omega, by have := hk.1; dsimp only; omega⟩
    intro v g w2 hv2
    obtain ⟨u, ⟨⟩⟩ := v
    obtain ⟨h2, hu, q2, n2, d2, b2, V2⟩ := hv2
    dsimp only at hu b2 V2 ⊢
    have hn2 := b2.lt
    refine cut_i mixed s17_15 (fun (_ : Unit) w' => Ch No w1 w' ∧ ∃ kp' kn' kc', Blk w' u [.string r.key, .int .i64 r.val.kind, .int .i64 r.val.int, .string r.val.text, .slice q2 n2 d2, .slice kp' kn' kc'] tRec ∧ IsVB (fun b => w1.heap.size ≤ b ∧ b < w'.heap.size) w' r.val q2 n2 d2 ∧ AtIB (fun b => w1.heap.size ≤ b ∧ b < w'.heap.size) w' kp' kn' r.loops) (by kernel_rfl) (fun g => ?_) ?_
    · rw [t17_15]
      dsimp only
      have hd2 : Ch No w2 w2.drew := (Ch.refl _ _).drew
      have H2 := h1.trans (h2.trans hd2)
      refine hd_i (fun w' => Ch No w w') H2 (ix_i (by omega) (by omega) ?_)
      rw [Int.toNat_natCast]
      refine lh_sl (fun _ h => rd h c5) (eff_i (ld_sl ((b2.ch hd2 (fun h => h)).cell 5) (bk H2 (eff_i ?_))))
      dsimp only
      refine ap_ints (hkI.no H2) (by omega) fun q3 c3 w3 h3 hr3 => bk (H2.trans h3) (eff_i ?_)
      have b3 := (b2.ch hd2 (fun h => h)).ch h3 (fun h => h)
      refine st_blk b3 (by simp) rfl fun w4 h4 z4 b4 => ?_
      have h24 : Ch No w1 w4 := (h2.trans (hd2.trans h3)).then_ h4 fun i hi e => by omega
      have s3 := h3.size
      have s4 := h4.size
      have s2 := h2.size
      have sd : w2.heap.size ≤ w2.drew.heap.size := Nat.le_refl _
      refine bk (h1.trans h24) (un_h ⟨rfl, (), rfl, h24, q3, kn, c3, b4, ?_, ?_⟩)
      · exact (((V2.ch hd2 (fun k _ h => h)).ch h3 (fun k _ h => h)).ch h4 (fun k hk (e : k = u) => hk.2.2 e)).mono fun k hk => ⟨hk.1, by have := hk.2.1; omega⟩
      · have hr4 : Row w4 w2.drew.heap.size tInt 1 q3 kn c3 (intCells r.loops) := Row.ch hr3 h4 fun k hk (e : k = u) => by
          have := (Row.lt hr3 hk).1
          have : w2.heap.size ≤ u := by rw [← e]; exact this
          omega
        exact (AtIB.of hr4).mono fun k hk => ⟨Nat.le_trans s2 hk.1, hk.2⟩
    intro v g w3 hv3
    obtain ⟨⟩ := v
    obtain ⟨h3, kp', kn', kc', b3, V3, K3⟩ := hv3
    refine ld_r b3 (nw fun w4 h4 z4 b4 => ?_)
    have H4 := h3.trans h4
    have s1 := h1.size
    have row4 : Row w4 w.heap.size tRec 6 q m d (acc.flatMap KE.cells) := (hK.row.no H4)
    refine ap_blk (by kernel_rfl) infoRec rfl (by omega) row4 (by have := H4.size; omega) b4 rfl (fun u hu => ?_) (Nat.le_trans (by omega : m + 1 ≤ 10001) (by decide)) (by omega) fun q5 d5 w5 g5 => ?_
    · simp only [List.mem_cons, List.mem_nil_iff, or_false] at hu
      rcases hu with rfl | rfl | rfl | rfl | rfl | rfl <;> rfl
    have sub : ∀ k, (w1.heap.size ≤ k ∧ k < w3.heap.size) → (w1.heap.size ≤ k ∧ k < w4.heap.size) := fun k hk => ⟨hk.1, by have := hk.2; have := h4.size; omega⟩
    have K5 : RowK w5 w.heap.size q5 (m + 1) d5 (acc ++ [⟨r, q2, n2, d2, kp', kn', kc'⟩]) := hK.push H4 s1 ((V3.ch h4 (fun k _ h => h)).mono sub) ((K3.ch h4 (fun k _ h => h)).mono sub) g5
    have hwi : IntKind.i64.wrap ((i : Int) + 1) = ((i + 1 : Nat) : Int) := wrap_succ (by omega) (by omega)
    rw [hwi]
    refine ⟨((q5, m + 1, d5), ((i + 1 : Nat) : Int), ()), rfl, ⟨i + 1, _, rfl, hi1, (h1.trans H4).then_ g5.ch fun k hk hS => ?_, K5, ?_⟩, ?_⟩
    · have := (row4.lt hS).1
      omega
    · rw [List.map_append, hacc, List.take_add_one, hr]; rfl
    · show n - (i + 1) < n - i
      exact Nat.sub_lt_sub_left hi1 (Nat.lt_succ_self i)
  · have hi1 : n ≤ i := by have := lt_f e; omega
    rw [List.take_of_length_le (by omega)] at hacc
    refine ⟨rfl, ((q, m, d), ()), rfl, fun g => ⟨h1, q, m, d, rfl, ?_⟩⟩
    have := hK.at
    rw [hacc] at this
    exact this
end Go.Proofs.YtjlmkahagcojcaaGreatDoor.V
