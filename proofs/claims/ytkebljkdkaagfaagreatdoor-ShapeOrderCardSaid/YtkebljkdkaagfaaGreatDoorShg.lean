/- A shape's tasks are laid into their order; their depths. -/
import Derived.Test.YtkebljkdkaagfaaGreatDoorShf
namespace Go.Proofs.YtkebljkdkaagfaaGreatDoor.S
open Go Tr
set_option maxRecDepth 100000
set_option maxHeartbeats 4000000
/-! the tree of function 45 -/
abbrev fx45_5 (qa1 : Addr) (qa2 : Option Addr) (qn2 : Nat) (qc2 : Nat) (n1 : Nat) (l4 : Option Addr × Nat × Nat) : List (Tmp × Value) := [(1, .pointer (some qa1)), (2, .slice qa2 qn2 qc2), (4, .pointer (some ⟨n1, 0, none⟩)), (17, .slice l4.1 l4.2.1 l4.2.2), (18, .int .i64 (↑l4.snd.fst : Int))]
abbrev m45_5 : List (Tmp × Comp) := [(19, .leaf (.int .i64))]
abbrev mx45_5 : List (Tmp × Comp) := []
abbrev mr45_5 : List (Tmp × Comp) := [(8, .leaf .bool)]
def s45_5 : Script := .sym (.ix (.ld (.int .i64) (.ld .sl (.ix (.ld .bool (.sym (.lit (.lit (.ld .sl (.lit (.lit (.ix (.lit (.lit (.ld (.int .i64) (.lit (.ix (.lit (.ld .bool (.lit (.lit (.sym .nil .nil)))))))))))))))) (.lit (.lit (.lit (.lit (.lit (.lit (.lit (.lit (.lit (.lit (.lit .nil))))))))))))))))) .nil
theorem t45_5 (qa1 : Addr) (qa2 : Option Addr) (qn2 : Nat) (qc2 : Nat) (n1 : Nat) (l4 : Option Addr × Nat × Nat) (x_19 : Int) (gg5 : Nat → Value) : pieceT Tryz.prog (at_ Tryz.f45 [1, 0, 1, 0, 0]) 44 (fx45_5 qa1 qa2 qn2 qc2 n1 l4 ++ mvals m45_5 (x_19, ())) gg5 (m45_5.map (·.1)) (mx45_5.map (·.1)) (mr45_5.map (·.1)) s45_5 = .br (Decidable.decide (x_19 < (↑l4.snd.fst : Int))) (.idx l4.1 x_19 l4.2.1 1 (fun a6 => .load a6 (.int .i64) (fun x7 => .load (qa1.add 2) .sl (fun l8 => .idx l8.1 x7 l8.2.1 1 (fun a9 => .load a9 .bool (fun b10 => .br (!b10) (.load ⟨n1, 2, none⟩ .sl (fun l11 => .idx l11.1 x7 l11.2.1 4 (fun a12 => .load a12 (.int .i64) (fun x13 => .idx qa2 x13 qn2 1 (fun a14 => .load a14 .bool (fun b15 => .br (!b15) (.fin .ret [(8, .bool false)]) (.fin .normal [(19, .int .i64 (IntKind.i64.wrap (x_19 + 1)))]))))))) (.fin .normal [(19, .int .i64 (IntKind.i64.wrap (x_19 + 1)))]))))))) (.fin (.exit 0) []) := by kernel_rfl
def s45 : Script := .ld .sl (.ix (.ld .sl (.lp 0 [1, 2, 4, 17, 18] [19] mx45_5 mr45_5 .nil .nil)))
theorem t45 (qx0_0 : Int) (qa0_1 : Option Addr) (qn0_1 : Nat) (qc0_1 : Nat) (qa0_2 : Option Addr) (qn0_2 : Nat) (qc0_2 : Nat) (qa1 : Addr) (qa2 : Option Addr) (qn2 : Nat) (qc2 : Nat) (qx3 : Int) : fnT Tryz.prog Tryz.f45 #[.agg #[.int .i64 qx0_0, .slice qa0_1 qn0_1 qc0_1, .slice qa0_2 qn0_2 qc0_2], .pointer (some qa1), .slice qa2 qn2 qc2, .int .i64 qx3] s45 = .new (.cells #[.int .i64 qx0_0, .slice qa0_1 qn0_1 qc0_1, .slice qa0_2 qn0_2 qc0_2] 25 (0, 0)) (fun n1 => .load qa1 .sl (fun l2 => .idx l2.1 qx3 l2.2.1 1 (fun a3 => .load a3 .sl (fun l4 => .loop (at_ Tryz.f45 [1, 0, 1, 0, 0]) 44 (fx45_5 qa1 qa2 qn2 qc2 n1 l4) [(19, .int .i64 0)] mx45_5 mr45_5 0 (fun u16 g16 => .done (.returned (.bool true))) (fun u17 g17 => .done (.returned (.bool u17.1))))))) := by kernel_rfl
/-! the tree of function 39 -/
abbrev fx39_4 (qa1 : Addr) (n1 : Nat) (l3 : Option Addr × Nat × Nat) : List (Tmp × Value) := [(1, .pointer (some qa1)), (2, .pointer (some ⟨n1, 0, none⟩)), (4, .slice l3.1 l3.2.1 l3.2.2)]
abbrev m39_4 : List (Tmp × Comp) := []
abbrev mx39_4 : List (Tmp × Comp) := []
abbrev mr39_4 : List (Tmp × Comp) := []
abbrev fx39_5 (qa1 : Addr) (n1 : Nat) (l3 : Option Addr × Nat × Nat) : List (Tmp × Value) := [(1, .pointer (some qa1)), (2, .pointer (some ⟨n1, 0, none⟩)), (4, .slice l3.1 l3.2.1 l3.2.2)]
abbrev mx39_5 : List (Tmp × Comp) := [(22, .leaf .bool)]
def s39_5 : Script := .qt (.ld .sl (.ld .sl .nil))
theorem t39_5 (qa1 : Addr) (n1 : Nat) (l3 : Option Addr × Nat × Nat) (gg5 : Nat → Value) : pieceT Tryz.prog (at_ Tryz.f39 [1, 1, 0, 0, 0, 0, 0]) 113 (fx39_5 qa1 n1 l3) gg5 (mx39_5.map (·.1)) [] [] s39_5 = .drawn (.load (qa1.add 3) .sl (fun l6 => .load ⟨n1, 1, none⟩ .sl (fun l7 => .undrawn (.fin .normal [(22, .bool (Decidable.decide ((↑l6.snd.fst : Int) < (↑l7.snd.fst : Int))))])))) := by kernel_rfl
abbrev fx39_10 (qa1 : Addr) (n1 : Nat) (l3 : Option Addr × Nat × Nat) (l9 : Option Addr × Nat × Nat) : List (Tmp × Value) := [(1, .pointer (some qa1)), (2, .pointer (some ⟨n1, 0, none⟩)), (4, .slice l3.1 l3.2.1 l3.2.2), (25, .int .i64 (↑l9.snd.fst : Int))]
abbrev m39_10 : List (Tmp × Comp) := [(26, .leaf (.int .i64))]
abbrev mx39_10 : List (Tmp × Comp) := []
abbrev mr39_10 : List (Tmp × Comp) := []
abbrev fx39_11 (qa1 : Addr) (n1 : Nat) (l3 : Option Addr × Nat × Nat) (l9 : Option Addr × Nat × Nat) (x_26 : Int) : List (Tmp × Value) := [(1, .pointer (some qa1)), (2, .pointer (some ⟨n1, 0, none⟩)), (4, .slice l3.1 l3.2.1 l3.2.2), (5, .int .i64 x_26), (25, .int .i64 (↑l9.snd.fst : Int)), (26, .int .i64 x_26)]
abbrev mx39_11 : List (Tmp × Comp) := [(40, .leaf .bool)]
def s39_11 : Script := .ix (.ld .bool (.sym (.lit (.lit (.lit (.lit (.lit (.lit .nil)))))) (.ld (.int .i64) (.ld .sl (.ld .sl (.lit (.lit (.lit (.lit (.cl (.one (.leaf .bool)) (.lit (.lit .nil))))))))))))
theorem t39_11 (qa1 : Addr) (n1 : Nat) (l3 : Option Addr × Nat × Nat) (l9 : Option Addr × Nat × Nat) (x_26 : Int) (gg11 : Nat → Value) : pieceT Tryz.prog (at_ Tryz.f39 [1, 1, 0, 0, 0, 1, 0, 1, 0, 0, 1, 1, 0, 0, 1, 0, 0]) 113 (fx39_11 qa1 n1 l3 l9 x_26) gg11 (mx39_11.map (·.1)) [] [] s39_11 = .idx l3.1 x_26 l3.2.1 1 (fun a12 => .load a12 .bool (fun b13 => .br b13 (.fin .normal [(40, .bool true)]) (.load ⟨n1, 0, none⟩ (.int .i64) (fun x14 => .load ⟨n1, 1, none⟩ .sl (fun l15 => .load ⟨n1, 2, none⟩ .sl (fun l16 => .call 45 #[.agg #[.int .i64 x14, .slice l15.1 l15.2.1 l15.2.2, .slice l16.1 l16.2.1 l16.2.2], .pointer (some qa1), .slice l3.1 l3.2.1 l3.2.2, .int .i64 x_26] (.one (.leaf .bool)) (fun b17 => .fin .normal [(40, .bool (!b17))]))))))) := by kernel_rfl
def s39_10 : Script := .sym (.ct 3 [1, 2, 4, 5, 25, 26] mx39_11 (.sym .nil (.ix (.ld .sl (.nop (.nop (.rn (.one (.leaf .sl)) .nil))))))) .nil
theorem t39_10 (qa1 : Addr) (n1 : Nat) (l3 : Option Addr × Nat × Nat) (l9 : Option Addr × Nat × Nat) (x_26 : Int) (gg10 : Nat → Value) : pieceT Tryz.prog (at_ Tryz.f39 [1, 1, 0, 0, 0, 1, 0, 1, 0, 0]) 113 (fx39_10 qa1 n1 l3 l9 ++ mvals m39_10 (x_26, ())) gg10 (m39_10.map (·.1)) (mx39_10.map (·.1)) (mr39_10.map (·.1)) s39_10 = .br (Decidable.decide (x_26 < (↑l9.snd.fst : Int))) (.cut (at_ Tryz.f39 [1, 1, 0, 0, 0, 1, 0, 1, 0, 0, 1, 1, 0, 0, 1, 0, 0]) 113 (fx39_11 qa1 n1 l3 l9 x_26) mx39_11 (fun u18 g18 => .br u18.1 (.fin .normal [(26, .int .i64 (IntKind.i64.wrap (x_26 + 1)))]) (.idx l3.1 x_26 l3.2.1 1 (fun a19 => .store a19 (.bool true) (.load (qa1.add 3) .sl (fun l20 => .new (.cells #[.int .i64 x_26] 3 (0, 0)) (fun n21 => .run (builtin .append #[29, 29] 29 #[false, false] #[.slice l20.1 l20.2.1 l20.2.2, .slice (some ⟨n21, 0, none⟩) 1 1]) (.one (.leaf .sl)) (fun l22 => .store (qa1.add 3) (.slice l22.1 l22.2.1 l22.2.2) (.fin (.exit 2) []))))))))) (.fin (.exit 2) []) := by kernel_rfl
def s39_4 : Script := .ct 1 [1, 2, 4] mx39_5 (.sym (.ld .sl (.lp 2 [1, 2, 4, 25] [26] mx39_10 mr39_10 .nil .nil)) .nil)
theorem t39_4 (qa1 : Addr) (n1 : Nat) (l3 : Option Addr × Nat × Nat) (gg4 : Nat → Value) : pieceT Tryz.prog (at_ Tryz.f39 [1, 1, 0, 0, 0]) 113 (fx39_4 qa1 n1 l3 ++ mvals m39_4 (())) gg4 (m39_4.map (·.1)) (mx39_4.map (·.1)) (mr39_4.map (·.1)) s39_4 = .cut (at_ Tryz.f39 [1, 1, 0, 0, 0, 0, 0]) 113 (fx39_5 qa1 n1 l3) mx39_5 (fun u8 g8 => .br u8.1 (.load ⟨n1, 1, none⟩ .sl (fun l9 => .loop (at_ Tryz.f39 [1, 1, 0, 0, 0, 1, 0, 1, 0, 0]) 113 (fx39_10 qa1 n1 l3 l9) [(26, .int .i64 0)] mx39_10 mr39_10 2 (fun u23 g23 => .fin .normal []) (fun u24 g24 => .stuck))) (.fin (.exit 0) [])) := by kernel_rfl
abbrev fx39_27 (qa1 : Addr) (n1 : Nat) (l26 : Option Addr × Nat × Nat) : List (Tmp × Value) := [(1, .pointer (some qa1)), (2, .pointer (some ⟨n1, 0, none⟩)), (58, .slice l26.1 l26.2.1 l26.2.2), (59, .int .i64 (↑l26.snd.fst : Int))]
abbrev m39_27 : List (Tmp × Comp) := [(60, .leaf (.int .i64))]
abbrev mx39_27 : List (Tmp × Comp) := []
abbrev mr39_27 : List (Tmp × Comp) := []
abbrev fx39_33 (qa1 : Addr) (n1 : Nat) (l26 : Option Addr × Nat × Nat) (x_60 : Int) (x29 : Int) (l32 : Option Addr × Nat × Nat) : List (Tmp × Value) := [(1, .pointer (some qa1)), (2, .pointer (some ⟨n1, 0, none⟩)), (7, .int .i64 x29), (58, .slice l26.1 l26.2.1 l26.2.2), (59, .int .i64 (↑l26.snd.fst : Int)), (60, .int .i64 x_60), (70, .slice l32.1 l32.2.1 l32.2.2), (71, .int .i64 (↑l32.snd.fst : Int))]
abbrev m39_33 : List (Tmp × Comp) := [(72, .leaf (.int .i64))]
abbrev mx39_33 : List (Tmp × Comp) := []
abbrev mr39_33 : List (Tmp × Comp) := []
def s39_33 : Script := .sym (.ix (.ld (.int .i64) (.ld .sl (.ix (.ld .bool (.sym (.hd0 (.hq 0 (.hq 1 (.hq 2 (.hq 3 (.ld .sl (.hq 4 (.hq 5 (.hq 6 (.hq 7 (.hq 8 (.ld .sl (.hq 9 (.hq 10 (.ix (.hq 12 (.hq 13 (.hq 14 (.hq 15 (.ld .sl (.hq 16 (.hq 17 (.ld .sl (.hq 18 (.hq 19 (.ix (.hq 20 (.hq 21 (.ld (.int .i64) (.hq 22 (.ix (.hl 11 (.ld (.int .i64) (.he 23 (.ld (.int .i64) (.hq 24 (.he 25 (.hq 26 (.ix (.he 27 .nil)))))))) (.hl 23 (.ld (.int .i64) (.hq 24 (.he 11 (.ld (.int .i64) (.he 25 (.hq 26 (.ix (.he 27 .nil)))))))) .nil))))))))))))))))))))))))))))))))) .nil)))))) .nil
theorem t39_33 (qa1 : Addr) (n1 : Nat) (l26 : Option Addr × Nat × Nat) (x_60 : Int) (x29 : Int) (l32 : Option Addr × Nat × Nat) (x_72 : Int) (gg33 : Nat → Value) : pieceT Tryz.prog (at_ Tryz.f39 [1, 1, 1, 1, 0, 0, 1, 1, 0, 0, 1, 1, 0, 0]) 113 (fx39_33 qa1 n1 l26 x_60 x29 l32 ++ mvals m39_33 (x_72, ())) gg33 (m39_33.map (·.1)) (mx39_33.map (·.1)) (mr39_33.map (·.1)) s39_33 = .br (Decidable.decide (x_72 < (↑l32.snd.fst : Int))) (.idx l32.1 x_72 l32.2.1 1 (fun a34 => .load a34 (.int .i64) (fun x35 => .load (qa1.add 2) .sl (fun l36 => .idx l36.1 x35 l36.2.1 1 (fun a37 => .load a37 .bool (fun b38 => .br (!b38) (.hdrawn (.load (qa1.add 7) .sl (fun l39 => .load (qa1.add 7) .sl (fun l40 => .idx l40.1 x29 l40.2.1 1 (fun a41 => .load (qa1.add 7) .sl (fun l42 => .load ⟨n1, 2, none⟩ .sl (fun l43 => .idx l43.1 x35 l43.2.1 4 (fun a44 => .load a44 (.int .i64) (fun x45 => .idx l42.1 x45 l42.2.1 1 (fun a46 => .both (.eff (.load a41 (.int .i64) (fun x47 => .back (.eff (.load a46 (.int .i64) (fun x48 => .back (.eff (.back (.idx l39.1 x29 l39.2.1 1 (fun a49 => .eff (.store a49 (.int .i64 (if IntKind.i64.wrap (x48 + 1) > x47 then IntKind.i64.wrap (x48 + 1) else x47)) (.back (.undrawn (.fin .normal [(72, .int .i64 (IntKind.i64.wrap (x_72 + 1)))])))))))))))))) (.both (.eff (.load a46 (.int .i64) (fun x50 => .back (.eff (.load a41 (.int .i64) (fun x51 => .back (.eff (.back (.idx l39.1 x29 l39.2.1 1 (fun a52 => .eff (.store a52 (.int .i64 (if IntKind.i64.wrap (x50 + 1) > x51 then IntKind.i64.wrap (x50 + 1) else x51)) (.back (.undrawn (.fin .normal [(72, .int .i64 (IntKind.i64.wrap (x_72 + 1)))])))))))))))))) (.triv)))))))))))) (.fin .normal [(72, .int .i64 (IntKind.i64.wrap (x_72 + 1)))]))))))) (.fin (.exit 6) []) := by kernel_rfl
def s39_27 : Script := .sym (.ix (.ld (.int .i64) (.ld .sl (.ix (.ld .sl (.lp 6 [1, 2, 7, 58, 59, 60, 70, 71] [72] mx39_33 mr39_33 .nil .nil)))))) .nil
theorem t39_27 (qa1 : Addr) (n1 : Nat) (l26 : Option Addr × Nat × Nat) (x_60 : Int) (gg27 : Nat → Value) : pieceT Tryz.prog (at_ Tryz.f39 [1, 1, 1, 1, 0, 0]) 113 (fx39_27 qa1 n1 l26 ++ mvals m39_27 (x_60, ())) gg27 (m39_27.map (·.1)) (mx39_27.map (·.1)) (mr39_27.map (·.1)) s39_27 = .br (Decidable.decide (x_60 < (↑l26.snd.fst : Int))) (.idx l26.1 x_60 l26.2.1 1 (fun a28 => .load a28 (.int .i64) (fun x29 => .load qa1 .sl (fun l30 => .idx l30.1 x29 l30.2.1 1 (fun a31 => .load a31 .sl (fun l32 => .loop (at_ Tryz.f39 [1, 1, 1, 1, 0, 0, 1, 1, 0, 0, 1, 1, 0, 0]) 113 (fx39_33 qa1 n1 l26 x_60 x29 l32) [(72, .int .i64 0)] mx39_33 mr39_33 6 (fun u53 g53 => .fin .normal [(60, .int .i64 (IntKind.i64.wrap (x_60 + 1)))]) (fun u54 g54 => .stuck))))))) (.fin (.exit 4) []) := by kernel_rfl
def s39 : Script := .ld .sl (.nop (.rn (.one (.leaf .sl)) (.lp 0 [1, 2, 4] [] mx39_4 mr39_4 (.ld .sl (.lp 4 [1, 2, 58, 59] [60] mx39_27 mr39_27 .nil .nil)) .nil)))
theorem t39 (qx0_0 : Int) (qa0_1 : Option Addr) (qn0_1 : Nat) (qc0_1 : Nat) (qa0_2 : Option Addr) (qn0_2 : Nat) (qc0_2 : Nat) (qa1 : Addr) : fnT Tryz.prog Tryz.f39 #[.agg #[.int .i64 qx0_0, .slice qa0_1 qn0_1 qc0_1, .slice qa0_2 qn0_2 qc0_2], .pointer (some qa1)] s39 = .new (.cells #[.int .i64 qx0_0, .slice qa0_1 qn0_1 qc0_1, .slice qa0_2 qn0_2 qc0_2] 25 (0, 0)) (fun n1 => .load ⟨n1, 1, none⟩ .sl (fun l2 => .run (vNext (Instr.makeSlice 28 (.int .i64 (↑l2.snd.fst : Int)) (.int .i64 (↑l2.snd.fst : Int)))) (.one (.leaf .sl)) (fun l3 => .loop (at_ Tryz.f39 [1, 1, 0, 0, 0]) 113 (fx39_4 qa1 n1 l3) [] mx39_4 mr39_4 0 (fun u25 g25 => .load (qa1.add 3) .sl (fun l26 => .loop (at_ Tryz.f39 [1, 1, 1, 1, 0, 0]) 113 (fx39_27 qa1 n1 l26) [(60, .int .i64 0)] mx39_27 mr39_27 4 (fun u55 g55 => .done (.returned (.tuple #[]))) (fun u56 g56 => .stuck))) (fun u57 g57 => .stuck)))) := by kernel_rfl
abbrev tShape : TypeId := 31
abbrev natI (l : List Nat) : List Int := l.map Int.ofNat
theorem natI_at {l : List Nat} {j x : Nat} (h : l[j]? = some x) : (natI l)[j]? = some ((x : Nat) : Int) := by unfold natI; rw [List.getElem?_map, h]; rfl
/-- What the reckoning of the order reads: the plan, the ports' edges, which edges are back edges. -/
structure Rd (w : World) (tp ep : Option Addr) (p : PM) (ip bp : Option Addr) (rq : Nat → Option Addr × Nat) : Prop where
  plan : IsP w tp ep p
  ins : ∀ t, t < p.tasks.length → ∃ ia, ip = some ia ∧ w.cell? (ia.add t) = some (.slice (rq t).1 (insM p t).length (rq t).2) ∧ AtI w (rq t).1 (natI (insM p t))
  back : ∀ (i : Nat) (e : EM), p.edges[i]? = some e → ∃ ba, bp = some ba ∧ w.cell? (ba.add i) = some (.bool (loopsM p e))
theorem Rd.of {w w' : World} {tp ep : Option Addr} {p : PM} {ip bp : Option Addr} {rq : Nat → Option Addr × Nat} (h : Rd w tp ep p ip bp rq) (hc : ∀ a v, w.cell? a = some v → w'.cell? a = some v) : Rd w' tp ep p ip bp rq where
  plan := h.plan.of hc
  ins t ht := by
    obtain ⟨ia, h1, h2, h3⟩ := h.ins t ht
    exact ⟨ia, h1, hc _ _ h2, h3.of hc⟩
  back i e hi := by
    obtain ⟨ba, h1, h2⟩ := h.back i e hi
    exact ⟨ba, h1, hc _ _ h2⟩
theorem Rd.ch {w w' : World} {tp ep : Option Addr} {p : PM} {ip bp : Option Addr} {rq : Nat → Option Addr × Nat} (h : Rd w tp ep p ip bp rq) (hc : Ch No w w') : Rd w' tp ep p ip bp rq := h.of fun _ _ ha => hc.cellv ha (fun h => h)
/-- Which tasks are placed. -/
abbrev plL (n : Nat) (o : List Nat) : List Value := (List.range n).map fun t => .bool (o.contains t)
theorem plL_at {n t : Nat} (o : List Nat) (h : t < n) : (plL n o)[t]? = some (.bool (o.contains t)) := by
  rw [List.getElem?_map, List.getElem?_range h]; rfl
theorem plL_set {n t : Nat} (o : List Nat) (h : t < n) : (plL n o).set t (.bool true) = plL n (o ++ [t]) := by
  apply List.ext_getElem?
  intro i
  rcases Nat.lt_or_ge i n with hi | hi
  · rw [plL_at _ hi]
    by_cases e : t = i
    · subst e
      rw [List.getElem?_set_self (by simpa using h)]
      simp
    · rw [List.getElem?_set_ne e, plL_at _ hi]
      have : (o ++ [t]).contains i = o.contains i := by
        rw [Bool.eq_iff_iff]
        simp only [List.contains_iff_mem, List.mem_append, List.mem_singleton]
        exact ⟨fun h => h.resolve_right (fun h => e h.symm), .inl⟩
      rw [this]
  · rw [List.getElem?_eq_none (by simpa using hi), List.getElem?_eq_none (by simpa using hi)]
theorem insM_len (p : PM) (t : Nat) : (insM p t).length ≤ p.edges.length := by
  unfold insM insP
  rw [List.length_map, List.length_range, List.length_map]
  exact List.length_filter_le _ _
theorem free_any (w : World) (p : PM) (tp ep : Option Addr) (tc ec : Nat) (ns : Nat) (cs : List Value) (ip bp pp : Option Addr) (ic bc pc : Nat) (o : List Nat) (t : Nat) (rq : Nat → Option Addr × Nat) (hR : Rd w tp ep p ip bp rq) (hb : Blk w ns cs tShape) (h0 : cs[0]? = some (.slice ip p.tasks.length ic)) (h2 : cs[2]? = some (.slice bp p.edges.length bc))
    (hp : ∀ u, u < p.tasks.length → ∃ pa, pp = some pa ∧ w.cell? (pa.add u) = some (.bool (o.contains u))) (hg : Good p) (ht : t < p.tasks.length) :
    Calls Tryz.prog 45 #[planV p tp tc ep ec, .pointer (some ⟨ns, 0, none⟩), .slice pp p.tasks.length pc, .int .i64 (t : Nat)] w fun r w' => r = .returned (.bool ((insM p t).all (freeE p o))) ∧ Ch No w w' := by
  refine calls_of_fnT mixed Tryz.func45 (s := s45) ?_
  rw [t45]
  simp only [addr_add, Nat.zero_add]
  refine nw (cs := planC p tp tc ep ec) fun w1 c1 s1 b1 => ?_
  have hb1 := hb.ch c1 (fun h => h)
  have hR1 := hR.ch c1
  obtain ⟨ia, rfl, hcell, hat⟩ := hR1.ins t ht
  generalize (rq t).1 = q at *
  refine ld_sl ((hb1.cell 0).trans h0) (ix_i (by omega) (by show ((t : Nat) : Int) < (p.tasks.length : Int); omega) ?_)
  rw [Int.toNat_natCast, Nat.mul_one]
  refine ld_sl hcell ?_
  have hlen := insM_len p t
  have hen := hR.plan.en
  refine loop_i mixed m45_5 s45_5 (by kernel_rfl) (by kernel_rfl) (fun v w2 => w2 = w1 ∧ ∃ i : Nat, v.1 = (i : Nat) ∧ i ≤ (insM p t).length ∧ ∀ x ∈ (insM p t).take i, freeE p o x = true) (fun v _ => (insM p t).length - v.1.toNat) (0, ()) rfl ⟨rfl, 0, rfl, Nat.zero_le _, fun x h => (by cases h)⟩ ?_
  rintro ⟨_, ⟨⟩⟩ g w2 ⟨rfl, i, rfl, hi, hall⟩
  rw [t45_5]
  simp only [addr_add, Nat.zero_add]
  refine br_both (fun e => ?_) fun e => ?_
  · have e := lt_t e
    obtain ⟨x, hx⟩ := some_at (l := insM p t) (i := i) (by omega)
    have hxm := List.mem_of_getElem? hx
    obtain ⟨ed, hed, hto⟩ := ins_mem hg ht hxm
    have hxl := (List.getElem?_eq_some_iff.1 hed).1
    obtain ⟨qa, rfl, hqc⟩ := hat i _ (natI_at hx)
    refine ix_i (by omega) (by omega) ?_
    rw [Int.toNat_natCast, Nat.mul_one]
    refine ld_int hqc (ld_sl ((hb1.cell 2).trans h2) ?_)
    obtain ⟨ba, rfl, hbc⟩ := hR1.back x ed hed
    refine ix_i (by omega) (by show ((x : Nat) : Int) < (p.edges.length : Int); omega) ?_
    rw [Int.toNat_natCast, Nat.mul_one]
    have hgo : freeE p o x = true → ∃ v : MVars m45_5, [((19 : Tmp), Value.int .i64 (IntKind.i64.wrap (((i : Nat) : Int) + 1)))] = mvals m45_5 v ∧ ((w2 = w2 ∧ ∃ i : Nat, v.1 = (i : Nat) ∧ i ≤ (insM p t).length ∧ ∀ x ∈ (insM p t).take i, freeE p o x = true) ∧ (insM p t).length - v.1.toNat < (insM p t).length - ((i : Nat) : Int).toNat) := fun hf =>
      ⟨(((i : Nat) : Int) + 1, ()), by rw [wrap_succ (by omega) (by omega)]; rfl, ⟨rfl, i + 1, rfl, by omega, fun z hz => by
        rw [List.take_add_one, hx] at hz
        rcases List.mem_append.1 hz with hz | hz
        · exact hall z hz
        · obtain rfl : z = x := by simpa using hz
          exact hf⟩, by show (insM p t).length - (((i : Nat) : Int) + 1).toNat < _; omega⟩
    have hfe : freeE p o x = (loopsM p ed || o.contains ed.frm.toNat) := by unfold freeE; rw [hed]
    refine ld_bool hbc (br_both (fun e1 => ?_) fun e1 => ?_)
    · have e1 : loopsM p ed = false := by simpa using e1
      obtain ⟨⟨f0, f1⟩, -⟩ := hg.edges ed (List.mem_of_getElem? hed)
      obtain ⟨ea, rfl, hef, -⟩ := hR1.plan.edges x ed hed
      obtain ⟨pa, rfl, hpc⟩ := hp ed.frm.toNat (by omega)
      refine ld_sl (b1.cell 2) (ix_i (by omega) (by show ((x : Nat) : Int) < (p.edges.length : Int); omega) ?_)
      rw [Int.toNat_natCast]
      refine ld_int hef (ix_i f0 (by omega) ?_)
      rw [Nat.mul_one]
      refine ld_bool (c1.cellv hpc (fun h => h)) (br_both (fun e2 => ?_) fun e2 => ?_)
      · have e2 : o.contains ed.frm.toNat = false := by simpa using e2
        refine ⟨(false, ()), rfl, fun g => ⟨?_, c1⟩⟩
        congr 2
        symm
        exact List.all_eq_false.2 ⟨x, hxm, by rw [hfe, e1, e2]; decide⟩
      · have e2 : o.contains ed.frm.toNat = true := by simpa using e2
        exact hgo (by rw [hfe, e2, Bool.or_true])
    · have e1 : loopsM p ed = true := by simpa using e1
      exact hgo (by rw [hfe, e1, Bool.true_or])
  · have e := lt_f e
    obtain rfl : i = (insM p t).length := by omega
    rw [List.take_length] at hall
    refine ⟨rfl, (), rfl, fun g => ⟨?_, c1⟩⟩
    congr 2
    symm
    exact List.all_eq_true.2 hall
end Go.Proofs.YtkebljkdkaagfaaGreatDoor.S
