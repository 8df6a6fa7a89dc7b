/- A shape's bounds (plain); the law's within: they hold. -/
import Derived.Test.YtkebljkdkaagfaaGreatDoorSho
namespace Go.Proofs.YtkebljkdkaagfaaGreatDoor.S
open Go Tr
set_option maxRecDepth 100000
set_option maxHeartbeats 4000000
/-! the tree of function 12 -/
abbrev fx12_4 (n1 : Nat) (n2 : Nat) (l3 : Option Addr × Nat × Nat) : List (Tmp × Value) := [(2, .pointer (some ⟨n1, 0, none⟩)), (3, .pointer (some ⟨n2, 0, none⟩)), (5, .int .i64 (↑l3.snd.fst : Int))]
abbrev mx12_4 : List (Tmp × Comp) := [(55, .leaf .bool)]
def s12_4 : Script := .ld .sl (.sym (.lit (.lit (.lit (.lit (.lit (.lit (.lit (.lit (.lit (.lit (.lit (.lit (.lit (.lit (.lit (.lit (.lit (.lit (.lit (.lit (.lit (.lit (.lit (.lit (.lit (.lit (.lit (.lit (.lit (.lit (.lit .nil))))))))))))))))))))))))))))))) (.lit (.ld .sl (.lit (.lit (.lit (.lit (.sym (.lit (.lit (.lit (.lit (.lit (.lit (.lit (.lit (.lit (.lit (.lit (.lit (.lit (.lit (.lit (.lit (.lit (.lit (.lit (.lit (.lit (.lit (.lit (.lit (.lit .nil))))))))))))))))))))))))) (.lit (.ld .sl (.lit (.lit (.lit (.ld .sl (.lit (.lit (.lit (.sym (.lit (.lit (.lit (.lit (.lit (.lit (.lit (.lit (.lit (.lit (.lit (.lit (.lit (.lit (.lit (.lit (.lit .nil))))))))))))))))) (.lit (.ld .sl (.lit (.lit (.lit (.lit (.sym (.lit (.lit (.lit (.lit (.lit (.lit (.lit (.lit (.lit (.lit (.lit .nil))))))))))) (.lit (.ld .sl (.lit (.lit (.lit (.lit (.sym (.lit (.lit (.lit (.lit (.lit .nil))))) (.lit (.ld .sl (.lit (.lit (.lit (.lit .nil))))))))))))))))))))))))))))))))))))))
theorem t12_4 (n1 : Nat) (n2 : Nat) (l3 : Option Addr × Nat × Nat) (gg4 : Nat → Value) : pieceT Tryz.prog (at_ Tryz.f12 [1, 1, 0, 0]) 169 (fx12_4 n1 n2 l3) gg4 (mx12_4.map (·.1)) [] [] s12_4 = .load ⟨n2, 0, none⟩ .sl (fun l5 => .br ((↑l5.snd.fst : Int) != (↑l3.snd.fst : Int)) (.fin .normal [(55, .bool true)]) (.load ⟨n2, 1, none⟩ .sl (fun l6 => .br ((↑l6.snd.fst : Int) != (↑l3.snd.fst : Int)) (.fin .normal [(55, .bool true)]) (.load ⟨n2, 2, none⟩ .sl (fun l7 => .load ⟨n1, 2, none⟩ .sl (fun l8 => .br ((↑l7.snd.fst : Int) != (↑l8.snd.fst : Int)) (.fin .normal [(55, .bool true)]) (.load ⟨n2, 3, none⟩ .sl (fun l9 => .br ((↑l9.snd.fst : Int) != (↑l3.snd.fst : Int)) (.fin .normal [(55, .bool true)]) (.load ⟨n2, 6, none⟩ .sl (fun l10 => .br ((↑l10.snd.fst : Int) != (↑l3.snd.fst : Int)) (.fin .normal [(55, .bool true)]) (.load ⟨n2, 7, none⟩ .sl (fun l11 => .fin .normal [(55, .bool ((↑l11.snd.fst : Int) != (↑l3.snd.fst : Int)))])))))))))))) := by kernel_rfl
abbrev fx12_13 (n1 : Nat) (n2 : Nat) (l3 : Option Addr × Nat × Nat) : List (Tmp × Value) := [(2, .pointer (some ⟨n1, 0, none⟩)), (3, .pointer (some ⟨n2, 0, none⟩)), (5, .int .i64 (↑l3.snd.fst : Int))]
abbrev m12_13 : List (Tmp × Comp) := [(6, .leaf (.int .i64))]
abbrev mx12_13 : List (Tmp × Comp) := []
abbrev mr12_13 : List (Tmp × Comp) := [(4, .leaf .bool)]
def s12_13 : Script := .sym (.ld .sl (.ix (.ld (.int .i64) (.sym (.lit (.lit (.lit (.lit (.lit (.lit (.lit (.lit (.lit (.lit (.lit (.lit (.lit (.lit (.lit (.lit (.lit (.lit (.lit (.lit (.lit (.lit (.lit .nil))))))))))))))))))))))) (.lit (.ld .sl (.lit (.lit (.ix (.lit (.ld (.int .i64) (.lit (.lit (.lit (.sym (.lit (.lit (.lit (.lit (.lit (.lit (.lit (.lit (.lit (.lit (.lit (.lit (.lit (.lit (.lit .nil))))))))))))))) (.lit (.ld .sl (.lit (.lit (.ix (.lit (.ld (.int .i64) (.lit (.lit (.sym (.lit (.lit (.lit (.lit (.lit (.lit (.lit (.lit .nil)))))))) (.lit (.ld .sl (.lit (.lit (.ix (.lit (.ld (.int .i64) (.lit (.lit (.lit (.sym .nil .nil)))))))))))))))))))))))))))))))))))) .nil
theorem t12_13 (n1 : Nat) (n2 : Nat) (l3 : Option Addr × Nat × Nat) (x_6 : Int) (gg13 : Nat → Value) : pieceT Tryz.prog (at_ Tryz.f12 [1, 1, 1, 0, 1, 0, 0]) 169 (fx12_13 n1 n2 l3 ++ mvals m12_13 (x_6, ())) gg13 (m12_13.map (·.1)) (mx12_13.map (·.1)) (mr12_13.map (·.1)) s12_13 = .br (Decidable.decide (x_6 < (↑l3.snd.fst : Int))) (.load ⟨n2, 3, none⟩ .sl (fun l14 => .idx l14.1 x_6 l14.2.1 1 (fun a15 => .load a15 (.int .i64) (fun x16 => .br (Decidable.decide (x16 < 0)) (.fin .ret [(4, .bool false)]) (.load ⟨n2, 3, none⟩ .sl (fun l17 => .idx l17.1 x_6 l17.2.1 1 (fun a18 => .load a18 (.int .i64) (fun x19 => .br (Decidable.decide (x19 ≥ (↑l3.snd.fst : Int))) (.fin .ret [(4, .bool false)]) (.load ⟨n2, 6, none⟩ .sl (fun l20 => .idx l20.1 x_6 l20.2.1 1 (fun a21 => .load a21 (.int .i64) (fun x22 => .br (Decidable.decide (x22 < -1)) (.fin .ret [(4, .bool false)]) (.load ⟨n2, 6, none⟩ .sl (fun l23 => .idx l23.1 x_6 l23.2.1 1 (fun a24 => .load a24 (.int .i64) (fun x25 => .br (Decidable.decide (x25 ≥ (↑l3.snd.fst : Int))) (.fin .ret [(4, .bool false)]) (.fin .normal [(6, .int .i64 (IntKind.i64.wrap (x_6 + 1)))]))))))))))))))))) (.fin (.exit 0) []) := by kernel_rfl
abbrev fx12_27 (n1 : Nat) (n2 : Nat) (l3 : Option Addr × Nat × Nat) : List (Tmp × Value) := [(2, .pointer (some ⟨n1, 0, none⟩)), (3, .pointer (some ⟨n2, 0, none⟩)), (5, .int .i64 (↑l3.snd.fst : Int))]
abbrev m12_27 : List (Tmp × Comp) := [(7, .leaf (.int .i64))]
abbrev mx12_27 : List (Tmp × Comp) := []
abbrev mr12_27 : List (Tmp × Comp) := [(4, .leaf .bool)]
def s12_27 : Script := .ld .sl (.sym (.ld .sl (.ix (.ld (.int .i64) (.sym (.lit (.lit (.lit (.lit (.lit (.lit (.lit (.lit .nil)))))))) (.lit (.ld .sl (.lit (.lit (.ix (.lit (.ld (.int .i64) (.lit (.lit (.lit (.sym .nil .nil))))))))))))))) .nil)
theorem t12_27 (n1 : Nat) (n2 : Nat) (l3 : Option Addr × Nat × Nat) (x_7 : Int) (gg27 : Nat → Value) : pieceT Tryz.prog (at_ Tryz.f12 [1, 1, 1, 1, 0, 1, 0, 0]) 169 (fx12_27 n1 n2 l3 ++ mvals m12_27 (x_7, ())) gg27 (m12_27.map (·.1)) (mx12_27.map (·.1)) (mr12_27.map (·.1)) s12_27 = .load ⟨n2, 4, none⟩ .sl (fun l28 => .br (Decidable.decide (x_7 < (↑l28.snd.fst : Int))) (.load ⟨n2, 4, none⟩ .sl (fun l29 => .idx l29.1 x_7 l29.2.1 1 (fun a30 => .load a30 (.int .i64) (fun x31 => .br (Decidable.decide (x31 < 0)) (.fin .ret [(4, .bool false)]) (.load ⟨n2, 4, none⟩ .sl (fun l32 => .idx l32.1 x_7 l32.2.1 1 (fun a33 => .load a33 (.int .i64) (fun x34 => .br (Decidable.decide (x34 ≥ (↑l3.snd.fst : Int))) (.fin .ret [(4, .bool false)]) (.fin .normal [(7, .int .i64 (IntKind.i64.wrap (x_7 + 1)))]))))))))) (.fin (.exit 2) [])) := by kernel_rfl
abbrev fx12_36 (n1 : Nat) (n2 : Nat) (l3 : Option Addr × Nat × Nat) : List (Tmp × Value) := [(2, .pointer (some ⟨n1, 0, none⟩)), (3, .pointer (some ⟨n2, 0, none⟩)), (5, .int .i64 (↑l3.snd.fst : Int))]
abbrev m12_36 : List (Tmp × Comp) := [(8, .leaf (.int .i64))]
abbrev mx12_36 : List (Tmp × Comp) := []
abbrev mr12_36 : List (Tmp × Comp) := [(4, .leaf .bool)]
def s12_36 : Script := .ld .sl (.sym (.ld .sl (.ix (.ld (.int .i64) (.sym (.lit (.lit (.lit (.lit (.lit (.lit (.lit (.lit .nil)))))))) (.lit (.ld .sl (.lit (.lit (.ix (.lit (.ld (.int .i64) (.lit (.lit (.lit (.sym .nil .nil))))))))))))))) .nil)
theorem t12_36 (n1 : Nat) (n2 : Nat) (l3 : Option Addr × Nat × Nat) (x_8 : Int) (gg36 : Nat → Value) : pieceT Tryz.prog (at_ Tryz.f12 [1, 1, 1, 1, 1, 0, 1, 0, 0]) 169 (fx12_36 n1 n2 l3 ++ mvals m12_36 (x_8, ())) gg36 (m12_36.map (·.1)) (mx12_36.map (·.1)) (mr12_36.map (·.1)) s12_36 = .load ⟨n2, 5, none⟩ .sl (fun l37 => .br (Decidable.decide (x_8 < (↑l37.snd.fst : Int))) (.load ⟨n2, 5, none⟩ .sl (fun l38 => .idx l38.1 x_8 l38.2.1 1 (fun a39 => .load a39 (.int .i64) (fun x40 => .br (Decidable.decide (x40 < 0)) (.fin .ret [(4, .bool false)]) (.load ⟨n2, 5, none⟩ .sl (fun l41 => .idx l41.1 x_8 l41.2.1 1 (fun a42 => .load a42 (.int .i64) (fun x43 => .br (Decidable.decide (x43 ≥ (↑l3.snd.fst : Int))) (.fin .ret [(4, .bool false)]) (.fin .normal [(8, .int .i64 (IntKind.i64.wrap (x_8 + 1)))]))))))))) (.fin (.exit 4) [])) := by kernel_rfl
abbrev fx12_45 (n1 : Nat) (l3 : Option Addr × Nat × Nat) : List (Tmp × Value) := [(2, .pointer (some ⟨n1, 0, none⟩)), (5, .int .i64 (↑l3.snd.fst : Int))]
abbrev m12_45 : List (Tmp × Comp) := [(9, .leaf (.int .i64))]
abbrev mx12_45 : List (Tmp × Comp) := []
abbrev mr12_45 : List (Tmp × Comp) := [(4, .leaf .bool)]
def s12_45 : Script := .ld .sl (.sym (.ld .sl (.ix (.ld (.int .i64) (.ld (.int .i64) (.ld (.int .i64) (.ld (.int .i64) (.ld (.int .i64) (.sym (.lit (.lit (.lit (.lit (.lit (.lit (.lit (.lit (.lit (.lit (.lit (.lit (.lit (.lit .nil)))))))))))))) (.lit (.ld (.int .i64) (.lit (.lit (.lit (.sym (.lit (.lit (.lit (.lit (.lit (.lit (.lit (.lit (.lit .nil))))))))) (.lit (.ld (.int .i64) (.lit (.lit (.sym (.lit (.lit (.lit (.lit (.lit .nil))))) (.lit (.ld (.int .i64) (.lit (.lit (.lit (.sym .nil .nil))))))))))))))))))))))))) .nil)
theorem t12_45 (n1 : Nat) (l3 : Option Addr × Nat × Nat) (x_9 : Int) (gg45 : Nat → Value) : pieceT Tryz.prog (at_ Tryz.f12 [1, 1, 1, 1, 1, 1, 0, 1, 0, 0]) 169 (fx12_45 n1 l3 ++ mvals m12_45 (x_9, ())) gg45 (m12_45.map (·.1)) (mx12_45.map (·.1)) (mr12_45.map (·.1)) s12_45 = .load ⟨n1, 2, none⟩ .sl (fun l46 => .br (Decidable.decide (x_9 < (↑l46.snd.fst : Int))) (.load ⟨n1, 2, none⟩ .sl (fun l47 => .idx l47.1 x_9 l47.2.1 4 (fun a48 => .load a48 (.int .i64) (fun x49 => .load (a48.add 1) (.int .i64) (fun x50 => .load (a48.add 2) (.int .i64) (fun x51 => .load (a48.add 3) (.int .i64) (fun x52 => .new (.cells #[.int .i64 0, .int .i64 0, .int .i64 0, .int .i64 0] 39 (0, 0)) (fun n53 => .store ⟨n53, 0, none⟩ (.int .i64 x49) (.store ⟨n53, 1, none⟩ (.int .i64 x50) (.store ⟨n53, 2, none⟩ (.int .i64 x51) (.store ⟨n53, 3, none⟩ (.int .i64 x52) (.load ⟨n53, 0, none⟩ (.int .i64) (fun x54 => .br (Decidable.decide (x54 < 0)) (.fin .ret [(4, .bool false)]) (.load ⟨n53, 0, none⟩ (.int .i64) (fun x55 => .br (Decidable.decide (x55 ≥ (↑l3.snd.fst : Int))) (.fin .ret [(4, .bool false)]) (.load ⟨n53, 2, none⟩ (.int .i64) (fun x56 => .br (Decidable.decide (x56 < 0)) (.fin .ret [(4, .bool false)]) (.load ⟨n53, 2, none⟩ (.int .i64) (fun x57 => .br (Decidable.decide (x57 ≥ (↑l3.snd.fst : Int))) (.fin .ret [(4, .bool false)]) (.fin .normal [(9, .int .i64 (IntKind.i64.wrap (x_9 + 1)))])))))))))))))))))))) (.fin (.exit 6) [])) := by kernel_rfl
def s12 : Script := .ld .sl (.ct 1 [2, 3, 5] mx12_4 (.sym .nil (.lp 0 [2, 3, 5] [6] mx12_13 mr12_13 (.lp 2 [2, 3, 5] [7] mx12_27 mr12_27 (.lp 4 [2, 3, 5] [8] mx12_36 mr12_36 (.lp 6 [2, 5] [9] mx12_45 mr12_45 .nil .nil) .nil) .nil) .nil)))
theorem t12 (qx0_0 : Int) (qa0_1 : Option Addr) (qn0_1 : Nat) (qc0_1 : Nat) (qa0_2 : Option Addr) (qn0_2 : Nat) (qc0_2 : Nat) (qa1_0 : Option Addr) (qn1_0 : Nat) (qc1_0 : Nat) (qa1_1 : Option Addr) (qn1_1 : Nat) (qc1_1 : Nat) (qa1_2 : Option Addr) (qn1_2 : Nat) (qc1_2 : Nat) (qa1_3 : Option Addr) (qn1_3 : Nat) (qc1_3 : Nat) (qa1_4 : Option Addr) (qn1_4 : Nat) (qc1_4 : Nat) (qa1_5 : Option Addr) (qn1_5 : Nat) (qc1_5 : Nat) (qa1_6 : Option Addr) (qn1_6 : Nat) (qc1_6 : Nat) (qa1_7 : Option Addr) (qn1_7 : Nat) (qc1_7 : Nat) : fnT Tryz.prog Tryz.f12 #[.agg #[.int .i64 qx0_0, .slice qa0_1 qn0_1 qc0_1, .slice qa0_2 qn0_2 qc0_2], .agg #[.slice qa1_0 qn1_0 qc1_0, .slice qa1_1 qn1_1 qc1_1, .slice qa1_2 qn1_2 qc1_2, .slice qa1_3 qn1_3 qc1_3, .slice qa1_4 qn1_4 qc1_4, .slice qa1_5 qn1_5 qc1_5, .slice qa1_6 qn1_6 qc1_6, .slice qa1_7 qn1_7 qc1_7]] s12 = .new (.cells #[.int .i64 qx0_0, .slice qa0_1 qn0_1 qc0_1, .slice qa0_2 qn0_2 qc0_2] 25 (0, 0)) (fun n1 => .new (.cells #[.slice qa1_0 qn1_0 qc1_0, .slice qa1_1 qn1_1 qc1_1, .slice qa1_2 qn1_2 qc1_2, .slice qa1_3 qn1_3 qc1_3, .slice qa1_4 qn1_4 qc1_4, .slice qa1_5 qn1_5 qc1_5, .slice qa1_6 qn1_6 qc1_6, .slice qa1_7 qn1_7 qc1_7] 31 (0, 0)) (fun n2 => .load ⟨n1, 1, none⟩ .sl (fun l3 => .cut (at_ Tryz.f12 [1, 1, 0, 0]) 169 (fx12_4 n1 n2 l3) mx12_4 (fun u12 g12 => .br u12.1 (.done (.returned (.bool false))) (.loop (at_ Tryz.f12 [1, 1, 1, 0, 1, 0, 0]) 169 (fx12_13 n1 n2 l3) [(6, .int .i64 0)] mx12_13 mr12_13 0 (fun u26 g26 => .loop (at_ Tryz.f12 [1, 1, 1, 1, 0, 1, 0, 0]) 169 (fx12_27 n1 n2 l3) [(7, .int .i64 0)] mx12_27 mr12_27 2 (fun u35 g35 => .loop (at_ Tryz.f12 [1, 1, 1, 1, 1, 0, 1, 0, 0]) 169 (fx12_36 n1 n2 l3) [(8, .int .i64 0)] mx12_36 mr12_36 4 (fun u44 g44 => .loop (at_ Tryz.f12 [1, 1, 1, 1, 1, 1, 0, 1, 0, 0]) 169 (fx12_45 n1 l3) [(9, .int .i64 0)] mx12_45 mr12_45 6 (fun u58 g58 => .done (.returned (.bool true))) (fun u59 g59 => .done (.returned (.bool u59.1)))) (fun u60 g60 => .done (.returned (.bool u60.1)))) (fun u61 g61 => .done (.returned (.bool u61.1)))) (fun u62 g62 => .done (.returned (.bool u62.1)))))))) := by kernel_rfl
structure Sane (p : PM) (s : SM) : Prop where
  n1 : s.ins.length = p.tasks.length
  n2 : s.outs.length = p.tasks.length
  n3 : s.back.length = p.edges.length
  n4 : s.order.length = p.tasks.length
  n7 : s.mate.length = p.tasks.length
  n8 : s.depth.length = p.tasks.length
  order : ∀ t ∈ s.order, t < p.tasks.length
  sources : ∀ t ∈ s.sources, t < p.tasks.length
  sinks : ∀ t ∈ s.sinks, t < p.tasks.length
  mate : ∀ x ∈ s.mate, -1 ≤ x ∧ x < p.tasks.length
  m5 : s.sources.length ≤ p.tasks.length
  m6 : s.sinks.length ≤ p.tasks.length
theorem foldl_len {α β : Type} {f : List α → β → List α} (h : ∀ l x, (f l x).length = l.length) : ∀ (xs : List β) (l : List α), (xs.foldl f l).length = l.length
  | [], l => rfl
  | x :: xs, l => by rw [List.foldl_cons, foldl_len h xs, h]
theorem depth_len (p : PM) : (depthM p).length = p.tasks.length := by
  unfold depthM
  rw [foldl_len fun l t => by
    unfold depthStep
    exact foldl_len (fun l i => by unfold depthEdge; split <;> (try split) <;> simp) _ _]
  simp
theorem mate_in (p : PM) {Q : Int → Prop} : ∀ (es : List EM), (∀ e ∈ es, Q e.frm ∧ Q e.to) → ∀ l : List Int, (∀ x ∈ l, Q x) → ∀ x ∈ es.foldl (mateStep p) l, Q x
  | [], _, l, h => h
  | e :: es, he, l, h => by
    rw [List.foldl_cons]
    refine mate_in p es (fun e h => he e (List.mem_cons_of_mem _ h)) _ fun x hx => ?_
    obtain ⟨h1, h2⟩ := he e List.mem_cons_self
    unfold mateStep at hx
    split at hx
    · rcases List.mem_or_eq_of_mem_set hx with hx | rfl
      · rcases List.mem_or_eq_of_mem_set hx with hx | rfl
        · exact h x hx
        · exact h1
      · exact h2
    · exact h x hx
theorem kinds_in {p : PM} {k : Int} {t : Nat} : t ∈ kindsAre p k ↔ t < p.tasks.length ∧ kindAt p t = k := by
  unfold kindsAre
  rw [List.mem_filter, List.mem_range, beq_iff_eq]
theorem kinds_len (p : PM) (k : Int) : (kindsAre p k).length ≤ p.tasks.length := by
  unfold kindsAre
  exact Nat.le_trans (List.length_filter_le _ _) (by simp)
theorem Good.laid {p : PM} (h : Good p) : Laid (grOf p false) p.tasks.length (ordM p) ∧ (ordM p).length = p.tasks.length := order_laid (h.gr false) h.cycle _ (Nat.le_refl _)
theorem Good.sane {p : PM} (h : Good p) : Sane p (shapeM p) := by
  refine ⟨by simp [shapeM], by simp [shapeM], by simp [shapeM], h.laid.2, ?_, depth_len p, h.laid.1.low, fun t ht => (kinds_in.1 ht).1, fun t ht => (kinds_in.1 ht).1, ?_, kinds_len p 1, kinds_len p 13⟩
  · show (mateM p).length = _
    unfold mateM
    rw [mate_len]
    simp
  · show ∀ x ∈ mateM p, _
    unfold mateM
    refine mate_in p _ (fun e he => ?_) _ fun x hx => ?_
    · obtain ⟨h1, h2, -⟩ := h.edges e he
      omega
    · rw [(List.mem_replicate.1 hx).2]; omega
theorem neN {a b : Nat} (h : a = b) : (((a : Nat) : Int) != ((b : Nat) : Int)) = false := by rw [h]; exact bne_self_eq_false _
theorem nat_at {l : List Nat} {i t : Nat} (h : l[i]? = some t) : (natI l)[i]? = some ((t : Nat) : Int) := by unfold natI; rw [List.getElem?_map, h]; rfl
theorem mem_at {α : Type} {l : List α} {i : Nat} {t : α} (h : l[i]? = some t) : t ∈ l := List.mem_of_getElem? h
theorem within_any (w : World) (p : PM) (tp ep : Option Addr) (tc ec : Nat) (x : ShV) (s : SM) (h : IsP w tp ep p) (hx : IsS w x s) (hs : Sane p s)
    (hE : ∀ e ∈ p.edges, (0 ≤ e.frm ∧ e.frm < p.tasks.length) ∧ (0 ≤ e.to ∧ e.to < p.tasks.length) ∧ (0 ≤ e.out ∧ e.out < 4) ∧ 0 ≤ e.inn ∧ e.inn < 4) :
    Calls Tryz.prog 12 #[planV p tp tc ep ec, shV x] w fun r w' => r = .returned (.bool true) ∧ Ch No w w' := by
  obtain ⟨⟨a1, n1, d1⟩, ⟨a2, n2, d2⟩, ⟨a3, n3, d3⟩, ⟨a4, n4, d4⟩, ⟨a5, n5, d5⟩, ⟨a6, n6, d6⟩, ⟨a7, n7, d7⟩, ⟨a8, n8, d8⟩, ⟨⟩⟩ := x
  obtain ⟨l1, l2, l3, l4, l5, l6, l7, l8, -, -, -, ho, hso, hsi, hma, -⟩ := hx
  dsimp only at l1 l2 l3 l4 l5 l6 l7 l8 ho hso hsi hma
  subst l1 l2 l3 l4 l5 l6 l7 l8
  obtain ⟨q1, q2, q3, q4, q7, q8, o1, o2, o3, o4, m5, m6⟩ := hs
  have tn := h.tn
  have en := h.en
  refine calls_of_fnT mixed Tryz.func12 (s := s12) ?_
  rw [t12]
  refine nw (cs := planC p tp tc ep ec) fun w1 c1 s1 b1 => nw (cs := [_, _, _, _, _, _, _, _]) fun w2 c2 s2 b2 => ?_
  replace b1 := b1.ch c2 (fun h => h)
  have c02 := c1.trans c2
  refine ld_sl (b1.cell 1) ?_
  refine cut_i mixed s12_4 (fun v W => Ch No w2 W ∧ v.1 = false) (by kernel_rfl) (fun g => ?_) ?_
  · rw [t12_4]
    refine ld_sl (b2.cell 0) (br_false (neN q1) (ld_sl (b2.cell 1) (br_false (neN q2) (ld_sl (b2.cell 2) (ld_sl (b1.cell 2) (br_false (neN q3) (ld_sl (b2.cell 3) (br_false (neN q4) (ld_sl (b2.cell 6) (br_false (neN q7) (ld_sl (b2.cell 7) ?_)))))))))))
    exact ⟨rfl, (_, ()), rfl, Ch.refl _ _, neN q8⟩
  rintro ⟨u, ⟨⟩⟩ g w3 ⟨c3, hu⟩
  dsimp only at hu ⊢
  subst hu
  refine br_false rfl ?_
  refine loop_i mixed m12_13 s12_13 (by kernel_rfl) (by kernel_rfl) (fun v W => Ch No w2 W ∧ ∃ i : Nat, v.1 = (i : Nat) ∧ i ≤ p.tasks.length) (fun v _ => p.tasks.length - v.1.toNat) (0, ()) rfl ⟨c3, 0, rfl, Nat.zero_le _⟩ ?_
  rintro ⟨_, ⟨⟩⟩ g W ⟨cW, i, rfl, hi⟩
  rw [t12_13]
  have b2W := b2.ch cW (fun h => h)
  have c0W := c02.trans cW
  refine br_both (fun e2 => ?_) fun e2 => ?_
  · have e2 := lt_t e2
    dsimp only at e2
    obtain ⟨o, hoi⟩ := some_at (l := s.order) (i := i) (by omega)
    obtain ⟨y, hy⟩ := some_at (l := s.mate) (i := i) (by omega)
    have b1' := o1 o (mem_at hoi)
    have b2' := o4 y (mem_at hy)
    obtain ⟨oa, rfl, hoa⟩ := (ho.of fun _ _ ha => c0W.cellv ha (fun h => h)) i _ (nat_at hoi)
    obtain ⟨ya, rfl, hya⟩ := (hma.of fun _ _ ha => c0W.cellv ha (fun h => h)) i _ hy
    have il : ((i : Nat) : Int) < ((s.order.length : Nat) : Int) := by omega
    have il2 : ((i : Nat) : Int) < ((s.mate.length : Nat) : Int) := by omega
    refine ld_sl (b2W.cell 3) (ix_i (by omega) il ?_)
    rw [Int.toNat_natCast, Nat.mul_one]
    refine ld_int hoa (br_false (decide_eq_false (by show ¬ ((o : Nat) : Int) < 0; omega)) (ld_sl (b2W.cell 3) (ix_i (by omega) il ?_)))
    rw [Int.toNat_natCast, Nat.mul_one]
    refine ld_int hoa (br_false (decide_eq_false (by show ¬ ((p.tasks.length : Nat) : Int) ≤ ((o : Nat) : Int); omega)) (ld_sl (b2W.cell 6) (ix_i (by omega) il2 ?_)))
    rw [Int.toNat_natCast, Nat.mul_one]
    refine ld_int hya (br_false (decide_eq_false (by show ¬ y < -1; omega)) (ld_sl (b2W.cell 6) (ix_i (by omega) il2 ?_)))
    rw [Int.toNat_natCast, Nat.mul_one]
    refine ld_int hya (br_false (decide_eq_false (by show ¬ ((p.tasks.length : Nat) : Int) ≤ y; omega)) ?_)
    exact ⟨(((i : Nat) : Int) + 1, ()), by rw [wrap_succ (by omega) (by omega)]; rfl, ⟨cW, i + 1, rfl, by omega⟩, by show p.tasks.length - (((i : Nat) : Int) + 1).toNat < p.tasks.length - ((i : Nat) : Int).toNat; omega⟩
  refine ⟨rfl, (), rfl, fun g => ?_⟩
  clear e2 hi b2W c0W
  refine loop_i mixed m12_27 s12_27 (by kernel_rfl) (by kernel_rfl) (fun v W => Ch No w2 W ∧ ∃ i : Nat, v.1 = (i : Nat) ∧ i ≤ s.sources.length) (fun v _ => s.sources.length - v.1.toNat) (0, ()) rfl ⟨cW, 0, rfl, Nat.zero_le _⟩ ?_
  rintro ⟨_, ⟨⟩⟩ g W ⟨cW, i, rfl, hi⟩
  rw [t12_27]
  have b2W := b2.ch cW (fun h => h)
  have c0W := c02.trans cW
  refine ld_sl (b2W.cell 4) (br_both (fun e2 => ?_) fun e2 => ?_)
  · have e2 := lt_t e2
    dsimp only at e2
    obtain ⟨o, hoi⟩ := some_at (l := s.sources) (i := i) (by omega)
    have b1' := o2 o (mem_at hoi)
    obtain ⟨oa, rfl, hoa⟩ := (hso.of fun _ _ ha => c0W.cellv ha (fun h => h)) i _ (nat_at hoi)
    have il : ((i : Nat) : Int) < ((s.sources.length : Nat) : Int) := by omega
    refine ld_sl (b2W.cell 4) (ix_i (by omega) il ?_)
    rw [Int.toNat_natCast, Nat.mul_one]
    refine ld_int hoa (br_false (decide_eq_false (by show ¬ ((o : Nat) : Int) < 0; omega)) (ld_sl (b2W.cell 4) (ix_i (by omega) il ?_)))
    rw [Int.toNat_natCast, Nat.mul_one]
    refine ld_int hoa (br_false (decide_eq_false (by show ¬ ((p.tasks.length : Nat) : Int) ≤ ((o : Nat) : Int); omega)) ?_)
    exact ⟨(((i : Nat) : Int) + 1, ()), by rw [wrap_succ (by omega) (by omega)]; rfl, ⟨cW, i + 1, rfl, by omega⟩, by show s.sources.length - (((i : Nat) : Int) + 1).toNat < s.sources.length - ((i : Nat) : Int).toNat; omega⟩
  refine ⟨rfl, (), rfl, fun g => ?_⟩
  clear e2 hi b2W c0W
  refine loop_i mixed m12_36 s12_36 (by kernel_rfl) (by kernel_rfl) (fun v W => Ch No w2 W ∧ ∃ i : Nat, v.1 = (i : Nat) ∧ i ≤ s.sinks.length) (fun v _ => s.sinks.length - v.1.toNat) (0, ()) rfl ⟨cW, 0, rfl, Nat.zero_le _⟩ ?_
  rintro ⟨_, ⟨⟩⟩ g W ⟨cW, i, rfl, hi⟩
  rw [t12_36]
  have b2W := b2.ch cW (fun h => h)
  have c0W := c02.trans cW
  refine ld_sl (b2W.cell 5) (br_both (fun e2 => ?_) fun e2 => ?_)
  · have e2 := lt_t e2
    dsimp only at e2
    obtain ⟨o, hoi⟩ := some_at (l := s.sinks) (i := i) (by omega)
    have b1' := o3 o (mem_at hoi)
    obtain ⟨oa, rfl, hoa⟩ := (hsi.of fun _ _ ha => c0W.cellv ha (fun h => h)) i _ (nat_at hoi)
    have il : ((i : Nat) : Int) < ((s.sinks.length : Nat) : Int) := by omega
    refine ld_sl (b2W.cell 5) (ix_i (by omega) il ?_)
    rw [Int.toNat_natCast, Nat.mul_one]
    refine ld_int hoa (br_false (decide_eq_false (by show ¬ ((o : Nat) : Int) < 0; omega)) (ld_sl (b2W.cell 5) (ix_i (by omega) il ?_)))
    rw [Int.toNat_natCast, Nat.mul_one]
    refine ld_int hoa (br_false (decide_eq_false (by show ¬ ((p.tasks.length : Nat) : Int) ≤ ((o : Nat) : Int); omega)) ?_)
    exact ⟨(((i : Nat) : Int) + 1, ()), by rw [wrap_succ (by omega) (by omega)]; rfl, ⟨cW, i + 1, rfl, by omega⟩, by show s.sinks.length - (((i : Nat) : Int) + 1).toNat < s.sinks.length - ((i : Nat) : Int).toNat; omega⟩
  refine ⟨rfl, (), rfl, fun g => ?_⟩
  clear e2 hi b2W c0W
  refine loop_i mixed m12_45 s12_45 (by kernel_rfl) (by kernel_rfl) (fun v W => Ch No w2 W ∧ ∃ i : Nat, v.1 = (i : Nat) ∧ i ≤ p.edges.length) (fun v _ => p.edges.length - v.1.toNat) (0, ()) rfl ⟨cW, 0, rfl, Nat.zero_le _⟩ ?_
  rintro ⟨_, ⟨⟩⟩ g W ⟨cW, i, rfl, hi⟩
  rw [t12_45]
  have b1W := b1.ch cW (fun h => h)
  have c0W := c02.trans cW
  refine ld_sl (b1W.cell 2) (br_both (fun e2 => ?_) fun e2 => ?_)
  · have e2 := lt_t e2
    dsimp only at e2
    obtain ⟨ed, hed⟩ := some_at (l := p.edges) (i := i) (by omega)
    obtain ⟨f1, f2, -⟩ := hE ed (mem_at hed)
    refine ld_sl (b1W.cell 2) (ed_i (h.ch c0W) hed fun ea n W1 k1 z1 d1 => ?_)
    refine ld_int (d1.cell 0) (br_false (decide_eq_false (by show ¬ ed.frm < 0; omega)) (ld_int (d1.cell 0) (br_false (decide_eq_false (by show ¬ ((p.tasks.length : Nat) : Int) ≤ ed.frm; omega)) (ld_int (d1.cell 2) (br_false (decide_eq_false (by show ¬ ed.to < 0; omega)) (ld_int (d1.cell 2) (br_false (decide_eq_false (by show ¬ ((p.tasks.length : Nat) : Int) ≤ ed.to; omega)) ?_)))))))
    exact ⟨(((i : Nat) : Int) + 1, ()), by rw [wrap_succ (by omega) (by omega)]; rfl, ⟨cW.trans k1, i + 1, rfl, by omega⟩, by show p.edges.length - (((i : Nat) : Int) + 1).toNat < p.edges.length - ((i : Nat) : Int).toNat; omega⟩
  exact ⟨rfl, (), rfl, fun g => ⟨rfl, c0W⟩⟩
end Go.Proofs.YtkebljkdkaagfaaGreatDoor.S
