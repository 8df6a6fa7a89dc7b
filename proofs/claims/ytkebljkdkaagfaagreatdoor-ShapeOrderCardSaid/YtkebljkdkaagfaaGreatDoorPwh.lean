/- Chains of operators. -/
import Derived.Test.YtkebljkdkaagfaaGreatDoorPwg
namespace Go.Proofs.YtkebljkdkaagfaaGreatDoor.E
open Go Tr
open V (rest rest_cases restL sizeB pk_rest cx_i cp_i extract_list)
set_option maxRecDepth 100000
set_option maxHeartbeats 2000000
/-! the tree of function 52 -/
def s52 : Script := .clp (.one (.leaf .ifc)) .nil .nil
theorem t52 (qa0 : Addr) : fnT Tryz.prog Tryz.f52 #[.pointer (some qa0)] s52 = .new (.cells #[.string (bytesL [111, 114])] 9 (0, 0)) (fun n1 => .callp 56 #[.pointer (some qa0), .int .i64 2, .func (.func 57) #[.pointer (some qa0)] #[], .slice (some ⟨n1, 0, none⟩) 1 1] (.one (.leaf .ifc)) (fun i2 => .done (.returned (.iface i2.1 i2.2))) (fun ch3 => .done (.panicked ch3))) := by kernel_rfl
/-! the tree of function 57 -/
def s57 : Script := .clp (.one (.leaf .ifc)) .nil .nil
theorem t57 (qa0 : Addr) : fnT Tryz.prog Tryz.f57 #[.pointer (some qa0)] s57 = .new (.cells #[.string (bytesL [97, 110, 100])] 9 (0, 0)) (fun n1 => .callp 56 #[.pointer (some qa0), .int .i64 2, .func (.func 62) #[.pointer (some qa0)] #[], .slice (some ⟨n1, 0, none⟩) 1 1] (.one (.leaf .ifc)) (fun i2 => .done (.returned (.iface i2.1 i2.2))) (fun ch3 => .done (.panicked ch3))) := by kernel_rfl
/-! the tree of function 73 -/
def s73 : Script := .clp (.one (.leaf .ifc)) .nil .nil
theorem t73 (qa0 : Addr) : fnT Tryz.prog Tryz.f73 #[.pointer (some qa0)] s73 = .new (.cells #[.string (bytesL [43]), .string (bytesL [45])] 9 (0, 0)) (fun n1 => .callp 56 #[.pointer (some qa0), .int .i64 4, .func (.func 93) #[.pointer (some qa0)] #[], .slice (some ⟨n1, 0, none⟩) 2 2] (.one (.leaf .ifc)) (fun i2 => .done (.returned (.iface i2.1 i2.2))) (fun ch3 => .done (.panicked ch3))) := by kernel_rfl
/-! the tree of function 93 -/
def s93 : Script := .clp (.one (.leaf .ifc)) .nil .nil
theorem t93 (qa0 : Addr) : fnT Tryz.prog Tryz.f93 #[.pointer (some qa0)] s93 = .new (.cells #[.string (bytesL [42]), .string (bytesL [47]), .string (bytesL [37])] 9 (0, 0)) (fun n1 => .callp 56 #[.pointer (some qa0), .int .i64 4, .func (.func 114) #[.pointer (some qa0)] #[], .slice (some ⟨n1, 0, none⟩) 3 3] (.one (.leaf .ifc)) (fun i2 => .done (.returned (.iface i2.1 i2.2))) (fun ch3 => .done (.panicked ch3))) := by kernel_rfl
theorem relN.keep {w0 w1 w2 w : World} {b : Nat} {x : N} {v : Value} (h : relN w1 x v w2) (h1 : w0.heap.size ≤ w1.heap.size) (hb : b < w1.heap.size) (hc : Ch (· = b) w2 w) : relN w0 x v w :=
  h.go h1 hc (fun k hk (e : k = b) => by have := hk.1; omega)
theorem relN.no {w0 w1 w2 w : World} {x : N} {v : Value} (h : relN w1 x v w2) (h1 : w0.heap.size ≤ w1.heap.size) (hc : Ch No w2 w) : relN w0 x v w := h.go h1 hc (fun _ _ h => h)
theorem opOf_some {t : Tk} {kind : Nat} {ops : List Txt} {i : Nat} {op : Txt} (hi : ops[i]? = some op) (hb : isB t kind op = true) (hno : ∀ j u, j < i → ops[j]? = some u → isB t kind u = false) : opOf t kind ops = some op := by
  unfold isB at hb hno
  rw [Bool.and_eq_true, decide_eq_true_eq, beq_iff_eq] at hb
  unfold opOf
  rw [if_pos hb.1, List.find?_eq_some_iff_getElem]
  obtain ⟨hlt, e⟩ := List.getElem?_eq_some_iff.1 hi
  refine ⟨by rw [hb.2]; exact beq_self_eq_true _, i, hlt, e, fun j hj => ?_⟩
  have := hno j _ hj (List.getElem?_eq_getElem (by omega))
  rw [decide_eq_true hb.1, Bool.true_and, beq_eq_false_iff_ne] at this
  rw [Bool.not_eq_true', beq_eq_false_iff_ne]
  exact fun h => this h.symm
theorem opOf_none {t : Tk} {kind : Nat} {ops : List Txt} (hno : ∀ u ∈ ops, isB t kind u = false) : opOf t kind ops = none := by
  unfold opOf
  by_cases hk : t.kind = kind
  · rw [if_pos hk, List.find?_eq_none]
    intro u hu
    have := hno u hu
    unfold isB at this
    rw [decide_eq_true hk, Bool.true_and, beq_eq_false_iff_ne] at this
    rw [beq_iff_eq]
    exact fun h => this h.symm
  · rw [if_neg hk]
abbrev tStr_ : TypeId := 9
def opCells (ops : List Txt) : List Value := ops.map fun t => .string (bytesL t)
namespace CA
/-! the tree of function 3000 -/
abbrev fx56_1 (qa0 : Addr) (qx1 : Int) (qcl : Addr) (qa3 : Option Addr) (qn3 : Nat) (qc3 : Nat) : List (Tmp × Value) := [(0, .pointer (some qa0)), (1, .int .i64 qx1), (2, .func (.func 57) #[.pointer (some qcl)] #[]), (3, .slice qa3 qn3 qc3)]
abbrev L56_1 : List (Tmp × Value) := []
abbrev m56_1 : List (Tmp × Comp) := [(9, .leaf .ifc)]
abbrev mr56_1 : List (Tmp × Comp) := [(8, .leaf .ifc)]
abbrev fx56_3 (qa0 : Addr) (qx1 : Int) (qcl : Addr) (qa3 : Option Addr) (qn3 : Nat) (qc3 : Nat) (gg1 : Nat → Value) : List (Tmp × Value) := [(0, .pointer (some qa0)), (1, .int .i64 qx1), (2, .func (.func 57) #[.pointer (some qcl)] #[]), (3, .slice qa3 qn3 qc3), (8, gg1 8), (14, .slice qa3 qn3 qc3), (15, .int .i64 (↑qn3 : Int))]
abbrev mx56_3 : List (Tmp × Comp) := [(9, .leaf .ifc)]
abbrev mr56_3 : List (Tmp × Comp) := [(9, .leaf .ifc)]
def s56_1a : Script := .clp (.one (.leaf .ifc)) (.lpg 0 0 [0, 1, 2, 3, 8, 14, 15] [9, 16] mx56_3 mr56_3 .nil .nil) .nil
theorem t56_1a (qa0 : Addr) (qx1 : Int) (qcl : Addr) (qa3 : Option Addr) (qn3 : Nat) (qc3 : Nat) (gg1 : Nat → Value) : pieceG Tryz.prog (at_ Tryz.f56 [1, 0]) 35 (fx56_1 qa0 qx1 qcl qa3 qn3 qc3 ++ L56_1) gg1 [] [] (mr56_1.map (·.1)) (m56_1.map (·.1)) s56_1a = .callp 57 #[.pointer (some qcl)] (.one (.leaf .ifc)) (fun i2 => .loopg (at_ Tryz.f56 [1, 0, 1, 1, 0, 1, 0, 0]) 35 (fx56_3 qa0 qx1 qcl qa3 qn3 qc3 gg1) [(9, .iface i2.1 i2.2), (16, .int .i64 0)] mx56_3 mr56_3 0 0 (fun u13 g13 => .fin .ret [(8, .iface u13.1.1 u13.fst.2)]) (fun u14 g14 => .fin (.goto 0) [(9, .iface u14.1.1 u14.fst.2)])) (fun ch15 => .done (.panicked ch15)) := by kernel_rfl
abbrev fx56_16 (qa0 : Addr) (qx1 : Int) (qcl : Addr) (qa3 : Option Addr) (qn3 : Nat) (qc3 : Nat) (gg1 : Nat → Value) : List (Tmp × Value) := [(0, .pointer (some qa0)), (1, .int .i64 qx1), (2, .func (.func 57) #[.pointer (some qcl)] #[]), (3, .slice qa3 qn3 qc3), (8, gg1 8), (14, .slice qa3 qn3 qc3), (15, .int .i64 (↑qn3 : Int))]
abbrev m56_16 : List (Tmp × Comp) := [(9, .leaf .ifc), (16, .leaf (.int .i64))]
abbrev mx56_16 : List (Tmp × Comp) := [(9, .leaf .ifc)]
abbrev mr56_16 : List (Tmp × Comp) := [(9, .leaf .ifc)]
def s56_16 : Script := .sym (.ix (.ld .str (.clp (.one (.leaf .bool)) (.sym (.clp (.one (.agg [.int .i64, .int .i64, .str, .int .i64])) (.clp (.one (.leaf .ifc)) .nil .nil) .nil) .nil) .nil))) .nil
theorem t56_16 (qa0 : Addr) (qx1 : Int) (qcl : Addr) (qa3 : Option Addr) (qn3 : Nat) (qc3 : Nat) (gg1 : Nat → Value) (i_9 : TypeId × Value) (x_16 : Int) (gg16 : Nat → Value) : pieceG Tryz.prog (at_ Tryz.f56 [1, 0, 1, 1, 0, 1, 0, 0]) 35 (fx56_16 qa0 qx1 qcl qa3 qn3 qc3 gg1 ++ mvals m56_16 (i_9, x_16, ())) gg16 (m56_16.map (·.1)) (mx56_16.map (·.1)) [] (mr56_16.map (·.1)) s56_16 = .br (Decidable.decide (x_16 < (↑qn3 : Int))) (.idx qa3 x_16 qn3 1 (fun a17 => .load a17 .str (fun s18 => .callp 51 #[.pointer (some qa0), .int .i64 qx1, .string s18] (.one (.leaf .bool)) (fun b19 => .br b19 (.callp 53 #[.pointer (some qa0)] (.one (.agg [.int .i64, .int .i64, .str, .int .i64])) (fun r20 => .callp 57 #[.pointer (some qcl)] (.one (.leaf .ifc)) (fun i21 => .new (.cells #[.string s18, .iface i_9.1 i_9.2, .iface i21.1 i21.2] 116 (0, 0)) (fun n22 => .fin (.goto 0) [(9, .iface 114 (.pointer (some ⟨n22, 0, none⟩)))])) (fun ch23 => .done (.panicked ch23))) (fun ch24 => .done (.panicked ch24))) (.fin .normal [(9, .iface i_9.1 i_9.2), (16, .int .i64 (IntKind.i64.wrap (x_16 + 1)))])) (fun ch25 => .done (.panicked ch25))))) (.fin (.exit 0) [(9, .iface i_9.1 i_9.2)]) := by kernel_rfl
def s56_1b : Script := .lpg 0 0 [0, 1, 2, 3, 8, 14, 15] [9, 16] mx56_16 mr56_16 .nil .nil
theorem t56_1b (qa0 : Addr) (qx1 : Int) (qcl : Addr) (qa3 : Option Addr) (qn3 : Nat) (qc3 : Nat) (i_9 : TypeId × Value) (gg1 : Nat → Value) : pieceG Tryz.prog (from_ (at_ Tryz.f56 [1, 0]) 0) 35 (fx56_1 qa0 qx1 qcl qa3 qn3 qc3 ++ mvals m56_1 (i_9, ())) gg1 [] [] (mr56_1.map (·.1)) (m56_1.map (·.1)) s56_1b = .loopg (at_ Tryz.f56 [1, 0, 1, 1, 0, 1, 0, 0]) 35 (fx56_16 qa0 qx1 qcl qa3 qn3 qc3 gg1) [(9, .iface i_9.1 i_9.2), (16, .int .i64 0)] mx56_16 mr56_16 0 0 (fun u26 g26 => .fin .ret [(8, .iface u26.1.1 u26.fst.2)]) (fun u27 g27 => .fin (.goto 0) [(9, .iface u27.1.1 u27.fst.2)]) := by kernel_rfl
def s56a : Script := .gt [0, 1, 2, 3] [] mr56_1 .nil
theorem t56a (qa0 : Addr) (qx1 : Int) (qcl : Addr) (qa3 : Option Addr) (qn3 : Nat) (qc3 : Nat) : fnT Tryz.prog Tryz.f56 #[.pointer (some qa0), .int .i64 qx1, .func (.func 57) #[.pointer (some qcl)] #[], .slice qa3 qn3 qc3] s56a = .scp (at_ Tryz.f56 [1, 0]) 35 (fx56_1 qa0 qx1 qcl qa3 qn3 qc3) L56_1 mr56_1 (fun u28 g28 => .done (.returned (.iface u28.1.1 u28.fst.2))) := by kernel_rfl
theorem chain_ok (s : ByteArray) (f : Nat) (hIH : LvOk s f .and) (w : World) (b : Nat) (st : PS) (kind : Nat) (ops : List Txt) (g : Nat) (hB : Beg w b s .and st) (hops : Blk w g (opCells ops) tStr_) (hgb : g ≠ b) (hop0 : ops ≠ []) (hlen : ops.length ≤ 10)
    (hne : (bindR (prs s.size f .and st) fun a st => loopB s.size (prs s.size f .and) kind ops f a st) ≠ .error (0, 0)) :
    Calls Tryz.prog 56 #[.pointer (some ⟨b, 0, none⟩), .int .i64 (kind : Nat), .func (.func 57) #[.pointer (some ⟨b, 0, none⟩)] #[], .slice (some ⟨g, 0, none⟩) ops.length ops.length] w
      (PostR b s w (relN w) (bindR (prs s.size f .and st) fun a st => loopB s.size (prs s.size f .and) kind ops f a st)) := by
  refine calls_of_fnT mixed Tryz.func56 (s := s56a) ?_
  rw [t56a]
  have hblt := hB.ps.lt
  have pass : ∀ (K : MVars m56_1 → World → Prop) (m : Nat) (v : MVars m56_1) (w1 : World) (a : N) (st1 : PS) (gg : Nat → Value),
      PsS w1 b s st1 → Ch (· = b) w w1 → relN w a (.iface v.1.1 v.1.2) w1 → (bindR (prs s.size f .and st) fun a st => loopB s.size (prs s.size f .and) kind ops f a st) = loopB s.size (prs s.size f .and) kind ops m a st1 →
      (∀ m' v' w' a' st', m' < m → PsS w' b s st' → Ch (· = b) w w' → relN w a' (.iface v'.1.1 v'.1.2) w' → (bindR (prs s.size f .and st) fun a st => loopB s.size (prs s.size f .and) kind ops f a st) = loopB s.size (prs s.size f .and) kind ops m' a' st' → K v' w') →
      wpT Tryz.prog (PostR b s w (relN w) (bindR (prs s.size f .and st) fun a st => loopB s.size (prs s.size f .and) kind ops f a st)) (afterG Tryz.prog (PostR b s w (relN w) (bindR (prs s.size f .and st) fun a st => loopB s.size (prs s.size f .and) kind ops f a st)) (fun _ _ _ => False) 0 m56_1 mr56_1 (fun u _ => .done (.returned (.iface u.1.1 u.1.2))) K)
        (pieceG Tryz.prog (from_ (at_ Tryz.f56 [1, 0]) 0) 35 (fx56_1 ⟨b, 0, none⟩ (kind : Nat) ⟨b, 0, none⟩ (some ⟨g, 0, none⟩) ops.length ops.length ++ mvals m56_1 v) gg [] [] (mr56_1.map (·.1)) (m56_1.map (·.1)) s56_1b) .pl w1 := by
    rintro K m ⟨⟨vt, vv⟩, ⟨⟩⟩ w1 a st1 gg P1 h1 r1 heq hK
    rw [t56_1b]
    generalize hX : (bindR (prs s.size f .and st) fun a st => loopB s.size (prs s.size f .and) kind ops f a st) = X at *
    cases m with
    | zero => exact absurd heq hne
    | succ m =>
    have hBX : ∀ {w' st'}, Ch (· = b) w w' → PsS w' b s st' → Beg w' b s .and st' := fun h1 hp => hB.go h1 hp (fun i h => by cases h)
    refine loopg_i mixed m56_16 s56_16 (by kernel_rfl) (by kernel_rfl)
      (fun (v : (TypeId × Value) × Int × Unit) w' => v.1 = (vt, vv) ∧ ∃ (i : Nat) (stx : PS), v.2.1 = (i : Nat) ∧ i ≤ ops.length ∧ PsS w' b s stx ∧ Ch (· = b) w w' ∧ relN w a (.iface vt vv) w' ∧ ((i = 0 ∧ stx = st1) ∨ ∃ t, peekB s.size st1 = .ok (t, stx) ∧ ∀ j u, j < i → ops[j]? = some u → isB t kind u = false))
      (fun (v : (TypeId × Value) × Int × Unit) _ => ops.length - v.2.1.toNat) ((vt, vv), 0, ()) rfl ⟨rfl, 0, st1, rfl, Nat.zero_le _, P1, h1, r1, .inl ⟨rfl, rfl⟩⟩ ?_
    rintro ⟨_, _, ⟨⟩⟩ g1 w2 ⟨rfl, i, stx, rfl, hi, P2, h2, r2, hst⟩
    rw [t56_16]
    dsimp only
    have hpk : ∀ t stx2, peekB s.size stx = .ok (t, stx2) → peekB s.size st1 = .ok (t, stx2) ∧ ∀ j u, j < i → ops[j]? = some u → isB t kind u = false := by
      intro t stx2 hp
      rcases hst with ⟨rfl, rfl⟩ | ⟨t', hp', hno⟩
      · exact ⟨hp, fun j u hj => by omega⟩
      · rw [(peekB_again hp').1] at hp
        simp only [Except.ok.injEq, Prod.mk.injEq] at hp
        obtain ⟨rfl, rfl⟩ := hp
        exact ⟨hp', hno⟩
    have heqm : loopB s.size (prs s.size f .and) kind ops (m + 1) a st1 = bindR (peekB s.size st1) fun t st => match opOf t kind ops with
      | none => .ok (a, st)
      | some op => bindR (prs s.size f .and (dropB st)) fun b st => loopB s.size (prs s.size f .and) kind ops m (.bin op a b) st := rfl
    refine br_both (fun e => ?_) fun e => ?_
    · have e : (i : Int) < (ops.length : Int) := lt_t e
      have hil : i < ops.length := by omega
      obtain ⟨op, hop⟩ : ∃ op, ops[i]? = some op := ⟨ops[i]'hil, List.getElem?_eq_getElem hil⟩
      have hcell : w2.cell? ⟨g, i, none⟩ = some (.string (bytesL op)) := h2.cellv (by rw [hops.cell]; simp [opCells, hop]) (fun e : g = b => hgb e)
      refine ix_i (by omega) (by omega) ?_
      rw [addr_add, Int.toNat_natCast, Nat.zero_add, Nat.mul_one]
      refine ld_str hcell (cpR (is_any w2 b s stx kind op P2 (hBX h2 P2).gl hB.big hB.sz) ?_ ?_)
      · intro x st3 v w3 hr h3 hv P3
        obtain rfl : v = .bool x := hv
        refine ⟨x, rfl, ?_⟩
        cases hp : peekB s.size stx with
        | error c => rw [hp] at hr; cases hr
        | ok y =>
        obtain ⟨t, stx2⟩ := y
        rw [hp] at hr
        simp only [bindR, Except.ok.injEq, Prod.mk.injEq] at hr
        obtain ⟨rfl, rfl⟩ := hr
        obtain ⟨hp1, hno⟩ := hpk t _ hp
        refine br_both (fun e1 => ?_) fun e1 => ?_
        · have hos := opOf_some hop e1 hno
          have heq2 : X = bindR (prs s.size f .and (dropB stx2)) fun b st => loopB s.size (prs s.size f .and) kind ops m (.bin op a b) st := by rw [heq, heqm, hp1]; simp only [bindR, hos]
          refine nextR (hBX (h2.trans h3) P3) (peekB_again hp1).1 fun w4 h4 P4 => ?_
          have h04 := (h2.trans h3).trans h4
          have hne2 : prs s.size f .and (dropB stx2) ≠ .error (0, 0) := fun h => hne (by rw [heq2, h]; rfl)
          refine cpR (hIH w4 b _ (hBX h04 P4) hne2) ?_ ?_
          · intro c st5 v w5 hr5 h5 r5 P5
            obtain ⟨y5, rfl⟩ := IsN.ifc r5
            refine ⟨y5, rfl, nw fun w6 h6 z6 b6 => ?_⟩
            refine ⟨rfl, ((_, _), ()), rfl, fun g => ⟨rfl, ((_, _), ()), rfl, ?_⟩⟩
            refine hK m _ w6 (.bin op a c) st5 (Nat.lt_succ_self m) (P5.ch h6 (fun h => h)) ((h04.trans h5).trans h6.no) ?_ (by rw [heq2, hr5]; rfl)
            show IsN _ _ _ _
            simp only [IsN]
            have hs45 := h4.size
            have hs5 := h5.size
            refine ⟨w5.heap.size, _, _, rfl, ⟨by have := h04.size; omega, by omega⟩, b6, ?_, ?_⟩
            · exact (r2.keep (Nat.le_refl _) hblt ((h3.trans h4).trans h5)).no (Nat.le_refl _) h6
            · exact r5.no h04.size h6
          · intro c e w5 hr5 h5 ht
            rw [heq2, hr5]
            exact PostR.err h04 h5 ht
        · refine ⟨((vt, vv), (IntKind.i64.wrap ((i : Int) + 1)), ()), rfl, ⟨rfl, i + 1, stx2, wrap_succ (by omega) (by omega), by omega, P3, h2.trans h3, r2.keep (Nat.le_refl _) hblt h3, .inr ⟨t, hp1, fun j u hj hu => ?_⟩⟩, ?_⟩
          · rcases (by omega : j < i ∨ j = i) with h | rfl
            · exact hno j u h hu
            · rw [hop] at hu
              obtain rfl := Option.some.inj hu
              exact e1
          · show ops.length - (IntKind.i64.wrap ((i : Int) + 1)).toNat < ops.length - ((i : Nat) : Int).toNat
            rw [wrap_succ (by omega) (by omega)]
            omega
      · intro c e w3 hr h3 ht
        cases hp : peekB s.size stx with
        | ok y => rw [hp] at hr; simp [bindR] at hr
        | error c' =>
          rw [hp] at hr
          obtain rfl : c' = c := by simpa [bindR] using hr
          rcases hst with ⟨rfl, rfl⟩ | ⟨t', hp', hno⟩
          · rw [heq, heqm, hp]
            exact PostR.err h2 h3 ht
          · rw [(peekB_again hp').1] at hp
            cases hp
    · have e : (ops.length : Int) ≤ (i : Int) := lt_f e
      have hlp : 0 < ops.length := List.length_pos_iff.2 hop0
      rcases hst with ⟨rfl, rfl⟩ | ⟨t, hp, hno⟩
      · omega
      have hon : opOf t kind ops = none := opOf_none fun u hu => by
        obtain ⟨j, hj, e⟩ := List.getElem_of_mem hu
        exact hno j u (by omega) (by rw [List.getElem?_eq_getElem hj, e])
      refine ⟨rfl, ((vt, vv), ()), rfl, fun g => ⟨((vt, vv), ()), rfl, fun g => ?_⟩⟩
      refine ⟨h2, ?_⟩
      rw [heq, heqm, hp]
      simp only [bindR, hon]
      exact ⟨_, rfl, r2, P2⟩
  refine scp_i mixed 0 (rest := from_ (at_ Tryz.f56 [1, 0]) 0) (by kernel_rfl) m56_1 s56_1a s56_1b (by kernel_rfl) (by kernel_rfl) (by kernel_rfl) (by kernel_rfl)
    (fun m v w' => ∃ a st', PsS w' b s st' ∧ Ch (· = b) w w' ∧ relN w a (.iface v.1.1 v.1.2) w' ∧ (bindR (prs s.size f .and st) fun a st => loopB s.size (prs s.size f .and) kind ops f a st) = loopB s.size (prs s.size f .and) kind ops m a st') (fun g0 => ?_) ?_
  · rw [t56_1a]
    refine cpR (hIH w b st hB (fun h => hne (by rw [h]; rfl))) ?_ ?_
    · intro a st1 v w1 hr h1 r1 P1
      obtain ⟨y, rfl⟩ := IsN.ifc r1
      refine ⟨y, rfl, ?_⟩
      have h := pass (fun v w' => ∃ m a st', PsS w' b s st' ∧ Ch (· = b) w w' ∧ relN w a (.iface v.1.1 v.1.2) w' ∧ (bindR (prs s.size f .and st) fun a st => loopB s.size (prs s.size f .and) kind ops f a st) = loopB s.size (prs s.size f .and) kind ops m a st') f (y, ()) w1 a st1 g0 P1 h1 r1 (by rw [hr]; rfl) (fun m' v' w' a' st' _ h1 h2 h3 h4 => ⟨m', a', st', h1, h2, h3, h4⟩)
      rw [t56_1b] at h
      exact h
    · intro c e w1 hr h1 ht
      rw [hr]
      exact PostR.err (Ch.refl _ _) h1 ht
  · rintro m v g1 w1 ⟨a, st1, P1, h1, r1, heq⟩
    exact pass _ m v w1 a st1 g1 P1 h1 r1 heq (fun m' v' w' a' st' hm h1 h2 h3 h4 => ⟨m', ⟨a', st', h1, h2, h3, h4⟩, hm⟩)
end CA
namespace CB
/-! the tree of function 3001 -/
abbrev fx56_1 (qa0 : Addr) (qx1 : Int) (qcl : Addr) (qa3 : Option Addr) (qn3 : Nat) (qc3 : Nat) : List (Tmp × Value) := [(0, .pointer (some qa0)), (1, .int .i64 qx1), (2, .func (.func 62) #[.pointer (some qcl)] #[]), (3, .slice qa3 qn3 qc3)]
abbrev L56_1 : List (Tmp × Value) := []
abbrev m56_1 : List (Tmp × Comp) := [(9, .leaf .ifc)]
abbrev mr56_1 : List (Tmp × Comp) := [(8, .leaf .ifc)]
abbrev fx56_3 (qa0 : Addr) (qx1 : Int) (qcl : Addr) (qa3 : Option Addr) (qn3 : Nat) (qc3 : Nat) (gg1 : Nat → Value) : List (Tmp × Value) := [(0, .pointer (some qa0)), (1, .int .i64 qx1), (2, .func (.func 62) #[.pointer (some qcl)] #[]), (3, .slice qa3 qn3 qc3), (8, gg1 8), (14, .slice qa3 qn3 qc3), (15, .int .i64 (↑qn3 : Int))]
abbrev mx56_3 : List (Tmp × Comp) := [(9, .leaf .ifc)]
abbrev mr56_3 : List (Tmp × Comp) := [(9, .leaf .ifc)]
def s56_1a : Script := .clp (.one (.leaf .ifc)) (.lpg 0 0 [0, 1, 2, 3, 8, 14, 15] [9, 16] mx56_3 mr56_3 .nil .nil) .nil
theorem t56_1a (qa0 : Addr) (qx1 : Int) (qcl : Addr) (qa3 : Option Addr) (qn3 : Nat) (qc3 : Nat) (gg1 : Nat → Value) : pieceG Tryz.prog (at_ Tryz.f56 [1, 0]) 35 (fx56_1 qa0 qx1 qcl qa3 qn3 qc3 ++ L56_1) gg1 [] [] (mr56_1.map (·.1)) (m56_1.map (·.1)) s56_1a = .callp 62 #[.pointer (some qcl)] (.one (.leaf .ifc)) (fun i2 => .loopg (at_ Tryz.f56 [1, 0, 1, 1, 0, 1, 0, 0]) 35 (fx56_3 qa0 qx1 qcl qa3 qn3 qc3 gg1) [(9, .iface i2.1 i2.2), (16, .int .i64 0)] mx56_3 mr56_3 0 0 (fun u13 g13 => .fin .ret [(8, .iface u13.1.1 u13.fst.2)]) (fun u14 g14 => .fin (.goto 0) [(9, .iface u14.1.1 u14.fst.2)])) (fun ch15 => .done (.panicked ch15)) := by kernel_rfl
abbrev fx56_16 (qa0 : Addr) (qx1 : Int) (qcl : Addr) (qa3 : Option Addr) (qn3 : Nat) (qc3 : Nat) (gg1 : Nat → Value) : List (Tmp × Value) := [(0, .pointer (some qa0)), (1, .int .i64 qx1), (2, .func (.func 62) #[.pointer (some qcl)] #[]), (3, .slice qa3 qn3 qc3), (8, gg1 8), (14, .slice qa3 qn3 qc3), (15, .int .i64 (↑qn3 : Int))]
abbrev m56_16 : List (Tmp × Comp) := [(9, .leaf .ifc), (16, .leaf (.int .i64))]
abbrev mx56_16 : List (Tmp × Comp) := [(9, .leaf .ifc)]
abbrev mr56_16 : List (Tmp × Comp) := [(9, .leaf .ifc)]
def s56_16 : Script := .sym (.ix (.ld .str (.clp (.one (.leaf .bool)) (.sym (.clp (.one (.agg [.int .i64, .int .i64, .str, .int .i64])) (.clp (.one (.leaf .ifc)) .nil .nil) .nil) .nil) .nil))) .nil
theorem t56_16 (qa0 : Addr) (qx1 : Int) (qcl : Addr) (qa3 : Option Addr) (qn3 : Nat) (qc3 : Nat) (gg1 : Nat → Value) (i_9 : TypeId × Value) (x_16 : Int) (gg16 : Nat → Value) : pieceG Tryz.prog (at_ Tryz.f56 [1, 0, 1, 1, 0, 1, 0, 0]) 35 (fx56_16 qa0 qx1 qcl qa3 qn3 qc3 gg1 ++ mvals m56_16 (i_9, x_16, ())) gg16 (m56_16.map (·.1)) (mx56_16.map (·.1)) [] (mr56_16.map (·.1)) s56_16 = .br (Decidable.decide (x_16 < (↑qn3 : Int))) (.idx qa3 x_16 qn3 1 (fun a17 => .load a17 .str (fun s18 => .callp 51 #[.pointer (some qa0), .int .i64 qx1, .string s18] (.one (.leaf .bool)) (fun b19 => .br b19 (.callp 53 #[.pointer (some qa0)] (.one (.agg [.int .i64, .int .i64, .str, .int .i64])) (fun r20 => .callp 62 #[.pointer (some qcl)] (.one (.leaf .ifc)) (fun i21 => .new (.cells #[.string s18, .iface i_9.1 i_9.2, .iface i21.1 i21.2] 116 (0, 0)) (fun n22 => .fin (.goto 0) [(9, .iface 114 (.pointer (some ⟨n22, 0, none⟩)))])) (fun ch23 => .done (.panicked ch23))) (fun ch24 => .done (.panicked ch24))) (.fin .normal [(9, .iface i_9.1 i_9.2), (16, .int .i64 (IntKind.i64.wrap (x_16 + 1)))])) (fun ch25 => .done (.panicked ch25))))) (.fin (.exit 0) [(9, .iface i_9.1 i_9.2)]) := by kernel_rfl
def s56_1b : Script := .lpg 0 0 [0, 1, 2, 3, 8, 14, 15] [9, 16] mx56_16 mr56_16 .nil .nil
theorem t56_1b (qa0 : Addr) (qx1 : Int) (qcl : Addr) (qa3 : Option Addr) (qn3 : Nat) (qc3 : Nat) (i_9 : TypeId × Value) (gg1 : Nat → Value) : pieceG Tryz.prog (from_ (at_ Tryz.f56 [1, 0]) 0) 35 (fx56_1 qa0 qx1 qcl qa3 qn3 qc3 ++ mvals m56_1 (i_9, ())) gg1 [] [] (mr56_1.map (·.1)) (m56_1.map (·.1)) s56_1b = .loopg (at_ Tryz.f56 [1, 0, 1, 1, 0, 1, 0, 0]) 35 (fx56_16 qa0 qx1 qcl qa3 qn3 qc3 gg1) [(9, .iface i_9.1 i_9.2), (16, .int .i64 0)] mx56_16 mr56_16 0 0 (fun u26 g26 => .fin .ret [(8, .iface u26.1.1 u26.fst.2)]) (fun u27 g27 => .fin (.goto 0) [(9, .iface u27.1.1 u27.fst.2)]) := by kernel_rfl
def s56b : Script := .gt [0, 1, 2, 3] [] mr56_1 .nil
theorem t56b (qa0 : Addr) (qx1 : Int) (qcl : Addr) (qa3 : Option Addr) (qn3 : Nat) (qc3 : Nat) : fnT Tryz.prog Tryz.f56 #[.pointer (some qa0), .int .i64 qx1, .func (.func 62) #[.pointer (some qcl)] #[], .slice qa3 qn3 qc3] s56b = .scp (at_ Tryz.f56 [1, 0]) 35 (fx56_1 qa0 qx1 qcl qa3 qn3 qc3) L56_1 mr56_1 (fun u28 g28 => .done (.returned (.iface u28.1.1 u28.fst.2))) := by kernel_rfl
theorem chain_ok (s : ByteArray) (f : Nat) (hIH : LvOk s f .not) (w : World) (b : Nat) (st : PS) (kind : Nat) (ops : List Txt) (g : Nat) (hB : Beg w b s .not st) (hops : Blk w g (opCells ops) tStr_) (hgb : g ≠ b) (hop0 : ops ≠ []) (hlen : ops.length ≤ 10)
    (hne : (bindR (prs s.size f .not st) fun a st => loopB s.size (prs s.size f .not) kind ops f a st) ≠ .error (0, 0)) :
    Calls Tryz.prog 56 #[.pointer (some ⟨b, 0, none⟩), .int .i64 (kind : Nat), .func (.func 62) #[.pointer (some ⟨b, 0, none⟩)] #[], .slice (some ⟨g, 0, none⟩) ops.length ops.length] w
      (PostR b s w (relN w) (bindR (prs s.size f .not st) fun a st => loopB s.size (prs s.size f .not) kind ops f a st)) := by
  refine calls_of_fnT mixed Tryz.func56 (s := s56b) ?_
  rw [t56b]
  have hblt := hB.ps.lt
  have pass : ∀ (K : MVars m56_1 → World → Prop) (m : Nat) (v : MVars m56_1) (w1 : World) (a : N) (st1 : PS) (gg : Nat → Value),
      PsS w1 b s st1 → Ch (· = b) w w1 → relN w a (.iface v.1.1 v.1.2) w1 → (bindR (prs s.size f .not st) fun a st => loopB s.size (prs s.size f .not) kind ops f a st) = loopB s.size (prs s.size f .not) kind ops m a st1 →
      (∀ m' v' w' a' st', m' < m → PsS w' b s st' → Ch (· = b) w w' → relN w a' (.iface v'.1.1 v'.1.2) w' → (bindR (prs s.size f .not st) fun a st => loopB s.size (prs s.size f .not) kind ops f a st) = loopB s.size (prs s.size f .not) kind ops m' a' st' → K v' w') →
      wpT Tryz.prog (PostR b s w (relN w) (bindR (prs s.size f .not st) fun a st => loopB s.size (prs s.size f .not) kind ops f a st)) (afterG Tryz.prog (PostR b s w (relN w) (bindR (prs s.size f .not st) fun a st => loopB s.size (prs s.size f .not) kind ops f a st)) (fun _ _ _ => False) 0 m56_1 mr56_1 (fun u _ => .done (.returned (.iface u.1.1 u.1.2))) K)
        (pieceG Tryz.prog (from_ (at_ Tryz.f56 [1, 0]) 0) 35 (fx56_1 ⟨b, 0, none⟩ (kind : Nat) ⟨b, 0, none⟩ (some ⟨g, 0, none⟩) ops.length ops.length ++ mvals m56_1 v) gg [] [] (mr56_1.map (·.1)) (m56_1.map (·.1)) s56_1b) .pl w1 := by
    rintro K m ⟨⟨vt, vv⟩, ⟨⟩⟩ w1 a st1 gg P1 h1 r1 heq hK
    rw [t56_1b]
    generalize hX : (bindR (prs s.size f .not st) fun a st => loopB s.size (prs s.size f .not) kind ops f a st) = X at *
    cases m with
    | zero => exact absurd heq hne
    | succ m =>
    have hBX : ∀ {w' st'}, Ch (· = b) w w' → PsS w' b s st' → Beg w' b s .not st' := fun h1 hp => hB.go h1 hp (fun i h => by cases h)
    refine loopg_i mixed m56_16 s56_16 (by kernel_rfl) (by kernel_rfl)
      (fun (v : (TypeId × Value) × Int × Unit) w' => v.1 = (vt, vv) ∧ ∃ (i : Nat) (stx : PS), v.2.1 = (i : Nat) ∧ i ≤ ops.length ∧ PsS w' b s stx ∧ Ch (· = b) w w' ∧ relN w a (.iface vt vv) w' ∧ ((i = 0 ∧ stx = st1) ∨ ∃ t, peekB s.size st1 = .ok (t, stx) ∧ ∀ j u, j < i → ops[j]? = some u → isB t kind u = false))
      (fun (v : (TypeId × Value) × Int × Unit) _ => ops.length - v.2.1.toNat) ((vt, vv), 0, ()) rfl ⟨rfl, 0, st1, rfl, Nat.zero_le _, P1, h1, r1, .inl ⟨rfl, rfl⟩⟩ ?_
    rintro ⟨_, _, ⟨⟩⟩ g1 w2 ⟨rfl, i, stx, rfl, hi, P2, h2, r2, hst⟩
    rw [t56_16]
    dsimp only
    have hpk : ∀ t stx2, peekB s.size stx = .ok (t, stx2) → peekB s.size st1 = .ok (t, stx2) ∧ ∀ j u, j < i → ops[j]? = some u → isB t kind u = false := by
      intro t stx2 hp
      rcases hst with ⟨rfl, rfl⟩ | ⟨t', hp', hno⟩
      · exact ⟨hp, fun j u hj => by omega⟩
      · rw [(peekB_again hp').1] at hp
        simp only [Except.ok.injEq, Prod.mk.injEq] at hp
        obtain ⟨rfl, rfl⟩ := hp
        exact ⟨hp', hno⟩
    have heqm : loopB s.size (prs s.size f .not) kind ops (m + 1) a st1 = bindR (peekB s.size st1) fun t st => match opOf t kind ops with
      | none => .ok (a, st)
      | some op => bindR (prs s.size f .not (dropB st)) fun b st => loopB s.size (prs s.size f .not) kind ops m (.bin op a b) st := rfl
    refine br_both (fun e => ?_) fun e => ?_
    · have e : (i : Int) < (ops.length : Int) := lt_t e
      have hil : i < ops.length := by omega
      obtain ⟨op, hop⟩ : ∃ op, ops[i]? = some op := ⟨ops[i]'hil, List.getElem?_eq_getElem hil⟩
      have hcell : w2.cell? ⟨g, i, none⟩ = some (.string (bytesL op)) := h2.cellv (by rw [hops.cell]; simp [opCells, hop]) (fun e : g = b => hgb e)
      refine ix_i (by omega) (by omega) ?_
      rw [addr_add, Int.toNat_natCast, Nat.zero_add, Nat.mul_one]
      refine ld_str hcell (cpR (is_any w2 b s stx kind op P2 (hBX h2 P2).gl hB.big hB.sz) ?_ ?_)
      · intro x st3 v w3 hr h3 hv P3
        obtain rfl : v = .bool x := hv
        refine ⟨x, rfl, ?_⟩
        cases hp : peekB s.size stx with
        | error c => rw [hp] at hr; cases hr
        | ok y =>
        obtain ⟨t, stx2⟩ := y
        rw [hp] at hr
        simp only [bindR, Except.ok.injEq, Prod.mk.injEq] at hr
        obtain ⟨rfl, rfl⟩ := hr
        obtain ⟨hp1, hno⟩ := hpk t _ hp
        refine br_both (fun e1 => ?_) fun e1 => ?_
        · have hos := opOf_some hop e1 hno
          have heq2 : X = bindR (prs s.size f .not (dropB stx2)) fun b st => loopB s.size (prs s.size f .not) kind ops m (.bin op a b) st := by rw [heq, heqm, hp1]; simp only [bindR, hos]
          refine nextR (hBX (h2.trans h3) P3) (peekB_again hp1).1 fun w4 h4 P4 => ?_
          have h04 := (h2.trans h3).trans h4
          have hne2 : prs s.size f .not (dropB stx2) ≠ .error (0, 0) := fun h => hne (by rw [heq2, h]; rfl)
          refine cpR (hIH w4 b _ (hBX h04 P4) hne2) ?_ ?_
          · intro c st5 v w5 hr5 h5 r5 P5
            obtain ⟨y5, rfl⟩ := IsN.ifc r5
            refine ⟨y5, rfl, nw fun w6 h6 z6 b6 => ?_⟩
            refine ⟨rfl, ((_, _), ()), rfl, fun g => ⟨rfl, ((_, _), ()), rfl, ?_⟩⟩
            refine hK m _ w6 (.bin op a c) st5 (Nat.lt_succ_self m) (P5.ch h6 (fun h => h)) ((h04.trans h5).trans h6.no) ?_ (by rw [heq2, hr5]; rfl)
            show IsN _ _ _ _
            simp only [IsN]
            have hs45 := h4.size
            have hs5 := h5.size
            refine ⟨w5.heap.size, _, _, rfl, ⟨by have := h04.size; omega, by omega⟩, b6, ?_, ?_⟩
            · exact (r2.keep (Nat.le_refl _) hblt ((h3.trans h4).trans h5)).no (Nat.le_refl _) h6
            · exact r5.no h04.size h6
          · intro c e w5 hr5 h5 ht
            rw [heq2, hr5]
            exact PostR.err h04 h5 ht
        · refine ⟨((vt, vv), (IntKind.i64.wrap ((i : Int) + 1)), ()), rfl, ⟨rfl, i + 1, stx2, wrap_succ (by omega) (by omega), by omega, P3, h2.trans h3, r2.keep (Nat.le_refl _) hblt h3, .inr ⟨t, hp1, fun j u hj hu => ?_⟩⟩, ?_⟩
          · rcases (by omega : j < i ∨ j = i) with h | rfl
            · exact hno j u h hu
            · rw [hop] at hu
              obtain rfl := Option.some.inj hu
              exact e1
          · show ops.length - (IntKind.i64.wrap ((i : Int) + 1)).toNat < ops.length - ((i : Nat) : Int).toNat
            rw [wrap_succ (by omega) (by omega)]
            omega
      · intro c e w3 hr h3 ht
        cases hp : peekB s.size stx with
        | ok y => rw [hp] at hr; simp [bindR] at hr
        | error c' =>
          rw [hp] at hr
          obtain rfl : c' = c := by simpa [bindR] using hr
          rcases hst with ⟨rfl, rfl⟩ | ⟨t', hp', hno⟩
          · rw [heq, heqm, hp]
            exact PostR.err h2 h3 ht
          · rw [(peekB_again hp').1] at hp
            cases hp
    · have e : (ops.length : Int) ≤ (i : Int) := lt_f e
      have hlp : 0 < ops.length := List.length_pos_iff.2 hop0
      rcases hst with ⟨rfl, rfl⟩ | ⟨t, hp, hno⟩
      · omega
      have hon : opOf t kind ops = none := opOf_none fun u hu => by
        obtain ⟨j, hj, e⟩ := List.getElem_of_mem hu
        exact hno j u (by omega) (by rw [List.getElem?_eq_getElem hj, e])
      refine ⟨rfl, ((vt, vv), ()), rfl, fun g => ⟨((vt, vv), ()), rfl, fun g => ?_⟩⟩
      refine ⟨h2, ?_⟩
      rw [heq, heqm, hp]
      simp only [bindR, hon]
      exact ⟨_, rfl, r2, P2⟩
  refine scp_i mixed 0 (rest := from_ (at_ Tryz.f56 [1, 0]) 0) (by kernel_rfl) m56_1 s56_1a s56_1b (by kernel_rfl) (by kernel_rfl) (by kernel_rfl) (by kernel_rfl)
    (fun m v w' => ∃ a st', PsS w' b s st' ∧ Ch (· = b) w w' ∧ relN w a (.iface v.1.1 v.1.2) w' ∧ (bindR (prs s.size f .not st) fun a st => loopB s.size (prs s.size f .not) kind ops f a st) = loopB s.size (prs s.size f .not) kind ops m a st') (fun g0 => ?_) ?_
  · rw [t56_1a]
    refine cpR (hIH w b st hB (fun h => hne (by rw [h]; rfl))) ?_ ?_
    · intro a st1 v w1 hr h1 r1 P1
      obtain ⟨y, rfl⟩ := IsN.ifc r1
      refine ⟨y, rfl, ?_⟩
      have h := pass (fun v w' => ∃ m a st', PsS w' b s st' ∧ Ch (· = b) w w' ∧ relN w a (.iface v.1.1 v.1.2) w' ∧ (bindR (prs s.size f .not st) fun a st => loopB s.size (prs s.size f .not) kind ops f a st) = loopB s.size (prs s.size f .not) kind ops m a st') f (y, ()) w1 a st1 g0 P1 h1 r1 (by rw [hr]; rfl) (fun m' v' w' a' st' _ h1 h2 h3 h4 => ⟨m', a', st', h1, h2, h3, h4⟩)
      rw [t56_1b] at h
      exact h
    · intro c e w1 hr h1 ht
      rw [hr]
      exact PostR.err (Ch.refl _ _) h1 ht
  · rintro m v g1 w1 ⟨a, st1, P1, h1, r1, heq⟩
    exact pass _ m v w1 a st1 g1 P1 h1 r1 heq (fun m' v' w' a' st' hm h1 h2 h3 h4 => ⟨m', ⟨a', st', h1, h2, h3, h4⟩, hm⟩)
end CB
namespace CC
/-! the tree of function 3002 -/
abbrev fx56_1 (qa0 : Addr) (qx1 : Int) (qcl : Addr) (qa3 : Option Addr) (qn3 : Nat) (qc3 : Nat) : List (Tmp × Value) := [(0, .pointer (some qa0)), (1, .int .i64 qx1), (2, .func (.func 93) #[.pointer (some qcl)] #[]), (3, .slice qa3 qn3 qc3)]
abbrev L56_1 : List (Tmp × Value) := []
abbrev m56_1 : List (Tmp × Comp) := [(9, .leaf .ifc)]
abbrev mr56_1 : List (Tmp × Comp) := [(8, .leaf .ifc)]
abbrev fx56_3 (qa0 : Addr) (qx1 : Int) (qcl : Addr) (qa3 : Option Addr) (qn3 : Nat) (qc3 : Nat) (gg1 : Nat → Value) : List (Tmp × Value) := [(0, .pointer (some qa0)), (1, .int .i64 qx1), (2, .func (.func 93) #[.pointer (some qcl)] #[]), (3, .slice qa3 qn3 qc3), (8, gg1 8), (14, .slice qa3 qn3 qc3), (15, .int .i64 (↑qn3 : Int))]
abbrev mx56_3 : List (Tmp × Comp) := [(9, .leaf .ifc)]
abbrev mr56_3 : List (Tmp × Comp) := [(9, .leaf .ifc)]
def s56_1a : Script := .clp (.one (.leaf .ifc)) (.lpg 0 0 [0, 1, 2, 3, 8, 14, 15] [9, 16] mx56_3 mr56_3 .nil .nil) .nil
theorem t56_1a (qa0 : Addr) (qx1 : Int) (qcl : Addr) (qa3 : Option Addr) (qn3 : Nat) (qc3 : Nat) (gg1 : Nat → Value) : pieceG Tryz.prog (at_ Tryz.f56 [1, 0]) 35 (fx56_1 qa0 qx1 qcl qa3 qn3 qc3 ++ L56_1) gg1 [] [] (mr56_1.map (·.1)) (m56_1.map (·.1)) s56_1a = .callp 93 #[.pointer (some qcl)] (.one (.leaf .ifc)) (fun i2 => .loopg (at_ Tryz.f56 [1, 0, 1, 1, 0, 1, 0, 0]) 35 (fx56_3 qa0 qx1 qcl qa3 qn3 qc3 gg1) [(9, .iface i2.1 i2.2), (16, .int .i64 0)] mx56_3 mr56_3 0 0 (fun u13 g13 => .fin .ret [(8, .iface u13.1.1 u13.fst.2)]) (fun u14 g14 => .fin (.goto 0) [(9, .iface u14.1.1 u14.fst.2)])) (fun ch15 => .done (.panicked ch15)) := by kernel_rfl
abbrev fx56_16 (qa0 : Addr) (qx1 : Int) (qcl : Addr) (qa3 : Option Addr) (qn3 : Nat) (qc3 : Nat) (gg1 : Nat → Value) : List (Tmp × Value) := [(0, .pointer (some qa0)), (1, .int .i64 qx1), (2, .func (.func 93) #[.pointer (some qcl)] #[]), (3, .slice qa3 qn3 qc3), (8, gg1 8), (14, .slice qa3 qn3 qc3), (15, .int .i64 (↑qn3 : Int))]
abbrev m56_16 : List (Tmp × Comp) := [(9, .leaf .ifc), (16, .leaf (.int .i64))]
abbrev mx56_16 : List (Tmp × Comp) := [(9, .leaf .ifc)]
abbrev mr56_16 : List (Tmp × Comp) := [(9, .leaf .ifc)]
def s56_16 : Script := .sym (.ix (.ld .str (.clp (.one (.leaf .bool)) (.sym (.clp (.one (.agg [.int .i64, .int .i64, .str, .int .i64])) (.clp (.one (.leaf .ifc)) .nil .nil) .nil) .nil) .nil))) .nil
theorem t56_16 (qa0 : Addr) (qx1 : Int) (qcl : Addr) (qa3 : Option Addr) (qn3 : Nat) (qc3 : Nat) (gg1 : Nat → Value) (i_9 : TypeId × Value) (x_16 : Int) (gg16 : Nat → Value) : pieceG Tryz.prog (at_ Tryz.f56 [1, 0, 1, 1, 0, 1, 0, 0]) 35 (fx56_16 qa0 qx1 qcl qa3 qn3 qc3 gg1 ++ mvals m56_16 (i_9, x_16, ())) gg16 (m56_16.map (·.1)) (mx56_16.map (·.1)) [] (mr56_16.map (·.1)) s56_16 = .br (Decidable.decide (x_16 < (↑qn3 : Int))) (.idx qa3 x_16 qn3 1 (fun a17 => .load a17 .str (fun s18 => .callp 51 #[.pointer (some qa0), .int .i64 qx1, .string s18] (.one (.leaf .bool)) (fun b19 => .br b19 (.callp 53 #[.pointer (some qa0)] (.one (.agg [.int .i64, .int .i64, .str, .int .i64])) (fun r20 => .callp 93 #[.pointer (some qcl)] (.one (.leaf .ifc)) (fun i21 => .new (.cells #[.string s18, .iface i_9.1 i_9.2, .iface i21.1 i21.2] 116 (0, 0)) (fun n22 => .fin (.goto 0) [(9, .iface 114 (.pointer (some ⟨n22, 0, none⟩)))])) (fun ch23 => .done (.panicked ch23))) (fun ch24 => .done (.panicked ch24))) (.fin .normal [(9, .iface i_9.1 i_9.2), (16, .int .i64 (IntKind.i64.wrap (x_16 + 1)))])) (fun ch25 => .done (.panicked ch25))))) (.fin (.exit 0) [(9, .iface i_9.1 i_9.2)]) := by kernel_rfl
def s56_1b : Script := .lpg 0 0 [0, 1, 2, 3, 8, 14, 15] [9, 16] mx56_16 mr56_16 .nil .nil
theorem t56_1b (qa0 : Addr) (qx1 : Int) (qcl : Addr) (qa3 : Option Addr) (qn3 : Nat) (qc3 : Nat) (i_9 : TypeId × Value) (gg1 : Nat → Value) : pieceG Tryz.prog (from_ (at_ Tryz.f56 [1, 0]) 0) 35 (fx56_1 qa0 qx1 qcl qa3 qn3 qc3 ++ mvals m56_1 (i_9, ())) gg1 [] [] (mr56_1.map (·.1)) (m56_1.map (·.1)) s56_1b = .loopg (at_ Tryz.f56 [1, 0, 1, 1, 0, 1, 0, 0]) 35 (fx56_16 qa0 qx1 qcl qa3 qn3 qc3 gg1) [(9, .iface i_9.1 i_9.2), (16, .int .i64 0)] mx56_16 mr56_16 0 0 (fun u26 g26 => .fin .ret [(8, .iface u26.1.1 u26.fst.2)]) (fun u27 g27 => .fin (.goto 0) [(9, .iface u27.1.1 u27.fst.2)]) := by kernel_rfl
def s56c : Script := .gt [0, 1, 2, 3] [] mr56_1 .nil
theorem t56c (qa0 : Addr) (qx1 : Int) (qcl : Addr) (qa3 : Option Addr) (qn3 : Nat) (qc3 : Nat) : fnT Tryz.prog Tryz.f56 #[.pointer (some qa0), .int .i64 qx1, .func (.func 93) #[.pointer (some qcl)] #[], .slice qa3 qn3 qc3] s56c = .scp (at_ Tryz.f56 [1, 0]) 35 (fx56_1 qa0 qx1 qcl qa3 qn3 qc3) L56_1 mr56_1 (fun u28 g28 => .done (.returned (.iface u28.1.1 u28.fst.2))) := by kernel_rfl
theorem chain_ok (s : ByteArray) (f : Nat) (hIH : LvOk s f .term) (w : World) (b : Nat) (st : PS) (kind : Nat) (ops : List Txt) (g : Nat) (hB : Beg w b s .term st) (hops : Blk w g (opCells ops) tStr_) (hgb : g ≠ b) (hop0 : ops ≠ []) (hlen : ops.length ≤ 10)
    (hne : (bindR (prs s.size f .term st) fun a st => loopB s.size (prs s.size f .term) kind ops f a st) ≠ .error (0, 0)) :
    Calls Tryz.prog 56 #[.pointer (some ⟨b, 0, none⟩), .int .i64 (kind : Nat), .func (.func 93) #[.pointer (some ⟨b, 0, none⟩)] #[], .slice (some ⟨g, 0, none⟩) ops.length ops.length] w
      (PostR b s w (relN w) (bindR (prs s.size f .term st) fun a st => loopB s.size (prs s.size f .term) kind ops f a st)) := by
  refine calls_of_fnT mixed Tryz.func56 (s := s56c) ?_
  rw [t56c]
  have hblt := hB.ps.lt
  have pass : ∀ (K : MVars m56_1 → World → Prop) (m : Nat) (v : MVars m56_1) (w1 : World) (a : N) (st1 : PS) (gg : Nat → Value),
      PsS w1 b s st1 → Ch (· = b) w w1 → relN w a (.iface v.1.1 v.1.2) w1 → (bindR (prs s.size f .term st) fun a st => loopB s.size (prs s.size f .term) kind ops f a st) = loopB s.size (prs s.size f .term) kind ops m a st1 →
      (∀ m' v' w' a' st', m' < m → PsS w' b s st' → Ch (· = b) w w' → relN w a' (.iface v'.1.1 v'.1.2) w' → (bindR (prs s.size f .term st) fun a st => loopB s.size (prs s.size f .term) kind ops f a st) = loopB s.size (prs s.size f .term) kind ops m' a' st' → K v' w') →
      wpT Tryz.prog (PostR b s w (relN w) (bindR (prs s.size f .term st) fun a st => loopB s.size (prs s.size f .term) kind ops f a st)) (afterG Tryz.prog (PostR b s w (relN w) (bindR (prs s.size f .term st) fun a st => loopB s.size (prs s.size f .term) kind ops f a st)) (fun _ _ _ => False) 0 m56_1 mr56_1 (fun u _ => .done (.returned (.iface u.1.1 u.1.2))) K)
        (pieceG Tryz.prog (from_ (at_ Tryz.f56 [1, 0]) 0) 35 (fx56_1 ⟨b, 0, none⟩ (kind : Nat) ⟨b, 0, none⟩ (some ⟨g, 0, none⟩) ops.length ops.length ++ mvals m56_1 v) gg [] [] (mr56_1.map (·.1)) (m56_1.map (·.1)) s56_1b) .pl w1 := by
    rintro K m ⟨⟨vt, vv⟩, ⟨⟩⟩ w1 a st1 gg P1 h1 r1 heq hK
    rw [t56_1b]
    generalize hX : (bindR (prs s.size f .term st) fun a st => loopB s.size (prs s.size f .term) kind ops f a st) = X at *
    cases m with
    | zero => exact absurd heq hne
    | succ m =>
    have hBX : ∀ {w' st'}, Ch (· = b) w w' → PsS w' b s st' → Beg w' b s .term st' := fun h1 hp => hB.go h1 hp (fun i h => by cases h)
    refine loopg_i mixed m56_16 s56_16 (by kernel_rfl) (by kernel_rfl)
      (fun (v : (TypeId × Value) × Int × Unit) w' => v.1 = (vt, vv) ∧ ∃ (i : Nat) (stx : PS), v.2.1 = (i : Nat) ∧ i ≤ ops.length ∧ PsS w' b s stx ∧ Ch (· = b) w w' ∧ relN w a (.iface vt vv) w' ∧ ((i = 0 ∧ stx = st1) ∨ ∃ t, peekB s.size st1 = .ok (t, stx) ∧ ∀ j u, j < i → ops[j]? = some u → isB t kind u = false))
      (fun (v : (TypeId × Value) × Int × Unit) _ => ops.length - v.2.1.toNat) ((vt, vv), 0, ()) rfl ⟨rfl, 0, st1, rfl, Nat.zero_le _, P1, h1, r1, .inl ⟨rfl, rfl⟩⟩ ?_
    rintro ⟨_, _, ⟨⟩⟩ g1 w2 ⟨rfl, i, stx, rfl, hi, P2, h2, r2, hst⟩
    rw [t56_16]
    dsimp only
    have hpk : ∀ t stx2, peekB s.size stx = .ok (t, stx2) → peekB s.size st1 = .ok (t, stx2) ∧ ∀ j u, j < i → ops[j]? = some u → isB t kind u = false := by
      intro t stx2 hp
      rcases hst with ⟨rfl, rfl⟩ | ⟨t', hp', hno⟩
      · exact ⟨hp, fun j u hj => by omega⟩
      · rw [(peekB_again hp').1] at hp
        simp only [Except.ok.injEq, Prod.mk.injEq] at hp
        obtain ⟨rfl, rfl⟩ := hp
        exact ⟨hp', hno⟩
    have heqm : loopB s.size (prs s.size f .term) kind ops (m + 1) a st1 = bindR (peekB s.size st1) fun t st => match opOf t kind ops with
      | none => .ok (a, st)
      | some op => bindR (prs s.size f .term (dropB st)) fun b st => loopB s.size (prs s.size f .term) kind ops m (.bin op a b) st := rfl
    refine br_both (fun e => ?_) fun e => ?_
    · have e : (i : Int) < (ops.length : Int) := lt_t e
      have hil : i < ops.length := by omega
      obtain ⟨op, hop⟩ : ∃ op, ops[i]? = some op := ⟨ops[i]'hil, List.getElem?_eq_getElem hil⟩
      have hcell : w2.cell? ⟨g, i, none⟩ = some (.string (bytesL op)) := h2.cellv (by rw [hops.cell]; simp [opCells, hop]) (fun e : g = b => hgb e)
      refine ix_i (by omega) (by omega) ?_
      rw [addr_add, Int.toNat_natCast, Nat.zero_add, Nat.mul_one]
      refine ld_str hcell (cpR (is_any w2 b s stx kind op P2 (hBX h2 P2).gl hB.big hB.sz) ?_ ?_)
      · intro x st3 v w3 hr h3 hv P3
        obtain rfl : v = .bool x := hv
        refine ⟨x, rfl, ?_⟩
        cases hp : peekB s.size stx with
        | error c => rw [hp] at hr; cases hr
        | ok y =>
        obtain ⟨t, stx2⟩ := y
        rw [hp] at hr
        simp only [bindR, Except.ok.injEq, Prod.mk.injEq] at hr
        obtain ⟨rfl, rfl⟩ := hr
        obtain ⟨hp1, hno⟩ := hpk t _ hp
        refine br_both (fun e1 => ?_) fun e1 => ?_
        · have hos := opOf_some hop e1 hno
          have heq2 : X = bindR (prs s.size f .term (dropB stx2)) fun b st => loopB s.size (prs s.size f .term) kind ops m (.bin op a b) st := by rw [heq, heqm, hp1]; simp only [bindR, hos]
          refine nextR (hBX (h2.trans h3) P3) (peekB_again hp1).1 fun w4 h4 P4 => ?_
          have h04 := (h2.trans h3).trans h4
          have hne2 : prs s.size f .term (dropB stx2) ≠ .error (0, 0) := fun h => hne (by rw [heq2, h]; rfl)
          refine cpR (hIH w4 b _ (hBX h04 P4) hne2) ?_ ?_
          · intro c st5 v w5 hr5 h5 r5 P5
            obtain ⟨y5, rfl⟩ := IsN.ifc r5
            refine ⟨y5, rfl, nw fun w6 h6 z6 b6 => ?_⟩
            refine ⟨rfl, ((_, _), ()), rfl, fun g => ⟨rfl, ((_, _), ()), rfl, ?_⟩⟩
            refine hK m _ w6 (.bin op a c) st5 (Nat.lt_succ_self m) (P5.ch h6 (fun h => h)) ((h04.trans h5).trans h6.no) ?_ (by rw [heq2, hr5]; rfl)
            show IsN _ _ _ _
            simp only [IsN]
            have hs45 := h4.size
            have hs5 := h5.size
            refine ⟨w5.heap.size, _, _, rfl, ⟨by have := h04.size; omega, by omega⟩, b6, ?_, ?_⟩
            · exact (r2.keep (Nat.le_refl _) hblt ((h3.trans h4).trans h5)).no (Nat.le_refl _) h6
            · exact r5.no h04.size h6
          · intro c e w5 hr5 h5 ht
            rw [heq2, hr5]
            exact PostR.err h04 h5 ht
        · refine ⟨((vt, vv), (IntKind.i64.wrap ((i : Int) + 1)), ()), rfl, ⟨rfl, i + 1, stx2, wrap_succ (by omega) (by omega), by omega, P3, h2.trans h3, r2.keep (Nat.le_refl _) hblt h3, .inr ⟨t, hp1, fun j u hj hu => ?_⟩⟩, ?_⟩
          · rcases (by omega : j < i ∨ j = i) with h | rfl
            · exact hno j u h hu
            · rw [hop] at hu
              obtain rfl := Option.some.inj hu
              exact e1
          · show ops.length - (IntKind.i64.wrap ((i : Int) + 1)).toNat < ops.length - ((i : Nat) : Int).toNat
            rw [wrap_succ (by omega) (by omega)]
            omega
      · intro c e w3 hr h3 ht
        cases hp : peekB s.size stx with
        | ok y => rw [hp] at hr; simp [bindR] at hr
        | error c' =>
          rw [hp] at hr
          obtain rfl : c' = c := by simpa [bindR] using hr
          rcases hst with ⟨rfl, rfl⟩ | ⟨t', hp', hno⟩
          · rw [heq, heqm, hp]
            exact PostR.err h2 h3 ht
          · rw [(peekB_again hp').1] at hp
            cases hp
    · have e : (ops.length : Int) ≤ (i : Int) := lt_f e
      have hlp : 0 < ops.length := List.length_pos_iff.2 hop0
      rcases hst with ⟨rfl, rfl⟩ | ⟨t, hp, hno⟩
      · omega
      have hon : opOf t kind ops = none := opOf_none fun u hu => by
        obtain ⟨j, hj, e⟩ := List.getElem_of_mem hu
        exact hno j u (by omega) (by rw [List.getElem?_eq_getElem hj, e])
      refine ⟨rfl, ((vt, vv), ()), rfl, fun g => ⟨((vt, vv), ()), rfl, fun g => ?_⟩⟩
      refine ⟨h2, ?_⟩
      rw [heq, heqm, hp]
      simp only [bindR, hon]
      exact ⟨_, rfl, r2, P2⟩
  refine scp_i mixed 0 (rest := from_ (at_ Tryz.f56 [1, 0]) 0) (by kernel_rfl) m56_1 s56_1a s56_1b (by kernel_rfl) (by kernel_rfl) (by kernel_rfl) (by kernel_rfl)
    (fun m v w' => ∃ a st', PsS w' b s st' ∧ Ch (· = b) w w' ∧ relN w a (.iface v.1.1 v.1.2) w' ∧ (bindR (prs s.size f .term st) fun a st => loopB s.size (prs s.size f .term) kind ops f a st) = loopB s.size (prs s.size f .term) kind ops m a st') (fun g0 => ?_) ?_
  · rw [t56_1a]
    refine cpR (hIH w b st hB (fun h => hne (by rw [h]; rfl))) ?_ ?_
    · intro a st1 v w1 hr h1 r1 P1
      obtain ⟨y, rfl⟩ := IsN.ifc r1
      refine ⟨y, rfl, ?_⟩
      have h := pass (fun v w' => ∃ m a st', PsS w' b s st' ∧ Ch (· = b) w w' ∧ relN w a (.iface v.1.1 v.1.2) w' ∧ (bindR (prs s.size f .term st) fun a st => loopB s.size (prs s.size f .term) kind ops f a st) = loopB s.size (prs s.size f .term) kind ops m a st') f (y, ()) w1 a st1 g0 P1 h1 r1 (by rw [hr]; rfl) (fun m' v' w' a' st' _ h1 h2 h3 h4 => ⟨m', a', st', h1, h2, h3, h4⟩)
      rw [t56_1b] at h
      exact h
    · intro c e w1 hr h1 ht
      rw [hr]
      exact PostR.err (Ch.refl _ _) h1 ht
  · rintro m v g1 w1 ⟨a, st1, P1, h1, r1, heq⟩
    exact pass _ m v w1 a st1 g1 P1 h1 r1 heq (fun m' v' w' a' st' hm h1 h2 h3 h4 => ⟨m', ⟨a', st', h1, h2, h3, h4⟩, hm⟩)
end CC
namespace CD
/-! the tree of function 3003 -/
abbrev fx56_1 (qa0 : Addr) (qx1 : Int) (qcl : Addr) (qa3 : Option Addr) (qn3 : Nat) (qc3 : Nat) : List (Tmp × Value) := [(0, .pointer (some qa0)), (1, .int .i64 qx1), (2, .func (.func 114) #[.pointer (some qcl)] #[]), (3, .slice qa3 qn3 qc3)]
abbrev L56_1 : List (Tmp × Value) := []
abbrev m56_1 : List (Tmp × Comp) := [(9, .leaf .ifc)]
abbrev mr56_1 : List (Tmp × Comp) := [(8, .leaf .ifc)]
abbrev fx56_3 (qa0 : Addr) (qx1 : Int) (qcl : Addr) (qa3 : Option Addr) (qn3 : Nat) (qc3 : Nat) (gg1 : Nat → Value) : List (Tmp × Value) := [(0, .pointer (some qa0)), (1, .int .i64 qx1), (2, .func (.func 114) #[.pointer (some qcl)] #[]), (3, .slice qa3 qn3 qc3), (8, gg1 8), (14, .slice qa3 qn3 qc3), (15, .int .i64 (↑qn3 : Int))]
abbrev mx56_3 : List (Tmp × Comp) := [(9, .leaf .ifc)]
abbrev mr56_3 : List (Tmp × Comp) := [(9, .leaf .ifc)]
def s56_1a : Script := .clp (.one (.leaf .ifc)) (.lpg 0 0 [0, 1, 2, 3, 8, 14, 15] [9, 16] mx56_3 mr56_3 .nil .nil) .nil
theorem t56_1a (qa0 : Addr) (qx1 : Int) (qcl : Addr) (qa3 : Option Addr) (qn3 : Nat) (qc3 : Nat) (gg1 : Nat → Value) : pieceG Tryz.prog (at_ Tryz.f56 [1, 0]) 35 (fx56_1 qa0 qx1 qcl qa3 qn3 qc3 ++ L56_1) gg1 [] [] (mr56_1.map (·.1)) (m56_1.map (·.1)) s56_1a = .callp 114 #[.pointer (some qcl)] (.one (.leaf .ifc)) (fun i2 => .loopg (at_ Tryz.f56 [1, 0, 1, 1, 0, 1, 0, 0]) 35 (fx56_3 qa0 qx1 qcl qa3 qn3 qc3 gg1) [(9, .iface i2.1 i2.2), (16, .int .i64 0)] mx56_3 mr56_3 0 0 (fun u13 g13 => .fin .ret [(8, .iface u13.1.1 u13.fst.2)]) (fun u14 g14 => .fin (.goto 0) [(9, .iface u14.1.1 u14.fst.2)])) (fun ch15 => .done (.panicked ch15)) := by kernel_rfl
abbrev fx56_16 (qa0 : Addr) (qx1 : Int) (qcl : Addr) (qa3 : Option Addr) (qn3 : Nat) (qc3 : Nat) (gg1 : Nat → Value) : List (Tmp × Value) := [(0, .pointer (some qa0)), (1, .int .i64 qx1), (2, .func (.func 114) #[.pointer (some qcl)] #[]), (3, .slice qa3 qn3 qc3), (8, gg1 8), (14, .slice qa3 qn3 qc3), (15, .int .i64 (↑qn3 : Int))]
abbrev m56_16 : List (Tmp × Comp) := [(9, .leaf .ifc), (16, .leaf (.int .i64))]
abbrev mx56_16 : List (Tmp × Comp) := [(9, .leaf .ifc)]
abbrev mr56_16 : List (Tmp × Comp) := [(9, .leaf .ifc)]
def s56_16 : Script := .sym (.ix (.ld .str (.clp (.one (.leaf .bool)) (.sym (.clp (.one (.agg [.int .i64, .int .i64, .str, .int .i64])) (.clp (.one (.leaf .ifc)) .nil .nil) .nil) .nil) .nil))) .nil
theorem t56_16 (qa0 : Addr) (qx1 : Int) (qcl : Addr) (qa3 : Option Addr) (qn3 : Nat) (qc3 : Nat) (gg1 : Nat → Value) (i_9 : TypeId × Value) (x_16 : Int) (gg16 : Nat → Value) : pieceG Tryz.prog (at_ Tryz.f56 [1, 0, 1, 1, 0, 1, 0, 0]) 35 (fx56_16 qa0 qx1 qcl qa3 qn3 qc3 gg1 ++ mvals m56_16 (i_9, x_16, ())) gg16 (m56_16.map (·.1)) (mx56_16.map (·.1)) [] (mr56_16.map (·.1)) s56_16 = .br (Decidable.decide (x_16 < (↑qn3 : Int))) (.idx qa3 x_16 qn3 1 (fun a17 => .load a17 .str (fun s18 => .callp 51 #[.pointer (some qa0), .int .i64 qx1, .string s18] (.one (.leaf .bool)) (fun b19 => .br b19 (.callp 53 #[.pointer (some qa0)] (.one (.agg [.int .i64, .int .i64, .str, .int .i64])) (fun r20 => .callp 114 #[.pointer (some qcl)] (.one (.leaf .ifc)) (fun i21 => .new (.cells #[.string s18, .iface i_9.1 i_9.2, .iface i21.1 i21.2] 116 (0, 0)) (fun n22 => .fin (.goto 0) [(9, .iface 114 (.pointer (some ⟨n22, 0, none⟩)))])) (fun ch23 => .done (.panicked ch23))) (fun ch24 => .done (.panicked ch24))) (.fin .normal [(9, .iface i_9.1 i_9.2), (16, .int .i64 (IntKind.i64.wrap (x_16 + 1)))])) (fun ch25 => .done (.panicked ch25))))) (.fin (.exit 0) [(9, .iface i_9.1 i_9.2)]) := by kernel_rfl
def s56_1b : Script := .lpg 0 0 [0, 1, 2, 3, 8, 14, 15] [9, 16] mx56_16 mr56_16 .nil .nil
theorem t56_1b (qa0 : Addr) (qx1 : Int) (qcl : Addr) (qa3 : Option Addr) (qn3 : Nat) (qc3 : Nat) (i_9 : TypeId × Value) (gg1 : Nat → Value) : pieceG Tryz.prog (from_ (at_ Tryz.f56 [1, 0]) 0) 35 (fx56_1 qa0 qx1 qcl qa3 qn3 qc3 ++ mvals m56_1 (i_9, ())) gg1 [] [] (mr56_1.map (·.1)) (m56_1.map (·.1)) s56_1b = .loopg (at_ Tryz.f56 [1, 0, 1, 1, 0, 1, 0, 0]) 35 (fx56_16 qa0 qx1 qcl qa3 qn3 qc3 gg1) [(9, .iface i_9.1 i_9.2), (16, .int .i64 0)] mx56_16 mr56_16 0 0 (fun u26 g26 => .fin .ret [(8, .iface u26.1.1 u26.fst.2)]) (fun u27 g27 => .fin (.goto 0) [(9, .iface u27.1.1 u27.fst.2)]) := by kernel_rfl
def s56d : Script := .gt [0, 1, 2, 3] [] mr56_1 .nil
theorem t56d (qa0 : Addr) (qx1 : Int) (qcl : Addr) (qa3 : Option Addr) (qn3 : Nat) (qc3 : Nat) : fnT Tryz.prog Tryz.f56 #[.pointer (some qa0), .int .i64 qx1, .func (.func 114) #[.pointer (some qcl)] #[], .slice qa3 qn3 qc3] s56d = .scp (at_ Tryz.f56 [1, 0]) 35 (fx56_1 qa0 qx1 qcl qa3 qn3 qc3) L56_1 mr56_1 (fun u28 g28 => .done (.returned (.iface u28.1.1 u28.fst.2))) := by kernel_rfl
theorem chain_ok (s : ByteArray) (f : Nat) (hIH : LvOk s f .neg) (w : World) (b : Nat) (st : PS) (kind : Nat) (ops : List Txt) (g : Nat) (hB : Beg w b s .neg st) (hops : Blk w g (opCells ops) tStr_) (hgb : g ≠ b) (hop0 : ops ≠ []) (hlen : ops.length ≤ 10)
    (hne : (bindR (prs s.size f .neg st) fun a st => loopB s.size (prs s.size f .neg) kind ops f a st) ≠ .error (0, 0)) :
    Calls Tryz.prog 56 #[.pointer (some ⟨b, 0, none⟩), .int .i64 (kind : Nat), .func (.func 114) #[.pointer (some ⟨b, 0, none⟩)] #[], .slice (some ⟨g, 0, none⟩) ops.length ops.length] w
      (PostR b s w (relN w) (bindR (prs s.size f .neg st) fun a st => loopB s.size (prs s.size f .neg) kind ops f a st)) := by
  refine calls_of_fnT mixed Tryz.func56 (s := s56d) ?_
  rw [t56d]
  have hblt := hB.ps.lt
  have pass : ∀ (K : MVars m56_1 → World → Prop) (m : Nat) (v : MVars m56_1) (w1 : World) (a : N) (st1 : PS) (gg : Nat → Value),
      PsS w1 b s st1 → Ch (· = b) w w1 → relN w a (.iface v.1.1 v.1.2) w1 → (bindR (prs s.size f .neg st) fun a st => loopB s.size (prs s.size f .neg) kind ops f a st) = loopB s.size (prs s.size f .neg) kind ops m a st1 →
      (∀ m' v' w' a' st', m' < m → PsS w' b s st' → Ch (· = b) w w' → relN w a' (.iface v'.1.1 v'.1.2) w' → (bindR (prs s.size f .neg st) fun a st => loopB s.size (prs s.size f .neg) kind ops f a st) = loopB s.size (prs s.size f .neg) kind ops m' a' st' → K v' w') →
      wpT Tryz.prog (PostR b s w (relN w) (bindR (prs s.size f .neg st) fun a st => loopB s.size (prs s.size f .neg) kind ops f a st)) (afterG Tryz.prog (PostR b s w (relN w) (bindR (prs s.size f .neg st) fun a st => loopB s.size (prs s.size f .neg) kind ops f a st)) (fun _ _ _ => False) 0 m56_1 mr56_1 (fun u _ => .done (.returned (.iface u.1.1 u.1.2))) K)
        (pieceG Tryz.prog (from_ (at_ Tryz.f56 [1, 0]) 0) 35 (fx56_1 ⟨b, 0, none⟩ (kind : Nat) ⟨b, 0, none⟩ (some ⟨g, 0, none⟩) ops.length ops.length ++ mvals m56_1 v) gg [] [] (mr56_1.map (·.1)) (m56_1.map (·.1)) s56_1b) .pl w1 := by
    rintro K m ⟨⟨vt, vv⟩, ⟨⟩⟩ w1 a st1 gg P1 h1 r1 heq hK
    rw [t56_1b]
    generalize hX : (bindR (prs s.size f .neg st) fun a st => loopB s.size (prs s.size f .neg) kind ops f a st) = X at *
    cases m with
    | zero => exact absurd heq hne
    | succ m =>
    have hBX : ∀ {w' st'}, Ch (· = b) w w' → PsS w' b s st' → Beg w' b s .neg st' := fun h1 hp => hB.go h1 hp (fun i h => by cases h)
    refine loopg_i mixed m56_16 s56_16 (by kernel_rfl) (by kernel_rfl)
      (fun (v : (TypeId × Value) × Int × Unit) w' => v.1 = (vt, vv) ∧ ∃ (i : Nat) (stx : PS), v.2.1 = (i : Nat) ∧ i ≤ ops.length ∧ PsS w' b s stx ∧ Ch (· = b) w w' ∧ relN w a (.iface vt vv) w' ∧ ((i = 0 ∧ stx = st1) ∨ ∃ t, peekB s.size st1 = .ok (t, stx) ∧ ∀ j u, j < i → ops[j]? = some u → isB t kind u = false))
      (fun (v : (TypeId × Value) × Int × Unit) _ => ops.length - v.2.1.toNat) ((vt, vv), 0, ()) rfl ⟨rfl, 0, st1, rfl, Nat.zero_le _, P1, h1, r1, .inl ⟨rfl, rfl⟩⟩ ?_
    rintro ⟨_, _, ⟨⟩⟩ g1 w2 ⟨rfl, i, stx, rfl, hi, P2, h2, r2, hst⟩
    rw [t56_16]
    dsimp only
    have hpk : ∀ t stx2, peekB s.size stx = .ok (t, stx2) → peekB s.size st1 = .ok (t, stx2) ∧ ∀ j u, j < i → ops[j]? = some u → isB t kind u = false := by
      intro t stx2 hp
      rcases hst with ⟨rfl, rfl⟩ | ⟨t', hp', hno⟩
      · exact ⟨hp, fun j u hj => by omega⟩
      · rw [(peekB_again hp').1] at hp
        simp only [Except.ok.injEq, Prod.mk.injEq] at hp
        obtain ⟨rfl, rfl⟩ := hp
        exact ⟨hp', hno⟩
    have heqm : loopB s.size (prs s.size f .neg) kind ops (m + 1) a st1 = bindR (peekB s.size st1) fun t st => match opOf t kind ops with
      | none => .ok (a, st)
      | some op => bindR (prs s.size f .neg (dropB st)) fun b st => loopB s.size (prs s.size f .neg) kind ops m (.bin op a b) st := rfl
    refine br_both (fun e => ?_) fun e => ?_
    · have e : (i : Int) < (ops.length : Int) := lt_t e
      have hil : i < ops.length := by omega
      obtain ⟨op, hop⟩ : ∃ op, ops[i]? = some op := ⟨ops[i]'hil, List.getElem?_eq_getElem hil⟩
      have hcell : w2.cell? ⟨g, i, none⟩ = some (.string (bytesL op)) := h2.cellv (by rw [hops.cell]; simp [opCells, hop]) (fun e : g = b => hgb e)
      refine ix_i (by omega) (by omega) ?_
      rw [addr_add, Int.toNat_natCast, Nat.zero_add, Nat.mul_one]
      refine ld_str hcell (cpR (is_any w2 b s stx kind op P2 (hBX h2 P2).gl hB.big hB.sz) ?_ ?_)
      · intro x st3 v w3 hr h3 hv P3
        obtain rfl : v = .bool x := hv
        refine ⟨x, rfl, ?_⟩
        cases hp : peekB s.size stx with
        | error c => rw [hp] at hr; cases hr
        | ok y =>
        obtain ⟨t, stx2⟩ := y
        rw [hp] at hr
        simp only [bindR, Except.ok.injEq, Prod.mk.injEq] at hr
        obtain ⟨rfl, rfl⟩ := hr
        obtain ⟨hp1, hno⟩ := hpk t _ hp
        refine br_both (fun e1 => ?_) fun e1 => ?_
        · have hos := opOf_some hop e1 hno
          have heq2 : X = bindR (prs s.size f .neg (dropB stx2)) fun b st => loopB s.size (prs s.size f .neg) kind ops m (.bin op a b) st := by rw [heq, heqm, hp1]; simp only [bindR, hos]
          refine nextR (hBX (h2.trans h3) P3) (peekB_again hp1).1 fun w4 h4 P4 => ?_
          have h04 := (h2.trans h3).trans h4
          have hne2 : prs s.size f .neg (dropB stx2) ≠ .error (0, 0) := fun h => hne (by rw [heq2, h]; rfl)
          refine cpR (hIH w4 b _ (hBX h04 P4) hne2) ?_ ?_
          · intro c st5 v w5 hr5 h5 r5 P5
            obtain ⟨y5, rfl⟩ := IsN.ifc r5
            refine ⟨y5, rfl, nw fun w6 h6 z6 b6 => ?_⟩
            refine ⟨rfl, ((_, _), ()), rfl, fun g => ⟨rfl, ((_, _), ()), rfl, ?_⟩⟩
            refine hK m _ w6 (.bin op a c) st5 (Nat.lt_succ_self m) (P5.ch h6 (fun h => h)) ((h04.trans h5).trans h6.no) ?_ (by rw [heq2, hr5]; rfl)
            show IsN _ _ _ _
            simp only [IsN]
            have hs45 := h4.size
            have hs5 := h5.size
            refine ⟨w5.heap.size, _, _, rfl, ⟨by have := h04.size; omega, by omega⟩, b6, ?_, ?_⟩
            · exact (r2.keep (Nat.le_refl _) hblt ((h3.trans h4).trans h5)).no (Nat.le_refl _) h6
            · exact r5.no h04.size h6
          · intro c e w5 hr5 h5 ht
            rw [heq2, hr5]
            exact PostR.err h04 h5 ht
        · refine ⟨((vt, vv), (IntKind.i64.wrap ((i : Int) + 1)), ()), rfl, ⟨rfl, i + 1, stx2, wrap_succ (by omega) (by omega), by omega, P3, h2.trans h3, r2.keep (Nat.le_refl _) hblt h3, .inr ⟨t, hp1, fun j u hj hu => ?_⟩⟩, ?_⟩
          · rcases (by omega : j < i ∨ j = i) with h | rfl
            · exact hno j u h hu
            · rw [hop] at hu
              obtain rfl := Option.some.inj hu
              exact e1
          · show ops.length - (IntKind.i64.wrap ((i : Int) + 1)).toNat < ops.length - ((i : Nat) : Int).toNat
            rw [wrap_succ (by omega) (by omega)]
            omega
      · intro c e w3 hr h3 ht
        cases hp : peekB s.size stx with
        | ok y => rw [hp] at hr; simp [bindR] at hr
        | error c' =>
          rw [hp] at hr
          obtain rfl : c' = c := by simpa [bindR] using hr
          rcases hst with ⟨rfl, rfl⟩ | ⟨t', hp', hno⟩
          · rw [heq, heqm, hp]
            exact PostR.err h2 h3 ht
          · rw [(peekB_again hp').1] at hp
            cases hp
    · have e : (ops.length : Int) ≤ (i : Int) := lt_f e
      have hlp : 0 < ops.length := List.length_pos_iff.2 hop0
      rcases hst with ⟨rfl, rfl⟩ | ⟨t, hp, hno⟩
      · omega
      have hon : opOf t kind ops = none := opOf_none fun u hu => by
        obtain ⟨j, hj, e⟩ := List.getElem_of_mem hu
        exact hno j u (by omega) (by rw [List.getElem?_eq_getElem hj, e])
      refine ⟨rfl, ((vt, vv), ()), rfl, fun g => ⟨((vt, vv), ()), rfl, fun g => ?_⟩⟩
      refine ⟨h2, ?_⟩
      rw [heq, heqm, hp]
      simp only [bindR, hon]
      exact ⟨_, rfl, r2, P2⟩
  refine scp_i mixed 0 (rest := from_ (at_ Tryz.f56 [1, 0]) 0) (by kernel_rfl) m56_1 s56_1a s56_1b (by kernel_rfl) (by kernel_rfl) (by kernel_rfl) (by kernel_rfl)
    (fun m v w' => ∃ a st', PsS w' b s st' ∧ Ch (· = b) w w' ∧ relN w a (.iface v.1.1 v.1.2) w' ∧ (bindR (prs s.size f .neg st) fun a st => loopB s.size (prs s.size f .neg) kind ops f a st) = loopB s.size (prs s.size f .neg) kind ops m a st') (fun g0 => ?_) ?_
  · rw [t56_1a]
    refine cpR (hIH w b st hB (fun h => hne (by rw [h]; rfl))) ?_ ?_
    · intro a st1 v w1 hr h1 r1 P1
      obtain ⟨y, rfl⟩ := IsN.ifc r1
      refine ⟨y, rfl, ?_⟩
      have h := pass (fun v w' => ∃ m a st', PsS w' b s st' ∧ Ch (· = b) w w' ∧ relN w a (.iface v.1.1 v.1.2) w' ∧ (bindR (prs s.size f .neg st) fun a st => loopB s.size (prs s.size f .neg) kind ops f a st) = loopB s.size (prs s.size f .neg) kind ops m a st') f (y, ()) w1 a st1 g0 P1 h1 r1 (by rw [hr]; rfl) (fun m' v' w' a' st' _ h1 h2 h3 h4 => ⟨m', a', st', h1, h2, h3, h4⟩)
      rw [t56_1b] at h
      exact h
    · intro c e w1 hr h1 ht
      rw [hr]
      exact PostR.err (Ch.refl _ _) h1 ht
  · rintro m v g1 w1 ⟨a, st1, P1, h1, r1, heq⟩
    exact pass _ m v w1 a st1 g1 P1 h1 r1 heq (fun m' v' w' a' st' hm h1 h2 h3 h4 => ⟨m', ⟨a', st', h1, h2, h3, h4⟩, hm⟩)
end CD
theorem or_ok (s : ByteArray) (f : Nat) (hIH : ∀ lv, LvOk s f lv) : LvOk s (f + 1) .or := by
  intro w b st hB hne
  have hd : prs s.size (f + 1) .or st = bindR (prs s.size f .and st) fun a st => loopB s.size (prs s.size f .and) 2 [tOr] f a st := rfl
  rw [hd] at hne ⊢
  show Calls Tryz.prog 52 #[.pointer (some ⟨b, 0, none⟩)] w _
  refine calls_of_fnT mixed Tryz.func52 (s := s52) ?_
  rw [t52]
  refine nw fun w1 h1 z1 b1 => ?_
  have hblt := hB.ps.lt
  have hB1 : Beg w1 b s .and st := hB.go h1.no (hB.ps.ch h1 (fun h => h)) (fun i h => by cases h)
  refine lastR h1.no (CA.chain_ok s f (hIH .and) w1 b st 2 [tOr] _ hB1 b1 (by omega) (by simp) (by simp) hne) ?_
  intro n st2 v w2 hX h2 hr P2
  obtain ⟨y, rfl⟩ := IsN.ifc hr
  exact ⟨y, rfl, h1.no.trans h2, _, rfl, hr.no h1.size (Ch.refl No _), P2⟩
theorem and_ok (s : ByteArray) (f : Nat) (hIH : ∀ lv, LvOk s f lv) : LvOk s (f + 1) .and := by
  intro w b st hB hne
  have hd : prs s.size (f + 1) .and st = bindR (prs s.size f .not st) fun a st => loopB s.size (prs s.size f .not) 2 [tAnd] f a st := rfl
  rw [hd] at hne ⊢
  show Calls Tryz.prog 57 #[.pointer (some ⟨b, 0, none⟩)] w _
  refine calls_of_fnT mixed Tryz.func57 (s := s57) ?_
  rw [t57]
  refine nw fun w1 h1 z1 b1 => ?_
  have hblt := hB.ps.lt
  have hB1 : Beg w1 b s .not st := hB.go h1.no (hB.ps.ch h1 (fun h => h)) (fun i h => by cases h)
  refine lastR h1.no (CB.chain_ok s f (hIH .not) w1 b st 2 [tAnd] _ hB1 b1 (by omega) (by simp) (by simp) hne) ?_
  intro n st2 v w2 hX h2 hr P2
  obtain ⟨y, rfl⟩ := IsN.ifc hr
  exact ⟨y, rfl, h1.no.trans h2, _, rfl, hr.no h1.size (Ch.refl No _), P2⟩
theorem sum_ok (s : ByteArray) (f : Nat) (hIH : ∀ lv, LvOk s f lv) : LvOk s (f + 1) .sum := by
  intro w b st hB hne
  have hd : prs s.size (f + 1) .sum st = bindR (prs s.size f .term st) fun a st => loopB s.size (prs s.size f .term) 4 [sPlus, sMinus] f a st := rfl
  rw [hd] at hne ⊢
  show Calls Tryz.prog 73 #[.pointer (some ⟨b, 0, none⟩)] w _
  refine calls_of_fnT mixed Tryz.func73 (s := s73) ?_
  rw [t73]
  refine nw fun w1 h1 z1 b1 => ?_
  have hblt := hB.ps.lt
  have hB1 : Beg w1 b s .term st := hB.go h1.no (hB.ps.ch h1 (fun h => h)) (fun i h => by cases h)
  refine lastR h1.no (CC.chain_ok s f (hIH .term) w1 b st 4 [sPlus, sMinus] _ hB1 b1 (by omega) (by simp) (by simp) hne) ?_
  intro n st2 v w2 hX h2 hr P2
  obtain ⟨y, rfl⟩ := IsN.ifc hr
  exact ⟨y, rfl, h1.no.trans h2, _, rfl, hr.no h1.size (Ch.refl No _), P2⟩
theorem term_ok (s : ByteArray) (f : Nat) (hIH : ∀ lv, LvOk s f lv) : LvOk s (f + 1) .term := by
  intro w b st hB hne
  have hd : prs s.size (f + 1) .term st = bindR (prs s.size f .neg st) fun a st => loopB s.size (prs s.size f .neg) 4 [sMul, sDiv, sMod] f a st := rfl
  rw [hd] at hne ⊢
  show Calls Tryz.prog 93 #[.pointer (some ⟨b, 0, none⟩)] w _
  refine calls_of_fnT mixed Tryz.func93 (s := s93) ?_
  rw [t93]
  refine nw fun w1 h1 z1 b1 => ?_
  have hblt := hB.ps.lt
  have hB1 : Beg w1 b s .neg st := hB.go h1.no (hB.ps.ch h1 (fun h => h)) (fun i h => by cases h)
  refine lastR h1.no (CD.chain_ok s f (hIH .neg) w1 b st 4 [sMul, sDiv, sMod] _ hB1 b1 (by omega) (by simp) (by simp) hne) ?_
  intro n st2 v w2 hX h2 hr P2
  obtain ⟨y, rfl⟩ := IsN.ifc hr
  exact ⟨y, rfl, h1.no.trans h2, _, rfl, hr.no h1.size (Ch.refl No _), P2⟩
end Go.Proofs.YtkebljkdkaagfaaGreatDoor.E
