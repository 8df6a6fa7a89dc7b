/- A plan in memory; a task or an edge is copied; tables; loops. -/
import Derived.Test.YtkebljkdkaagfaaGreatDoorSmd
import Derived.Test.YtkebljkdkaagfaaGreatDoorPwn
namespace Go.Proofs.YtkebljkdkaagfaaGreatDoor.S
open Go Tr
set_option maxRecDepth 100000
set_option maxHeartbeats 1000000
/-! the tree of function 38 -/
def s38 : Script := .ld .sl (.ld (.int .i64) (.ix (.ld (.int .i64) (.sym (.lit (.ld (.int .i64) (.lit (.lit .nil)))) (.lit (.lit (.lit .nil)))))))
theorem t38 (qx0_0 : Int) (qa0_1 : Option Addr) (qn0_1 : Nat) (qc0_1 : Nat) (qa0_2 : Option Addr) (qn0_2 : Nat) (qc0_2 : Nat) (qx1_0 : Int) (qx1_1 : Int) (qx1_2 : Int) (qx1_3 : Int) : fnT Tryz.prog Tryz.f38 #[.agg #[.int .i64 qx0_0, .slice qa0_1 qn0_1 qc0_1, .slice qa0_2 qn0_2 qc0_2], .agg #[.int .i64 qx1_0, .int .i64 qx1_1, .int .i64 qx1_2, .int .i64 qx1_3]] s38 = .new (.cells #[.int .i64 qx0_0, .slice qa0_1 qn0_1 qc0_1, .slice qa0_2 qn0_2 qc0_2] 25 (0, 0)) (fun n1 => .new (.cells #[.int .i64 qx1_0, .int .i64 qx1_1, .int .i64 qx1_2, .int .i64 qx1_3] 39 (0, 0)) (fun n2 => .load ⟨n1, 1, none⟩ .sl (fun l3 => .load ⟨n2, 2, none⟩ (.int .i64) (fun x4 => .idx l3.1 x4 l3.2.1 4 (fun a5 => .load (a5.add 1) (.int .i64) (fun x6 => .br (x6 == 11) (.load ⟨n2, 3, none⟩ (.int .i64) (fun x7 => .done (.returned (.bool (x7 == 1))))) (.done (.returned (.bool false))))))))) := by kernel_rfl
/-! the tree of function 26 -/
def s26 : Script := .sym (.lit (.lit .nil)) (.lit (.lit .nil))
theorem t26 (qx0 : Int) : fnT Tryz.prog Tryz.f26 #[.int .i64 qx0] s26 = .br (Decidable.decide (qx0 ≥ 1)) (.done (.returned (.bool (Decidable.decide (qx0 ≤ 13))))) (.done (.returned (.bool false))) := by kernel_rfl
abbrev tPlan : TypeId := 25
abbrev tTask : TypeId := 46
abbrev tEdge : TypeId := 39
/-- Texts that stand somewhere. -/
def AtS (w : World) (xp : Option Addr) (l : List (List UInt8)) : Prop := ∀ (j : Nat) (s : List UInt8), l[j]? = some s → ∃ xa, xp = some xa ∧ w.cell? (xa.add j) = some (.string (bytesL s))
/-- A plan that comes by value: its lists. -/
structure IsP (w : World) (tp ep : Option Addr) (p : PM) : Prop where
  tn : p.tasks.length ≤ 9223372036854775807
  en : p.edges.length ≤ 9223372036854775807
  tasks : ∀ (i : Nat) (t : TM), p.tasks[i]? = some t → ∃ ta, tp = some ta ∧ w.cell? (ta.add (i * 4)) = some (.string (bytesL t.name)) ∧ w.cell? ((ta.add (i * 4)).add 1) = some (.int .i64 t.kind) ∧ w.cell? ((ta.add (i * 4)).add 2) = some (.int .i64 t.num) ∧
    ∃ xp xc, w.cell? ((ta.add (i * 4)).add 3) = some (.slice xp t.exprs.length xc) ∧ t.exprs.length ≤ 9223372036854775807 ∧ AtS w xp t.exprs
  edges : ∀ (i : Nat) (e : EM), p.edges[i]? = some e → ∃ ea, ep = some ea ∧ w.cell? (ea.add (i * 4)) = some (.int .i64 e.frm) ∧ w.cell? ((ea.add (i * 4)).add 1) = some (.int .i64 e.out) ∧ w.cell? ((ea.add (i * 4)).add 2) = some (.int .i64 e.to) ∧ w.cell? ((ea.add (i * 4)).add 3) = some (.int .i64 e.inn)
theorem AtS.of {w w' : World} {xp : Option Addr} {l : List (List UInt8)} (h : AtS w xp l) (hc : ∀ a v, w.cell? a = some v → w'.cell? a = some v) : AtS w' xp l := fun j s hs => by
  obtain ⟨xa, h6, h7⟩ := h j s hs
  exact ⟨xa, h6, hc _ _ h7⟩
theorem IsP.of {w w' : World} {tp ep : Option Addr} {p : PM} (h : IsP w tp ep p) (hc : ∀ a v, w.cell? a = some v → w'.cell? a = some v) : IsP w' tp ep p where
  tn := h.tn
  en := h.en
  tasks i t ht := by
    obtain ⟨ta, h0, h1, h2, h3, xp, xc, h4, h5, h6⟩ := h.tasks i t ht
    exact ⟨ta, h0, hc _ _ h1, hc _ _ h2, hc _ _ h3, xp, xc, hc _ _ h4, h5, h6.of hc⟩
  edges i e he := by
    obtain ⟨ea, h0, h1, h2, h3, h4⟩ := h.edges i e he
    exact ⟨ea, h0, hc _ _ h1, hc _ _ h2, hc _ _ h3, hc _ _ h4⟩
theorem IsP.ch {w w' : World} {tp ep : Option Addr} {p : PM} (h : IsP w tp ep p) (hc : Ch No w w') : IsP w' tp ep p := h.of fun _ _ ha => hc.cellv ha (fun h => h)
/-- A plan's value. -/
abbrev planV (p : PM) (tp : Option Addr) (tc : Nat) (ep : Option Addr) (ec : Nat) : Value := .agg #[.int .i64 p.cap, .slice tp p.tasks.length tc, .slice ep p.edges.length ec]
abbrev edgeV (e : EM) : Value := .agg #[.int .i64 e.frm, .int .i64 e.out, .int .i64 e.to, .int .i64 e.inn]
abbrev planC (p : PM) (tp : Option Addr) (tc : Nat) (ep : Option Addr) (ec : Nat) : List Value := [.int .i64 p.cap, .slice tp p.tasks.length tc, .slice ep p.edges.length ec]
abbrev edgeC (e : EM) : List Value := [.int .i64 e.frm, .int .i64 e.out, .int .i64 e.to, .int .i64 e.inn]
abbrev taskC (t : TM) (xp : Option Addr) (xc : Nat) : List Value := [.string (bytesL t.name), .int .i64 t.kind, .int .i64 t.num, .slice xp t.exprs.length xc]
/-! ### Steps -/
section
variable {P : Program} {R : Ending → World → Prop} {Q : Exit → List (Tmp × Value) → World → Prop} {w : World}
/-- A task is copied into a block of its own. -/
theorem tk_i {K : Addr → ByteArray → Int → Int → Option Addr × Nat × Nat → Nat → T} {tp ep : Option Addr} {p : PM} (h : IsP w tp ep p) {i : Nat} {t : TM} (ht : p.tasks[i]? = some t)
    (hk : ∀ ta xp xc n w1, Ch No w w1 → w.heap.size ≤ n → Blk w1 n (taskC t xp xc) tTask → t.exprs.length ≤ 9223372036854775807 → AtS w1 xp t.exprs → wpT P R Q (K ta (bytesL t.name) t.kind t.num (xp, t.exprs.length, xc) n) .pl w1) :
    wpT P R Q (.idx tp ((i : Nat) : Int) p.tasks.length 4 (fun a => .load a .str (fun s => .load (a.add 1) (.int .i64) (fun x => .load (a.add 2) (.int .i64) (fun y => .load (a.add 3) .sl (fun l =>
      .new (.cells #[.string (bytesL []), .int .i64 0, .int .i64 0, .slice none 0 0] tTask (0, 0)) (fun n => .store ⟨n, 0, none⟩ (.string s) (.store ⟨n, 1, none⟩ (.int .i64 x) (.store ⟨n, 2, none⟩ (.int .i64 y) (.store ⟨n, 3, none⟩ (.slice l.1 l.2.1 l.2.2) (K a s x y l n))))))))))) .pl w := by
  obtain ⟨ta, rfl, h1, h2, h3, xp, xc, h4, h5, h6⟩ := h.tasks i t ht
  have hi := (List.getElem?_eq_some_iff.1 ht).1
  refine ix_i (by omega) (by omega) ?_
  rw [Int.toNat_natCast]
  refine ld_str h1 (ld_int h2 (ld_int h3 (ld_sl h4 ?_)))
  refine nw (cs := [_, _, _, _]) fun w1 c1 s1 b1 => ?_
  refine st_blk b1 (by simp) rfl fun w2 c2 s2 b2 => st_blk b2 (by simp) rfl fun w3 c3 s3 b3 => st_blk b3 (by simp) rfl fun w4 c4 s4 b4 => st_blk b4 (by simp) rfl fun w5 c5 s5 b5 => ?_
  have hc : Ch No w w5 := c1.then_ (c2.trans (c3.trans (c4.trans c5))) (fun i hi (e : i = w.heap.size) => by omega)
  exact hk _ xp xc _ w5 hc (Nat.le_refl _) b5 h5 (h6.of fun a v ha => hc.cellv ha (fun h => h))
/-- An edge is copied into a block of its own. -/
theorem ed_i {K : Addr → Int → Int → Int → Int → Nat → T} {tp ep : Option Addr} {p : PM} (h : IsP w tp ep p) {i : Nat} {e : EM} (he : p.edges[i]? = some e)
    (hk : ∀ ea n w1, Ch No w w1 → w.heap.size ≤ n → Blk w1 n (edgeC e) tEdge → wpT P R Q (K ea e.frm e.out e.to e.inn n) .pl w1) :
    wpT P R Q (.idx ep ((i : Nat) : Int) p.edges.length 4 (fun a => .load a (.int .i64) (fun s => .load (a.add 1) (.int .i64) (fun x => .load (a.add 2) (.int .i64) (fun y => .load (a.add 3) (.int .i64) (fun l =>
      .new (.cells #[.int .i64 0, .int .i64 0, .int .i64 0, .int .i64 0] tEdge (0, 0)) (fun n => .store ⟨n, 0, none⟩ (.int .i64 s) (.store ⟨n, 1, none⟩ (.int .i64 x) (.store ⟨n, 2, none⟩ (.int .i64 y) (.store ⟨n, 3, none⟩ (.int .i64 l) (K a s x y l n))))))))))) .pl w := by
  obtain ⟨ea, rfl, h1, h2, h3, h4⟩ := h.edges i e he
  have hi := (List.getElem?_eq_some_iff.1 he).1
  refine ix_i (by omega) (by omega) ?_
  rw [Int.toNat_natCast]
  refine ld_int h1 (ld_int h2 (ld_int h3 (ld_int h4 ?_)))
  refine nw (cs := [_, _, _, _]) fun w1 c1 s1 b1 => ?_
  refine st_blk b1 (by simp) rfl fun w2 c2 s2 b2 => st_blk b2 (by simp) rfl fun w3 c3 s3 b3 => st_blk b3 (by simp) rfl fun w4 c4 s4 b4 => st_blk b4 (by simp) rfl fun w5 c5 s5 b5 => ?_
  have hc : Ch No w w5 := c1.then_ (c2.trans (c3.trans (c4.trans c5))) (fun i hi (e : i = w.heap.size) => by omega)
  exact hk _ _ w5 hc (Nat.le_refl _) b5
/-! Regions that only read, new blocks set aside. -/
variable {w1 : World}
theorem dr_no {t : T} (h : wpT P R Q t (.qu (Ch No w)) w) : wpT P R Q (.drawn t) .pl w := ⟨Ch No w, (Ch.refl _ _).drew, h⟩
theorem un_no {t : T} (h : ∀ w', Ch No w1 w' → wpT P R Q t .pl w') : wpT P R Q (.undrawn t) (.qu (Ch No w1)) w := h
theorem lc_int {a : Addr} {k : IntKind} {f : Int → T} {x : Int} (h : w1.cell? a = some (.int k x)) (hk : wpT P R Q (f x) (.qu (Ch No w1)) w) : wpT P R Q (.load a (.int k) f) (.qu (Ch No w1)) w := ⟨x, fun w' e => e.cellv h (fun h => h), hk⟩
theorem lc_str {a : Addr} {f : ByteArray → T} {x : ByteArray} (h : w1.cell? a = some (.string x)) (hk : wpT P R Q (f x) (.qu (Ch No w1)) w) : wpT P R Q (.load a .str f) (.qu (Ch No w1)) w := ⟨x, fun w' e => e.cellv h (fun h => h), hk⟩
theorem lc_bool {a : Addr} {f : Bool → T} {x : Bool} (h : w1.cell? a = some (.bool x)) (hk : wpT P R Q (f x) (.qu (Ch No w1)) w) : wpT P R Q (.load a .bool f) (.qu (Ch No w1)) w := ⟨x, fun w' e => e.cellv h (fun h => h), hk⟩
theorem lc_sl {a : Addr} {f : Option Addr × Nat × Nat → T} {p : Option Addr} {n c : Nat} (h : w1.cell? a = some (.slice p n c)) (hk : wpT P R Q (f (p, n, c)) (.qu (Ch No w1)) w) : wpT P R Q (.load a .sl f) (.qu (Ch No w1)) w := ⟨(p, n, c), fun w' e => e.cellv h (fun h => h), hk⟩
theorem cc_i {f : FuncId} {args : Array Value} {s : Shape} {k : s.Vars → T} {x : s.Vars} (h : ∀ w, Ch No w1 w → Calls P f args w (fun e w' => e = .returned (s.val x) ∧ Ch No w w')) (hk : wpT P R Q (k x) (.qu (Ch No w1)) w) : wpT P R Q (.call f args s k) (.qu (Ch No w1)) w :=
  ⟨x, fun w hw => (h w hw).mono fun _ _ ⟨h1, h2⟩ => ⟨h1, hw.trans h2⟩, hk⟩
end
/-! ### Global tables -/
structure GlS (w : World) : Prop where
  expr : E.GlE w
  needs : ∀ (i j : Nat), i < 14 → j < 7 → w.cell? ⟨0, i * 7 + j, none⟩ = some (.int .i64 ((needsT.getD i []).getD j 0))
theorem GlS.no {w w' : World} (h : GlS w) (hc : Ch No w w') : GlS w' := ⟨h.expr.no hc, fun i j hi hj => hc.cellv (h.needs i j hi hj) (fun h => h)⟩
theorem GlS.nd {w : World} (h : GlS w) {k : Int} (h0 : 1 ≤ k) (h1 : k ≤ 13) {j : Nat} (hj : j < 7) : w.cell? (((⟨0, 0, none⟩ : Addr).add (k.toNat * 7)).add j) = some (.int .i64 (needOf k j)) := by
  rw [addr_add, addr_add, Nat.zero_add]
  exact h.needs k.toNat j (by omega) hj
theorem GlS.nd0 {w : World} (h : GlS w) {k : Int} (h0 : 1 ≤ k) (h1 : k ≤ 13) : w.cell? ((⟨0, 0, none⟩ : Addr).add (k.toNat * 7)) = some (.int .i64 (needOf k 0)) := by
  rw [addr_add, Nat.zero_add]
  exact h.needs k.toNat 0 (by omega) (by omega)
/-! ### loops, known -/
theorem kindAt_of {p : PM} {i : Nat} {t : TM} (h : p.tasks[i]? = some t) : kindAt p i = t.kind := by unfold kindAt; rw [h]; rfl
theorem loops_any (w : World) (p : PM) (tp ep : Option Addr) (tc ec : Nat) (e : EM) (h : IsP w tp ep p) (h0 : 0 ≤ e.to) (h1 : e.to < p.tasks.length) :
    Calls Tryz.prog 38 #[planV p tp tc ep ec, edgeV e] w fun r w' => r = .returned (.bool (loopsM p e)) ∧ Ch No w w' := by
  refine calls_of_fnT mixed Tryz.func38 (s := s38) ?_
  rw [t38]
  refine nw (cs := [_, _, _]) fun w1 c1 s1 b1 => ?_
  refine nw (cs := [_, _, _, _]) fun w2 c2 s2 b2 => ?_
  have b1' : Blk w2 w.heap.size _ _ := b1.ch c2 (fun h => h)
  have hk : e.to.toNat < p.tasks.length := by omega
  obtain ⟨ta, rfl, -, hkind, -⟩ := (h.ch (c1.trans c2)).tasks e.to.toNat _ (List.getElem?_eq_getElem hk)
  have hka : kindAt p e.to.toNat = (p.tasks[e.to.toNat]).kind := kindAt_of (List.getElem?_eq_getElem hk)
  refine ld_sl (b1'.cell 1) (ld_int (b2.cell 2) (ix_i h0 h1 (ld_int hkind ?_)))
  refine br_both (fun hb => ?_) fun hb => ?_
  · refine ld_int (b2.cell 3) ⟨?_, c1.trans c2⟩
    have hb := beq_iff_eq.1 hb
    unfold loopsM
    rw [hka, hb]
    congr 2
    by_cases h1 : e.inn = 1 <;> simp [h1]
  · refine ⟨?_, c1.trans c2⟩
    unfold loopsM
    rw [hka]
    have hb : ¬ _ = _ := beq_eq_false_iff_ne.1 hb
    congr 2
    exact (decide_eq_false fun hh => hb hh.1).symm
theorem known_any (w : World) (k : Int) : Calls Tryz.prog 26 #[.int .i64 k] w fun r w' => r = .returned (.bool (knownB k)) ∧ w' = w := by
  refine calls_of_fnT mixed Tryz.func26 (s := s26) ?_
  rw [t26]
  unfold knownB
  refine br_both (fun hb => ⟨?_, rfl⟩) fun hb => ⟨?_, rfl⟩
  · have hb := ge_t hb
    rw [decide_eq_true (show (1 : Int) ≤ k by omega), Bool.true_and]
  · have hb := ge_f hb
    rw [decide_eq_false (show ¬ (1 : Int) ≤ k by omega), Bool.false_and]
end Go.Proofs.YtkebljkdkaagfaaGreatDoor.S
