/- The other levels of operators. Brackets that are open; lists of trees that grow. The fuel is enough. -/
import Derived.Test.YtmdmomccibpjbaaGreatDoorPwh
import Derived.Test.YtmdmomccibpjbaaGreatDoorRdp
namespace Go.Proofs.YtmdmomccibpjbaaGreatDoor.E
open Go Tr
open V (rest rest_cases restL sizeB pk_rest cx_i cp_i extract_list)
set_option maxRecDepth 100000
set_option maxHeartbeats 2000000
/-! the tree of function 19 -/
def s19 : Script := .clp (.one (.leaf .bool)) (.sym (.clp (.one (.leaf .ifc)) .nil .nil) (.clp (.one (.agg [.int .i64,.int .i64,.str,.int .i64])) (.clp (.one (.leaf .ifc)) (.clp (.tup []) (.clp (.one (.leaf .ifc)) (.clp (.tup []) (.clp (.one (.leaf .ifc)) .nil .nil) .nil) .nil) .nil) .nil) .nil)) .nil
theorem t19 (qa0 : Addr) : fnT Tryz.prog Tryz.f19 #[.pointer (some qa0)] s19 = .callp 37 #[.pointer (some qa0),.int .i64 2,.string (bytesL [105,102])] (.one (.leaf .bool)) (fun b1 => .br (!b1) (.callp 38 #[.pointer (some qa0)] (.one (.leaf .ifc)) (fun i2 => .done (.returned (.iface i2.1 i2.2))) (fun ch3 => .done (.panicked ch3))) (.callp 39 #[.pointer (some qa0)] (.one (.agg [.int .i64,.int .i64,.str,.int .i64])) (fun r4 => .callp 19 #[.pointer (some qa0)] (.one (.leaf .ifc)) (fun i5 => .callp 40 #[.pointer (some qa0),.int .i64 2,.string (bytesL [116,104,101,110])] (.tup []) (fun r6 => .callp 19 #[.pointer (some qa0)] (.one (.leaf .ifc)) (fun i7 => .callp 40 #[.pointer (some qa0),.int .i64 2,.string (bytesL [101,108,115,101])] (.tup []) (fun r8 => .callp 19 #[.pointer (some qa0)] (.one (.leaf .ifc)) (fun i9 => .new (.cells #[.iface i5.1 i5.2,.iface i7.1 i7.2,.iface i9.1 i9.2] 109 (0,0)) (fun n10 => .done (.returned (.iface 107 (.pointer (some ⟨n10,0,none⟩)))))) (fun ch11 => .done (.panicked ch11))) (fun ch12 => .done (.panicked ch12))) (fun ch13 => .done (.panicked ch13))) (fun ch14 => .done (.panicked ch14))) (fun ch15 => .done (.panicked ch15))) (fun ch16 => .done (.panicked ch16)))) (fun ch17 => .done (.panicked ch17)) := by kernel_rfl
/-! the tree of function 83 -/
def s83 : Script := .clp (.one (.leaf .bool)) (.sym (.clp (.one (.leaf .ifc)) .nil .nil) (.clp (.one (.agg [.int .i64,.int .i64,.str,.int .i64])) (.clp (.one (.leaf .ifc)) .nil .nil) .nil)) .nil
theorem t83 (qa0 : Addr) : fnT Tryz.prog Tryz.f83 #[.pointer (some qa0)] s83 = .callp 37 #[.pointer (some qa0),.int .i64 2,.string (bytesL [110,111,116])] (.one (.leaf .bool)) (fun b1 => .br (!b1) (.callp 96 #[.pointer (some qa0)] (.one (.leaf .ifc)) (fun i2 => .done (.returned (.iface i2.1 i2.2))) (fun ch3 => .done (.panicked ch3))) (.callp 39 #[.pointer (some qa0)] (.one (.agg [.int .i64,.int .i64,.str,.int .i64])) (fun r4 => .callp 83 #[.pointer (some qa0)] (.one (.leaf .ifc)) (fun i5 => .new (.cells #[.string (bytesL [110,111,116]),.iface i5.1 i5.2] 103 (0,0)) (fun n6 => .done (.returned (.iface 101 (.pointer (some ⟨n6,0,none⟩)))))) (fun ch7 => .done (.panicked ch7))) (fun ch8 => .done (.panicked ch8)))) (fun ch9 => .done (.panicked ch9)) := by kernel_rfl
/-! the tree of function 96 -/
abbrev fx96_3 (qa0 : Addr) (i1 : TypeId × Value) (n2 : Nat) : List (Tmp × Value) := [(0,.pointer (some qa0)),(3,.iface i1.1 i1.2),(8,.slice (some ⟨n2,0,none⟩) 6 6),(9,.int .i64 6)]
abbrev m96_3 : List (Tmp × Comp) := [(10,.leaf (.int .i64))]
abbrev mx96_3 : List (Tmp × Comp) := []
abbrev mr96_3 : List (Tmp × Comp) := [(2,.leaf .ifc)]
def s96_3 : Script := .sym (.ix (.ld .str (.clp (.one (.leaf .bool)) (.sym (.clp (.one (.agg [.int .i64,.int .i64,.str,.int .i64])) (.clp (.one (.leaf .ifc)) .nil .nil) .nil) .nil) .nil))) .nil
theorem t96_3 (qa0 : Addr) (i1 : TypeId × Value) (n2 : Nat) (x_10 : Int) (gg3 : Nat → Value) : pieceT Tryz.prog (at_ Tryz.f96 [1,1,0,1,0,0]) 28 (fx96_3 qa0 i1 n2 ++ mvals m96_3 (x_10,())) gg3 (m96_3.map (·.1)) (mx96_3.map (·.1)) (mr96_3.map (·.1)) s96_3 = .br (Decidable.decide (x_10 < 6)) (.idx (some ⟨n2,0,none⟩) x_10 6 1 (fun a4 => .load a4 .str (fun s5 => .callp 37 #[.pointer (some qa0),.int .i64 4,.string s5] (.one (.leaf .bool)) (fun b6 => .br b6 (.callp 39 #[.pointer (some qa0)] (.one (.agg [.int .i64,.int .i64,.str,.int .i64])) (fun r7 => .callp 107 #[.pointer (some qa0)] (.one (.leaf .ifc)) (fun i8 => .new (.cells #[.string s5,.iface i1.1 i1.2,.iface i8.1 i8.2] 106 (0,0)) (fun n9 => .fin .ret [(2,.iface 104 (.pointer (some ⟨n9,0,none⟩)))])) (fun ch10 => .done (.panicked ch10))) (fun ch11 => .done (.panicked ch11))) (.fin .normal [(10,.int .i64 (IntKind.i64.wrap (x_10 + 1)))])) (fun ch12 => .done (.panicked ch12))))) (.fin (.exit 0) []) := by kernel_rfl
def s96 : Script := .clp (.one (.leaf .ifc)) (.lp 0 [0,3,8,9] [10] mx96_3 mr96_3 .nil .nil) .nil
theorem t96 (qa0 : Addr) : fnT Tryz.prog Tryz.f96 #[.pointer (some qa0)] s96 = .callp 107 #[.pointer (some qa0)] (.one (.leaf .ifc)) (fun i1 => .new (.cells #[.string (bytesL [61,61]),.string (bytesL [33,61]),.string (bytesL [60]),.string (bytesL [60,61]),.string (bytesL [62]),.string (bytesL [62,61])] 9 (0,0)) (fun n2 => .loop (at_ Tryz.f96 [1,1,0,1,0,0]) 28 (fx96_3 qa0 i1 n2) [(10,.int .i64 0)] mx96_3 mr96_3 0 (fun u13 g13 => .done (.returned (.iface i1.1 i1.2))) (fun u14 g14 => .done (.returned (.iface u14.1.1 u14.fst.2))))) (fun ch15 => .done (.panicked ch15)) := by kernel_rfl
/-! the tree of function 146 -/
def s146 : Script := .clp (.one (.leaf .bool)) (.sym (.clp (.one (.leaf .ifc)) .nil .nil) (.clp (.one (.agg [.int .i64,.int .i64,.str,.int .i64])) (.clp (.one (.leaf .ifc)) .nil .nil) .nil)) .nil
theorem t146 (qa0 : Addr) : fnT Tryz.prog Tryz.f146 #[.pointer (some qa0)] s146 = .callp 37 #[.pointer (some qa0),.int .i64 4,.string (bytesL [45])] (.one (.leaf .bool)) (fun b1 => .br (!b1) (.callp 155 #[.pointer (some qa0)] (.one (.leaf .ifc)) (fun i2 => .done (.returned (.iface i2.1 i2.2))) (fun ch3 => .done (.panicked ch3))) (.callp 39 #[.pointer (some qa0)] (.one (.agg [.int .i64,.int .i64,.str,.int .i64])) (fun r4 => .callp 146 #[.pointer (some qa0)] (.one (.leaf .ifc)) (fun i5 => .new (.cells #[.string (bytesL [45]),.iface i5.1 i5.2] 103 (0,0)) (fun n6 => .done (.returned (.iface 101 (.pointer (some ⟨n6,0,none⟩)))))) (fun ch7 => .done (.panicked ch7))) (fun ch8 => .done (.panicked ch8)))) (fun ch9 => .done (.panicked ch9)) := by kernel_rfl
theorem expr_ok (s : ByteArray) (f : Nat) (hIH : ∀ lv,LvOk s f lv) : LvOk s (f + 1) .expr := by
 intro w b st hB hne
 have hd : prs s.size (f + 1) .expr st = bindR (peekB s.size st) fun t st => if isB t 2 tIf = true then
    bindR (prs s.size f .expr (dropB st)) fun c st => bindR (wantB s.size 2 tThen st) fun _ st => bindR (prs s.size f .expr st) fun a st => bindR (wantB s.size 2 tElse st) fun _ st => bindR (prs s.size f .expr st) fun b st => .ok (.cnd c a b,st)
   else prs s.size f .or st := rfl
 rw [hd] at hne ⊢
 show Calls Tryz.prog 19 #[.pointer (some ⟨b,0,none⟩)] w _
 refine calls_of_fnT mixed Tryz.func19 (s := s19) ?_
 rw [t19]
 have hblt := hB.ps.lt
 refine isR (kind := 2) (text := tIf) (Ch.refl _ _) hB fun t st1 w1 hp h1 P1 hg => ?_
 rw [← hg] at hne
 cases hb : isB t 2 tIf with
 | false =>
  rw [hb] at hne
  rw [if_neg Bool.false_ne_true] at hne ⊢
  refine br_true rfl (lastR h1 (hIH .or w1 b st1 (hB.go h1 P1 (fun i h => by cases h)) hne) ?_)
  intro n st2 v w2 hX h2 hr P2
  obtain ⟨y,rfl⟩ := IsN.ifc hr
  exact ⟨y,rfl,h1.trans h2,_,rfl,hr.no h1.size (Ch.refl No _),P2⟩
 | true =>
  rw [hb] at hne
  rw [if_pos rfl] at hne ⊢
  refine br_false rfl (nextR (lv := .expr) (hB.go h1 P1 (fun i h => by cases h)) (peekB_again hp).1 fun w2 h2 P2 => ?_)
  have H2 := h1.trans h2
  refine stepR H2 hne (fun h => hIH .expr w2 b _ (hB.go H2 P2 (fun i h => by cases h)) h) ?_
  intro c st3 v3 w3 hX3 h3 r3 P3 hne3
  obtain ⟨y3,rfl⟩ := IsN.ifc r3
  refine ⟨y3,rfl,?_⟩
  have H3 := H2.trans h3
  refine wantR (kind := 2) (text := tThen) (lv := .expr) H3 (hB.go H3 P3 (fun i h => by cases h)) (by rintro ⟨h,_⟩; omega) hne3 fun st4 w4 hX4 h4 P4 hne4 => ?_
  have H4 := H3.trans h4
  refine stepR H4 hne4 (fun h => hIH .expr w4 b _ (hB.go H4 P4 (fun i h => by cases h)) h) ?_
  intro a st5 v5 w5 hX5 h5 r5 P5 hne5
  obtain ⟨y5,rfl⟩ := IsN.ifc r5
  refine ⟨y5,rfl,?_⟩
  have H5 := H4.trans h5
  refine wantR (kind := 2) (text := tElse) (lv := .expr) H5 (hB.go H5 P5 (fun i h => by cases h)) (by rintro ⟨h,_⟩; omega) hne5 fun st6 w6 hX6 h6 P6 hne6 => ?_
  have H6 := H5.trans h6
  refine stepR H6 hne6 (fun h => hIH .expr w6 b _ (hB.go H6 P6 (fun i h => by cases h)) h) ?_
  intro d st7 v7 w7 hX7 h7 r7 P7 hne7
  obtain ⟨y7,rfl⟩ := IsN.ifc r7
  refine ⟨y7,rfl,nw fun w8 h8 z8 b8 => ?_⟩
  have H7 := H6.trans h7
  refine ⟨H7.trans h8.no,_,rfl,?_,P7.ch h8 (fun h => h)⟩
  show IsN _ _ _ _
  simp only [IsN]
  have hs2 := H2.size
  have hs4 := H4.size
  have hs6 := H6.size
  refine ⟨w7.heap.size,_,_,_,rfl,⟨H7.size,by omega⟩,b8,?_,?_,?_⟩
  ·exact (r3.keep (w0 := w) hs2 (by omega) (h4.trans (h5.trans (h6.trans h7)))).no (Nat.le_refl _) h8
  ·exact (r5.keep (w0 := w) hs4 (by omega) (h6.trans h7)).no (Nat.le_refl _) h8
  ·exact r7.no (w0 := w) hs6 h8
theorem not_ok (s : ByteArray) (f : Nat) (hIH : ∀ lv,LvOk s f lv) : LvOk s (f + 1) .not := by
 intro w b st hB hne
 have hd : prs s.size (f + 1) .not st = bindR (peekB s.size st) fun t st => if isB t 2 tNot = true then bindR (prs s.size f .not (dropB st)) fun a st => .ok (.un tNot a,st) else prs s.size f .cmp st := rfl
 rw [hd] at hne ⊢
 show Calls Tryz.prog 83 #[.pointer (some ⟨b,0,none⟩)] w _
 refine calls_of_fnT mixed Tryz.func83 (s := s83) ?_
 rw [t83]
 have hblt := hB.ps.lt
 refine isR (kind := 2) (text := tNot) (Ch.refl _ _) hB fun t st1 w1 hp h1 P1 hg => ?_
 rw [← hg] at hne
 cases hb : isB t 2 tNot with
 | false =>
  rw [hb] at hne
  rw [if_neg Bool.false_ne_true] at hne ⊢
  refine br_true rfl (lastR h1 (hIH .cmp w1 b st1 (hB.go h1 P1 (fun i h => by cases h)) hne) ?_)
  intro n st2 v w2 hX h2 hr P2
  obtain ⟨y,rfl⟩ := IsN.ifc hr
  exact ⟨y,rfl,h1.trans h2,_,rfl,hr.no h1.size (Ch.refl No _),P2⟩
 | true =>
  rw [hb] at hne
  rw [if_pos rfl] at hne ⊢
  refine br_false rfl (nextR (lv := .expr) (hB.go h1 P1 (fun i h => by cases h)) (peekB_again hp).1 fun w2 h2 P2 => ?_)
  have H2 := h1.trans h2
  refine stepR H2 hne (fun h => hIH .not w2 b _ (hB.go H2 P2 (fun i h => by cases h)) h) ?_
  intro c st3 v3 w3 hX3 h3 r3 P3 hne3
  obtain ⟨y3,rfl⟩ := IsN.ifc r3
  refine ⟨y3,rfl,nw fun w4 h4 z4 b4 => ?_⟩
  refine ⟨(H2.trans h3).trans h4.no,_,rfl,?_,P3.ch h4 (fun h => h)⟩
  show IsN _ _ _ _
  simp only [IsN]
  exact ⟨w3.heap.size,_,rfl,⟨(H2.trans h3).size,by omega⟩,b4,r3.no (w0 := w) H2.size h4⟩
theorem neg_ok (s : ByteArray) (f : Nat) (hIH : ∀ lv,LvOk s f lv) : LvOk s (f + 1) .neg := by
 intro w b st hB hne
 have hd : prs s.size (f + 1) .neg st = bindR (peekB s.size st) fun t st => if isB t 4 sMinus = true then bindR (prs s.size f .neg (dropB st)) fun a st => .ok (.un sMinus a,st) else prs s.size f .atom st := rfl
 rw [hd] at hne ⊢
 show Calls Tryz.prog 146 #[.pointer (some ⟨b,0,none⟩)] w _
 refine calls_of_fnT mixed Tryz.func146 (s := s146) ?_
 rw [t146]
 have hblt := hB.ps.lt
 refine isR (kind := 4) (text := sMinus) (Ch.refl _ _) hB fun t st1 w1 hp h1 P1 hg => ?_
 rw [← hg] at hne
 cases hb : isB t 4 sMinus with
 | false =>
  rw [hb] at hne
  rw [if_neg Bool.false_ne_true] at hne ⊢
  refine br_true rfl (lastR h1 (hIH .atom w1 b st1 (hB.go h1 P1 (fun i h => by cases h)) hne) ?_)
  intro n st2 v w2 hX h2 hr P2
  obtain ⟨y,rfl⟩ := IsN.ifc hr
  exact ⟨y,rfl,h1.trans h2,_,rfl,hr.no h1.size (Ch.refl No _),P2⟩
 | true =>
  rw [hb] at hne
  rw [if_pos rfl] at hne ⊢
  refine br_false rfl (nextR (lv := .expr) (hB.go h1 P1 (fun i h => by cases h)) (peekB_again hp).1 fun w2 h2 P2 => ?_)
  have H2 := h1.trans h2
  refine stepR H2 hne (fun h => hIH .neg w2 b _ (hB.go H2 P2 (fun i h => by cases h)) h) ?_
  intro c st3 v3 w3 hX3 h3 r3 P3 hne3
  obtain ⟨y3,rfl⟩ := IsN.ifc r3
  refine ⟨y3,rfl,nw fun w4 h4 z4 b4 => ?_⟩
  refine ⟨(H2.trans h3).trans h4.no,_,rfl,?_,P3.ch h4 (fun h => h)⟩
  show IsN _ _ _ _
  simp only [IsN]
  exact ⟨w3.heap.size,_,rfl,⟨(H2.trans h3).size,by omega⟩,b4,r3.no (w0 := w) H2.size h4⟩
theorem cmp_ok (s : ByteArray) (f : Nat) (hIH : ∀ lv,LvOk s f lv) : LvOk s (f + 1) .cmp := by
 intro w b st hB hne
 have hd : prs s.size (f + 1) .cmp st = bindR (prs s.size f .sum st) fun a st => bindR (peekB s.size st) fun t st => match opOf t 4 cmpOps with
   | none => .ok (a,st)
   | some op => bindR (prs s.size f .sum (dropB st)) fun b st => .ok (.bin op a b,st) := rfl
 rw [hd] at hne ⊢
 show Calls Tryz.prog 96 #[.pointer (some ⟨b,0,none⟩)] w _
 refine calls_of_fnT mixed Tryz.func96 (s := s96) ?_
 rw [t96]
 have hblt := hB.ps.lt
 refine stepR (Ch.refl _ _) hne (fun h => hIH .sum w b st (hB.go (Ch.refl _ _) hB.ps (fun i h => by cases h)) h) ?_
 intro a st1 v1 w1 hX1 h1 r1 P1 hne1
 obtain ⟨⟨vt,vv⟩,rfl⟩ := IsN.ifc r1
 refine ⟨(vt,vv),rfl,nw fun w2 h2 z2 b2 => ?_⟩
 clear hd hne
 have H2 := h1.trans h2.no
 have P2 := P1.ch h2 (fun h => h)
 have R2 : relN w a (.iface vt vv) w2 := r1.no (Nat.le_refl _) h2
 have hg1 : w1.heap.size ≠ b := by have := P1.lt; omega
 generalize w1.heap.size = g at *
 generalize hXd : (bindR (peekB s.size st1) fun t st => match opOf t 4 cmpOps with
   | none => (.ok (a,st) : R N)
   | some op => bindR (prs s.size f .sum (dropB st)) fun b st => .ok (.bin op a b,st)) = X at *
 refine loop_i mixed m96_3 s96_3 (by kernel_rfl) (by kernel_rfl)
  (fun (v : Int × Unit) w' => ∃ (i : Nat) (stx : PS),v.1 = (i : Nat) ∧ i ≤ 6 ∧ PsS w' b s stx ∧ Ch (· = b) w w' ∧ Ch (· = b) w2 w' ∧ relN w a (.iface vt vv) w' ∧ ((i = 0 ∧ stx = st1) ∨ ∃ t,peekB s.size st1 = .ok (t,stx) ∧ ∀ j u,j < i → cmpOps[j]? = some u → isB t 4 u = false))
  (fun (v : Int × Unit) _ => 6 - v.1.toNat) (0,()) rfl ⟨0,st1,rfl,Nat.zero_le _,P2,H2,Ch.refl _ _,R2,.inl ⟨rfl,rfl⟩⟩ ?_
 rintro ⟨_,⟨⟩⟩ g1 w3 ⟨i,stx,rfl,hi,P3,h3,h23,r3,hst⟩
 rw [t96_3]
 dsimp only
 have hBX : ∀ {w' st'},Ch (· = b) w w' → PsS w' b s st' → Beg w' b s .sum st' := fun h1 hp => hB.go h1 hp (fun i h => by cases h)
 have hpk : ∀ t stx2,peekB s.size stx = .ok (t,stx2) → peekB s.size st1 = .ok (t,stx2) ∧ ∀ j u,j < i → cmpOps[j]? = some u → isB t 4 u = false := by
  intro t stx2 hp
  rcases hst with ⟨rfl,rfl⟩ | ⟨t',hp',hno⟩
  ·exact ⟨hp,fun j u hj => by omega⟩
  ·rw [(peekB_again hp').1] at hp
   simp only [Except.ok.injEq,Prod.mk.injEq] at hp
   obtain ⟨rfl,rfl⟩ := hp
   exact ⟨hp',hno⟩
 have hlen : cmpOps.length = 6 := rfl
 refine br_both (fun e => ?_) fun e => ?_
 ·have e : (i : Int) < 6 := lt_t e
  have hil : i < 6 := by omega
  obtain ⟨op,hop⟩ : ∃ op,cmpOps[i]? = some op := ⟨cmpOps[i]'(by omega),List.getElem?_eq_getElem (by omega)⟩
  have hcell : w3.cell? ⟨g,i,none⟩ = some (.string (bytesL op)) := h23.cellv (by
   rw [b2.cell]
   have : (opCells cmpOps)[i]? = some (.string (bytesL op)) := by simp [opCells,hop]
   exact this) (fun e : g = b => hg1 e)
  refine ix_i (by omega) (by omega) ?_
  rw [addr_add,Int.toNat_natCast,Nat.zero_add,Nat.mul_one]
  refine ld_str hcell (cpR (is_any w3 b s stx 4 op P3 (hBX h3 P3).gl hB.big hB.sz) ?_ ?_)
  ·intro x st3 v w4 hr h4 hv P4
   obtain rfl : v = .bool x := hv
   refine ⟨x,rfl,?_⟩
   cases hp : peekB s.size stx with
   | error c => rw [hp] at hr; cases hr
   | ok y =>
   obtain ⟨t,stx2⟩ := y
   rw [hp] at hr
   simp only [bindR,Except.ok.injEq,Prod.mk.injEq] at hr
   obtain ⟨rfl,rfl⟩ := hr
   obtain ⟨hp1,hno⟩ := hpk t _ hp
   refine br_both (fun e1 => ?_) fun e1 => ?_
   ·have hos := opOf_some hop e1 hno
    have heq2 : X = bindR (prs s.size f .sum (dropB stx2)) fun b st => .ok (.bin op a b,st) := by rw [← hXd,hp1]; simp only [bindR,hos]
    refine nextR (hBX (h3.trans h4) P4) (peekB_again hp1).1 fun w5 h5 P5 => ?_
    have h05 := (h3.trans h4).trans h5
    have hne2 : prs s.size f .sum (dropB stx2) ≠ .error (0,0) := fun h => hne1 (by rw [heq2,h]; rfl)
    refine cpR (hIH .sum w5 b _ (hBX h05 P5) hne2) ?_ ?_
    ·intro c st6 v6 w6 hr6 h6 r6 P6
     obtain ⟨y6,rfl⟩ := IsN.ifc r6
     refine ⟨y6,rfl,nw fun w7 h7 z7 b7 => ?_⟩
     refine ⟨((_,_),()),rfl,fun g => ⟨(h05.trans h6).trans h7.no,?_⟩⟩
     rw [heq2,hr6]
     refine ⟨_,rfl,?_,P6.ch h7 (fun h => h)⟩
     show IsN _ _ _ _
     simp only [IsN]
     refine ⟨w6.heap.size,_,_,rfl,⟨(h05.trans h6).size,by omega⟩,b7,?_,?_⟩
     ·exact (r3.keep (w0 := w) (Nat.le_refl _) hblt ((h4.trans h5).trans h6)).no (Nat.le_refl _) h7
     ·exact r6.no (w0 := w) h05.size h7
    ·intro c e w6 hr6 h6 ht
     rw [heq2,hr6]
     exact PostR.err h05 h6 ht
   ·refine ⟨((IntKind.i64.wrap ((i : Int) + 1)),()),rfl,⟨i + 1,stx2,wrap_succ (by omega) (by omega),by omega,P4,h3.trans h4,h23.trans h4,r3.keep (Nat.le_refl _) hblt h4,.inr ⟨t,hp1,fun j u hj hu => ?_⟩⟩,?_⟩
    ·rcases (by omega : j < i ∨ j = i) with h | rfl
     ·exact hno j u h hu
     ·rw [hop] at hu
      obtain rfl := Option.some.inj hu
      exact e1
    ·show 6 - (IntKind.i64.wrap ((i : Int) + 1)).toNat < 6 - ((i : Nat) : Int).toNat
     rw [wrap_succ (by omega) (by omega)]
     omega
  ·intro c e w4 hr h4 ht
   cases hp : peekB s.size stx with
   | ok y => rw [hp] at hr; simp [bindR] at hr
   | error c' =>
    rw [hp] at hr
    obtain rfl : c' = c := by simpa [bindR] using hr
    rcases hst with ⟨rfl,rfl⟩ | ⟨t',hp',hno⟩
    ·rw [← hXd,hp]
     exact PostR.err h3 h4 ht
    ·rw [(peekB_again hp').1] at hp
     cases hp
 ·have e : (6 : Int) ≤ (i : Int) := lt_f e
  rcases hst with ⟨rfl,rfl⟩ | ⟨t,hp,hno⟩
  ·omega
  have hon : opOf t 4 cmpOps = none := opOf_none fun u hu => by
   obtain ⟨j,hj,e⟩ := List.getElem_of_mem hu
   exact hno j u (by omega) (by rw [List.getElem?_eq_getElem hj,e])
  refine ⟨rfl,(),rfl,fun g => ⟨h3,?_⟩⟩
  rw [← hXd,hp]
  simp only [bindR,hon]
  exact ⟨_,rfl,r3,P3⟩
end Go.Proofs.YtmdmomccibpjbaaGreatDoor.E
namespace Go.Proofs.YtmdmomccibpjbaaGreatDoor.E
open Go Tr
open V (rest rest_cases restL sizeB pk_rest cx_i cp_i extract_list)
set_option maxRecDepth 100000
set_option maxHeartbeats 2000000
theorem bindR_ok {α β : Type} {x : R α} {g : α → PS → R β} {y : β × PS} (h : bindR x g = .ok y) : ∃ a st,x = .ok (a,st) ∧ g a st = .ok y := by
 cases x with
 | error c => cases h
 | ok p => exact ⟨p.1,p.2,rfl,h⟩
section
variable {L : Nat}
theorem wantB_op {kind : Nat} {text : Txt} {st st' : PS} {u : Unit} (h : wantB L kind text st = .ok (u,st')) :
  st'.op = if kind = 4 ∧ (text = sLp ∨ text = sLb) then st.op + 1 else if kind = 4 ∧ (text = sRp ∨ text = sRb) then st.op - 1 else st.op := by
 unfold wantB at h
 cases hp : peekB L st with
 | error c => rw [hp] at h; cases h
 | ok y =>
  obtain ⟨t,st1⟩ := y
  have ho := (peekB_again hp).2.2
  rw [hp] at h
  dsimp only at h
  split at h
  ·split at h
   ·rename_i hk
    rw [if_pos hk]
    split at h
    ·cases h
    ·cases h; rw [← ho]
   ·rename_i hk
    rw [if_neg hk]
    split at h
    ·rename_i hk2
     rw [if_pos hk2]
     cases h; rw [← ho]
    ·rename_i hk2
     rw [if_neg hk2]
     cases h; exact ho
  ·cases h
theorem wantB_op2 {text : Txt} {st st' : PS} {u : Unit} (h : wantB L 2 text st = .ok (u,st')) : st'.op = st.op := by
 rw [wantB_op h,if_neg (by rintro ⟨h,_⟩; omega),if_neg (by rintro ⟨h,_⟩; omega)]
theorem wantB_com {st st' : PS} {u : Unit} (h : wantB L 4 sCom st = .ok (u,st')) : st'.op = st.op := by
 rw [wantB_op h,if_neg (by decide),if_neg (by decide)]
theorem wantB_lp {st st' : PS} {u : Unit} (h : wantB L 4 sLp st = .ok (u,st')) : st'.op = st.op + 1 := by rw [wantB_op h,if_pos (by decide)]
theorem wantB_lb {st st' : PS} {u : Unit} (h : wantB L 4 sLb st = .ok (u,st')) : st'.op = st.op + 1 := by rw [wantB_op h,if_pos (by decide)]
theorem wantB_rp {st st' : PS} {u : Unit} (h : wantB L 4 sRp st = .ok (u,st')) : st'.op = st.op - 1 := by rw [wantB_op h,if_neg (by decide),if_pos (by decide)]
theorem wantB_rb {st st' : PS} {u : Unit} (h : wantB L 4 sRb st = .ok (u,st')) : st'.op = st.op - 1 := by rw [wantB_op h,if_neg (by decide),if_pos (by decide)]
theorem peekB_op {st st' : PS} {t : Tk} (h : peekB L st = .ok (t,st')) : st'.op = st.op := (peekB_again h).2.2
def KeepOp (part : PS → R N) : Prop := ∀ st n st',part st = .ok (n,st') → st'.op = st.op
theorem loopB_op {part : PS → R N} (hp : KeepOp part) {kind : Nat} {ops : List Txt} : ∀ (m : Nat) (a : N) (st : PS) (n : N) (st' : PS),loopB L part kind ops m a st = .ok (n,st') → st'.op = st.op
 | 0,_,_,_,_,h => by cases h
 | m + 1,a,st,n,st',h => by
  obtain ⟨t,st1,h1,h2⟩ := bindR_ok (show bindR (peekB L st) _ = _ from h)
  have o1 := peekB_op h1
  split at h2
  ·cases h2; exact o1
  ·obtain ⟨c,st2,h3,h4⟩ := bindR_ok h2
   have o2 := hp _ _ _ h3
   have o3 := loopB_op hp m _ _ _ _ h4
   rw [o3,o2]; exact o1
theorem itemsB_op {part : PS → R N} (hp : KeepOp part) : ∀ (m : Nat) (acc : List N) (st : PS) (l : List N) (st' : PS),itemsB L part m acc st = .ok (l,st') → st'.op = st.op
 | 0,_,_,_,_,h => by cases h
 | m + 1,acc,st,l,st',h => by
  unfold itemsB at h
  split at h
  ·obtain ⟨t,st1,h1,h2⟩ := bindR_ok h
   have o1 := peekB_op h1
   split at h2
   ·obtain ⟨c,st2,h3,h4⟩ := bindR_ok h2
    have o2 := hp _ _ _ h3
    have o3 := itemsB_op hp m _ _ _ _ h4
    rw [o3,o2]; exact o1
   ·cases h2; exact o1
  ·cases h; rfl
theorem argsB_op {part : PS → R N} (hp : KeepOp part) : ∀ (m : Nat) (acc : List N) (st : PS) (l : List N) (st' : PS),argsB L part m acc st = .ok (l,st') → st'.op = st.op
 | 0,_,_,_,_,h => by cases h; rfl
 | m + 1,acc,st,l,st',h => by
  unfold argsB at h
  obtain ⟨u,st1,h1,h2⟩ := bindR_ok h
  obtain ⟨c,st2,h3,h4⟩ := bindR_ok h2
  have o2 := hp _ _ _ h3
  have o3 := argsB_op hp m _ _ _ _ h4
  rw [o3,o2]
  split at h1
  ·cases h1; rfl
  ·exact wantB_com h1
theorem prs_op : ∀ (f : Nat) (lv : Lv),KeepOp (prs L f lv)
 | 0,_,_,_,_,h => by cases h
 | f + 1,lv,st,n,st',h => by
  cases lv with
  | expr =>
   obtain ⟨t,st1,h1,h2⟩ := bindR_ok (show bindR (peekB L st) _ = _ from h)
   have o1 := peekB_op h1
   split at h2
   ·obtain ⟨c,st2,h3,h2⟩ := bindR_ok h2
    obtain ⟨u,st3,h4,h2⟩ := bindR_ok h2
    obtain ⟨a,st4,h5,h2⟩ := bindR_ok h2
    obtain ⟨u,st5,h6,h2⟩ := bindR_ok h2
    obtain ⟨d,st6,h7,h2⟩ := bindR_ok h2
    cases h2
    rw [prs_op f _ _ _ _ h7,wantB_op2 h6,prs_op f _ _ _ _ h5,wantB_op2 h4,prs_op f _ _ _ _ h3]; exact o1
   ·rw [prs_op f _ _ _ _ h2]; exact o1
  | or =>
   obtain ⟨a,st1,h1,h2⟩ := bindR_ok (show bindR (prs L f .and st) _ = _ from h)
   rw [loopB_op (prs_op f _) _ _ _ _ _ h2,prs_op f _ _ _ _ h1]
  | and =>
   obtain ⟨a,st1,h1,h2⟩ := bindR_ok (show bindR (prs L f .not st) _ = _ from h)
   rw [loopB_op (prs_op f _) _ _ _ _ _ h2,prs_op f _ _ _ _ h1]
  | sum =>
   obtain ⟨a,st1,h1,h2⟩ := bindR_ok (show bindR (prs L f .term st) _ = _ from h)
   rw [loopB_op (prs_op f _) _ _ _ _ _ h2,prs_op f _ _ _ _ h1]
  | term =>
   obtain ⟨a,st1,h1,h2⟩ := bindR_ok (show bindR (prs L f .neg st) _ = _ from h)
   rw [loopB_op (prs_op f _) _ _ _ _ _ h2,prs_op f _ _ _ _ h1]
  | not =>
   obtain ⟨t,st1,h1,h2⟩ := bindR_ok (show bindR (peekB L st) _ = _ from h)
   have o1 := peekB_op h1
   split at h2
   ·obtain ⟨c,st2,h3,h2⟩ := bindR_ok h2
    cases h2
    rw [prs_op f _ _ _ _ h3]; exact o1
   ·rw [prs_op f _ _ _ _ h2]; exact o1
  | neg =>
   obtain ⟨t,st1,h1,h2⟩ := bindR_ok (show bindR (peekB L st) _ = _ from h)
   have o1 := peekB_op h1
   split at h2
   ·obtain ⟨c,st2,h3,h2⟩ := bindR_ok h2
    cases h2
    rw [prs_op f _ _ _ _ h3]; exact o1
   ·rw [prs_op f _ _ _ _ h2]; exact o1
  | cmp =>
   obtain ⟨a,st1,h1,h2⟩ := bindR_ok (show bindR (prs L f .sum st) _ = _ from h)
   obtain ⟨t,st2,h3,h2⟩ := bindR_ok h2
   have o2 := peekB_op h3
   have o1 := prs_op f _ _ _ _ h1
   split at h2
   ·cases h2; rw [o2,o1]
   ·obtain ⟨c,st3,h4,h2⟩ := bindR_ok h2
    cases h2
    rw [prs_op f _ _ _ _ h4,← o1,← o2]; rfl
  | atom =>
   obtain ⟨t,st1,h1,h2⟩ := bindR_ok (show bindR (peekB L st) _ = _ from h)
   have o1 := peekB_op h1
   split at h2
   ·cases h2; exact o1
   split at h2
   ·cases h2; exact o1
   split at h2
   ·obtain ⟨u,st2,h3,h2⟩ := bindR_ok h2
    obtain ⟨c,st3,h4,h2⟩ := bindR_ok h2
    obtain ⟨u,st4,h5,h2⟩ := bindR_ok h2
    cases h2
    rw [wantB_rp h5,prs_op f _ _ _ _ h4,wantB_lp h3,o1]; rfl
   split at h2
   ·rw [prs_op f _ _ _ _ h2]; exact o1
   split at h2
   ·split at h2
    ·rw [prs_op f _ _ _ _ h2]; exact o1
    ·split at h2
     ·cases h2; exact o1
     ·cases h2
   ·cases h2
  | list =>
   obtain ⟨u,st1,h1,h2⟩ := bindR_ok (show bindR (wantB L 4 sLb st) _ = _ from h)
   have o1 := wantB_lb h1
   obtain ⟨t,st2,h3,h2⟩ := bindR_ok h2
   have o2 := peekB_op h3
   split at h2
   ·obtain ⟨u,st3,h4,h2⟩ := bindR_ok h2
    cases h2
    rw [wantB_rb h4,o2,o1]; rfl
   ·obtain ⟨c,st3,h4,h2⟩ := bindR_ok h2
    obtain ⟨l,st4,h5,h2⟩ := bindR_ok h2
    obtain ⟨u,st5,h6,h2⟩ := bindR_ok h2
    cases h2
    rw [wantB_rb h6,itemsB_op (prs_op f _) _ _ _ _ _ h5,prs_op f _ _ _ _ h4,o2,o1]; rfl
  | call i =>
   obtain ⟨t,st1,h1,h2⟩ := bindR_ok (show bindR (peekB L st) _ = _ from h)
   have o1 := peekB_op h1
   obtain ⟨u,st2,h3,h2⟩ := bindR_ok h2
   obtain ⟨l,st3,h4,h2⟩ := bindR_ok h2
   obtain ⟨u,st4,h5,h2⟩ := bindR_ok h2
   cases h2
   rw [wantB_rp h5,argsB_op (prs_op f _) _ _ _ _ _ h4,wantB_lp h3]
   show st1.op + 1 - 1 = _
   rw [o1]; rfl
end
/-! ### Lists that grow -/
abbrev tNodes : TypeId := 112
theorem infoNode : (Tryz.prog.info? tNode).map (fun i => (i.zero,i.size,i.bytes)) = some (some .nilIface,1,16) := by kernel_rfl
structure Its (lo : Nat) (w : World) (p : Option Addr) (n c : Nat) (acc : List N) : Prop where
 ex : ∃ vs,Row w lo tNode 1 p n c vs ∧ IsL (fun k => lo ≤ k ∧ k < w.heap.size ∧ ¬ rowS p n c k) w acc vs
theorem IsL.app {B : Nat → Prop} {w : World} {x : N} {v : Value} (hx : IsN B w x v) : ∀ {l : List N} {vs : List Value},IsL B w l vs → IsL B w (l ++ [x]) (vs ++ [v])
 | [],vs,h => by
  simp only [IsL] at h
  subst h
  simp only [List.nil_append,IsL]
  exact ⟨v,[],rfl,hx,rfl⟩
 | y :: l,vs,h => by
  simp only [IsL] at h
  obtain ⟨a,r,rfl,h1,h2⟩ := h
  simp only [List.cons_append,IsL]
  exact ⟨a,r ++ [v],rfl,h1,IsL.app hx h2⟩
theorem Its.nil (lo : Nat) (w : World) : Its lo w none 0 0 [] := ⟨[],Row.nil _ _ _ _,by simp only [IsL]⟩
theorem Its.ch {lo : Nat} {w w' : World} {p : Option Addr} {n c : Nat} {acc : List N} {S : Nat → Prop} (h : Its lo w p n c acc) (hc : Ch S w w') (hS : ∀ k,lo ≤ k → ¬ S k) : Its lo w' p n c acc := by
 obtain ⟨vs,h1,h2⟩ := h
 exact ⟨vs,h1.ch hc (fun k hk => hS k (h1.lt hk).1),IsL.mono (fun k hk => ⟨hk.1,Nat.lt_of_lt_of_le hk.2.1 hc.size,hk.2.2⟩) _ _ (IsL.ch hc (fun k hk => hS k hk.1) _ _ h2)⟩
/-- The list as a part of a tree. -/
theorem Its.out {lo : Nat} {w : World} {p : Option Addr} {n c : Nat} {acc : List N} {B : Nat → Prop} (h : Its lo w p n c acc) (hB : ∀ k,lo ≤ k → k < w.heap.size → B k) :
  ∃ vs,vs.length = n ∧ n ≤ c ∧ c ≤ 9223372036854775807 ∧ (0 < n → ∃ g,p = some ⟨g,0,none⟩ ∧ B g ∧ ∀ (j : Nat) (u : Value),vs[j]? = some u → w.cell? ⟨g,j,none⟩ = some u) ∧ IsL B w acc vs := by
 obtain ⟨vs,h1,h2⟩ := h
 refine ⟨vs,by have := h1.len; omega,h1.cap.1,h1.cap.2,fun hn => ?_,IsL.mono (fun k hk => hB k hk.1 hk.2.1) _ _ h2⟩
 obtain ⟨g,e,hg,hc⟩ := h1.get hn
 exact ⟨g,e,hB g (h1.lt hg).1 (h1.lt hg).2,hc⟩
section
variable {R : Ending → World → Prop} {Q : Exit → List (Tmp × Value) → World → Prop} {w : World} {b nl o lo : Nat} {s : ByteArray} {p : Option Addr} {n c : Nat} {acc : List N} {cs : List Value} {tL : TypeId} {K : T}
theorem itm_tail {C : World → Prop} (hC : ∀ w,C w) {w1 : World} {a : N} {y : TypeId × Value} {st' : PS} {n16 : Nat} (hnl : nl < lo) (hb : b < nl) (hblk : Blk w nl cs tL) (ho : o < cs.length) (hI : Its lo w p n c acc) (ha : IsN (fun k => lo ≤ k ∧ k < w.heap.size ∧ ¬ rowS p n c k) w a (.iface y.1 y.2)) (hn6 : n ≤ 100) (hps : PsS w b s st') (hlo : lo ≤ w.heap.size) (b16 : Blk w n16 [.iface y.1 y.2] tNode)
  (h : ∀ w' p' c',Ch (fun k => nl ≤ k) w w' → PsS w' b s st' → Blk w' nl (cs.set o (.slice p' (n + 1) c')) tL → Its lo w' p' (n + 1) c' (acc ++ [a]) → wpT Tryz.prog R Q K .pl w') :
  wpT Tryz.prog R Q (.run (builtin .append #[tNodes,tNodes] tNodes #[false,false] #[.slice p n c,.slice (some ⟨n16,0,none⟩) 1 1]) (.one (.leaf .sl)) fun l => .back (.eff (.store ⟨nl,o,none⟩ (.slice l.1 l.2.1 l.2.2) (.back (.undrawn K))))) (.ef C) w := by
 obtain ⟨vs,h1,h2⟩ := hI
 refine ap_blk (by kernel_rfl) infoNode rfl (by omega) h1 hlo b16 (by simp) (by simp [Value.oneCell']) (by unfold maxLen; omega) (by omega) fun q' d' w1 g1 => bk (hC _) (eff_i ?_)
 have hrl : ∀ k,rowS p n c k → lo ≤ k := fun k hk => (h1.lt hk).1
 refine st_blk (hblk.ch g1.ch (fun hk => by have := hrl _ hk; omega)) ho rfl fun w2 h2' z2 b2 => bk (hC _) (un_h (h w2 q' d' ?_ ?_ b2 ⟨vs ++ [.iface y.1 y.2],?_,?_⟩))
 ·exact (g1.ch.mono fun k hk => by have := hrl k hk; omega).trans (h2'.mono fun k (e : k = nl) => by omega)
 ·exact (hps.ch g1.ch (fun hk => by have := hrl _ hk; omega)).ch h2' (fun e : b = nl => by omega)
 ·exact g1.own.ch h2' (fun k hk (e : k = nl) => by
   rcases g1.lies k hk with h' | h'
   ·have := hrl k h'; omega
   ·omega)
 ·have hsz := g1.ch.size
  have hsz2 := h2'.size
  have lift : ∀ k,(lo ≤ k ∧ k < w.heap.size ∧ ¬ rowS p n c k) → lo ≤ k ∧ k < w2.heap.size ∧ ¬ rowS q' (n + 1) d' k := fun k hk => ⟨hk.1,by omega,fun hk' => by
   rcases g1.lies k hk' with h' | h'
   ·exact hk.2.2 h'
   ·omega⟩
  refine IsL.app (IsN.mono lift _ _ (IsN.ch h2' (fun k hk (e : k = nl) => by omega) _ _ (IsN.ch g1.ch (fun k hk => hk.2.2) _ _ ha))) (IsL.mono lift _ _ (IsL.ch h2' (fun k hk (e : k = nl) => by omega) _ _ (IsL.ch g1.ch (fun k hk => hk.2.2) _ _ h2)))
/-- One item more. -/
theorem itm_i {X : E.R N} (hnl : nl < lo) (hb : b < nl) (hblk : Blk w nl cs tL) (hcs : cs[o]? = some (.slice p n c)) (hI : Its lo w p n c acc) (hn6 : n ≤ 100) (hlo : lo ≤ w.heap.size)
  (hcall : Calls Tryz.prog 19 #[.pointer (some ⟨b,0,none⟩)] w.drew (PostR b s w.drew (relN w.drew) X))
  (hok : ∀ a st' w' p' c',X = .ok (a,st') → Ch (fun k => k = b ∨ nl ≤ k) w w' → PsS w' b s st' → Blk w' nl (cs.set o (.slice p' (n + 1) c')) tL → Its lo w' p' (n + 1) c' (acc ++ [a]) → wpT Tryz.prog R Q K .pl w')
  (herr : ∀ c e w',X = .error c → Ch (· = b) w w' → Thrown w w' e (c.1 : Nat) (c.2 : Nat) → R e w') :
  wpT Tryz.prog R Q (.hdrawn (.both
   (.eff (.load ⟨nl,o,none⟩ .sl (fun l14 => .back (.eff (.callp 19 #[.pointer (some ⟨b,0,none⟩)] (.one (.leaf .ifc)) (fun i15 => .back (.eff (.new (.cells #[.iface i15.1 i15.2] tNode (0,0)) (fun n16 => .back (.eff
    (.run (builtin .append #[tNodes,tNodes] tNodes #[false,false] #[.slice l14.1 l14.2.1 l14.2.2,.slice (some ⟨n16,0,none⟩) 1 1]) (.one (.leaf .sl)) (fun l17 => .back (.eff (.store ⟨nl,o,none⟩ (.slice l17.1 l17.2.1 l17.2.2) (.back (.undrawn K)))))))))))
     (fun ch18 => .done (.panicked ch18)))))))
   (.both
    (.eff (.callp 19 #[.pointer (some ⟨b,0,none⟩)] (.one (.leaf .ifc)) (fun i19 => .back (.both
     (.eff (.load ⟨nl,o,none⟩ .sl (fun l20 => .back (.eff (.new (.cells #[.iface i19.1 i19.2] tNode (0,0)) (fun n21 => .back (.eff
      (.run (builtin .append #[tNodes,tNodes] tNodes #[false,false] #[.slice l20.1 l20.2.1 l20.2.2,.slice (some ⟨n21,0,none⟩) 1 1]) (.one (.leaf .sl)) (fun l22 => .back (.eff (.store ⟨nl,o,none⟩ (.slice l22.1 l22.2.1 l22.2.2) (.back (.undrawn K)))))))))))))
     (.both
      (.eff (.new (.cells #[.iface i19.1 i19.2] tNode (0,0)) (fun n23 => .back (.eff (.load ⟨nl,o,none⟩ .sl (fun l24 => .back (.eff
       (.run (builtin .append #[tNodes,tNodes] tNodes #[false,false] #[.slice l24.1 l24.2.1 l24.2.2,.slice (some ⟨n23,0,none⟩) 1 1]) (.one (.leaf .sl)) (fun l25 => .back (.eff (.store ⟨nl,o,none⟩ (.slice l25.1 l25.2.1 l25.2.2) (.back (.undrawn K)))))))))))))
      .triv)))
     (fun ch26 => .done (.panicked ch26))))
    .triv))) .pl w := by
 have hd := (Ch.refl No w).drew
 have ho : o < cs.length := (List.getElem?_eq_some_iff.1 hcs).1
 have bd := hblk.ch hd (fun h => h)
 have Id := hI.ch hd (fun k _ h => h)
 have hds := hd.size
 have cell : ∀ {w'},Blk w' nl cs tL → w'.cell? ⟨nl,o,none⟩ = some (.slice p n c) := fun hb' => by rw [hb'.cell]; exact hcs
 have err' : ∀ c e w',X = .error c → Ch (· = b) w.drew w' → Thrown w.drew w' e (c.1 : Nat) (c.2 : Nat) → R e w' := fun c e w' hX hc ht => herr c e w' hX (hd.no.trans hc) (ht.from hd.size)
 -- behind the call
 have mk : ∀ {a : N} {st' : PS} {v : Value} {w1 : World},X = .ok (a,st') → Ch (· = b) w.drew w1 → relN w.drew a v w1 → PsS w1 b s st' → Blk w1 nl cs tL ∧ Its lo w1 p n c acc ∧ IsN (fun k => lo ≤ k ∧ k < w1.heap.size ∧ ¬ rowS p n c k) w1 a v := fun {a st' v w1} _ h1 r1 P1 => by
  refine ⟨bd.ch h1 (fun e : nl = b => by omega),Id.ch h1 (fun k hk (e : k = b) => by omega),IsN.mono (fun k hk => ⟨Nat.le_trans (Nat.le_trans hlo hd.size) hk.1,hk.2,fun hr => ?_⟩) _ _ r1⟩
  obtain ⟨vs,h1',_⟩ := Id
  have := (h1'.lt hr).2
  have := hk.1
  omega
 have fin : ∀ {a : N} {y : TypeId × Value} {st' : PS} {w1 w2 : World} {n16 : Nat},X = .ok (a,st') → Ch (· = b) w.drew w1 → relN w.drew a (.iface y.1 y.2) w1 → PsS w1 b s st' → Ch No w1 w2 → Blk w2 n16 [.iface y.1 y.2] tNode →
   wpT Tryz.prog R Q (.run (builtin .append #[tNodes,tNodes] tNodes #[false,false] #[.slice p n c,.slice (some ⟨n16,0,none⟩) 1 1]) (.one (.leaf .sl)) fun l => .back (.eff (.store ⟨nl,o,none⟩ (.slice l.1 l.2.1 l.2.2) (.back (.undrawn K))))) (.ef (fun _ => True)) w2 := fun {a y st' w1 w2 n16} hX h1 r1 P1 h2 b16 => by
  obtain ⟨m1,m2,m3⟩ := mk hX h1 r1 P1
  have hs1 := h1.size
  have hs2 := h2.size
  refine itm_tail (C := fun _ => True) (fun _ => trivial) (w1 := w1) (y := y) hnl hb (m1.ch h2 (fun h => h)) ho (m2.ch h2 (fun _ _ h => h)) (IsN.mono (fun k hk => ⟨hk.1,by omega,hk.2.2⟩) _ _ (IsN.ch h2 (fun _ _ h => h) _ _ m3)) hn6 (P1.ch h2 (fun h => h)) (by omega) b16 fun w' p' c' h3 P3 b3 I3 => ?_
  exact hok a st' w' p' c' hX (((hd.no.trans h1).mono fun k h => .inl h).trans (h2.no.trans (h3.mono fun k h => .inr h))) P3 b3 I3
 refine hd_i (fun _ => True) trivial ⟨?_,?_,trivial⟩
 ·refine eff_i (ld_sl (cell bd) (bk trivial (eff_i (cpR hcall ?_ err'))))
  intro a st' v w1 hX h1 r1 P1
  obtain ⟨y,rfl⟩ := IsN.ifc r1
  exact ⟨y,rfl,bk trivial (eff_i (nw fun w2 h2 z2 b2 => bk trivial (eff_i (fin hX h1 r1 P1 h2 b2))))⟩
 ·refine eff_i (cpR hcall ?_ err')
  intro a st' v w1 hX h1 r1 P1
  obtain ⟨y,rfl⟩ := IsN.ifc r1
  obtain ⟨m1,m2,m3⟩ := mk hX h1 r1 P1
  refine ⟨y,rfl,bk trivial ⟨?_,?_,trivial⟩⟩
  ·exact eff_i (ld_sl (cell m1) (bk trivial (eff_i (nw fun w2 h2 z2 b2 => bk trivial (eff_i (fin hX h1 r1 P1 h2 b2))))))
  ·exact eff_i (nw fun w2 h2 z2 b2 => bk trivial (eff_i (ld_sl (cell (m1.ch h2 (fun h => h))) (bk trivial (eff_i (fin hX h1 r1 P1 h2 b2))))))
/-- The token that is known is looked at. -/
theorem isK {k : Bool → T} {md : Md} [hmd : md.Runs] {kind : Nat} {text : Txt} {st : PS} {t : Tk} {lv : Lv} (hB : Beg w b s lv st) (hp : peekB s.size st = .ok (t,st))
  (hok : ∀ w',Ch (· = b) w w' → PsS w' b s st → wpT Tryz.prog R Q (k (isB t kind text)) md w') :
  wpT Tryz.prog R Q (.callp 37 #[.pointer (some ⟨b,0,none⟩),.int .i64 (kind : Nat),.string (bytesL text)] (.one (.leaf .bool)) k (fun ch => .done (.panicked ch))) md w := by
 refine cpR (is_any w b s st kind text hB.ps hB.gl hB.big hB.sz) ?_ ?_
 ·intro x st' v w' hX h1 h2 h3
  obtain rfl : v = .bool x := h2
  rw [hp] at hX
  simp only [bindR,Except.ok.injEq,Prod.mk.injEq] at hX
  obtain ⟨rfl,rfl⟩ := hX
  exact ⟨_,rfl,hok w' h1 h3⟩
 ·intro c e w' hX
  rw [hp] at hX
  simp [bindR] at hX
end
end Go.Proofs.YtmdmomccibpjbaaGreatDoor.E
namespace Go.Proofs.YtmdmomccibpjbaaGreatDoor.E
open Go Tr
set_option maxRecDepth 100000
set_option maxHeartbeats 2000000
/-- How many bytes a state has left, and a token that is looked at. -/
def sizeS (st : PS) : Nat := st.l.length + match st.tok with
 | some t => if t.kind = 0 then 0 else 1
 | none => 0
theorem sizeS_drop (st : PS) : sizeS (dropB st) = st.l.length := rfl
theorem skB_len : ∀ l,(skB l).length ≤ l.length
 | [] => Nat.le_refl _
 | c :: r => by
  rw [skB]
  split
  ·have := skB_len r; rw [List.length_cons]; omega
  ·exact Nat.le_refl _
theorem numB_len : ∀ (l : Txt) (n x : Nat) (r : Txt),numB n l = some (x,r) → r.length ≤ l.length
 | [],n,x,r,h => by rw [numB] at h; cases h; exact Nat.le_refl _
 | c :: l,n,x,r,h => by
  rw [numB] at h
  split at h
  ·split at h
   ·cases h
   ·have := numB_len l _ _ _ h; rw [List.length_cons]; omega
  ·cases h; exact Nat.le_refl _
theorem numB_lt {c : UInt8} {l r : Txt} {n x : Nat} (hc : isD c = true) (h : numB n (c :: l) = some (x,r)) : r.length < (c :: l).length := by
 rw [numB,if_pos hc] at h
 split at h
 ·cases h
 ·have := numB_len l _ _ _ h; rw [List.length_cons]; omega
theorem dropWhile_len {p : UInt8 → Bool} : ∀ l : Txt,(l.dropWhile p).length ≤ l.length
 | [] => Nat.le_refl _
 | c :: l => by
  rw [List.dropWhile_cons]
  split
  ·have := dropWhile_len (p := p) l; rw [List.length_cons]; omega
  ·exact Nat.le_refl _
theorem signs_len : ∀ u ∈ signsM,1 ≤ u.length := by decide
theorem lexB_len {L : Nat} {l r : Txt} {t : Tk} (h : lexB L l = .ok (t,r)) : (t.kind = 0 ∧ r = []) ∨ (t.kind ≠ 0 ∧ r.length < l.length) := by
 have hs := skB_len l
 unfold lexB at h
 split at h
 ·cases h; exact .inl ⟨rfl,rfl⟩
 ·rename_i c l' hl
  rw [hl] at hs
  split at h
  ·rename_i hc
   split at h
   ·cases h
   ·rename_i n r' hn
    cases h
    exact .inr ⟨by simp,Nat.lt_of_lt_of_le (numB_lt hc hn) hs⟩
  ·split at h
   ·rename_i hc
    split at h
    ·cases h
     refine .inr ⟨by simp,?_⟩
     rw [List.dropWhile_cons_of_pos (p := isL) hc]
     have := dropWhile_len (p := isL) l'
     rw [List.length_cons] at hs
     omega
    ·cases h
   ·split at h
    ·rename_i hc
     split at h
     ·cases h
     ·rename_i t' r' hq
      cases h
      refine .inr ⟨by simp,?_⟩
      have hr : r = (c :: l').drop (1 + cloB false (c :: l').tail) := by
       unfold quoB at hq
       dsimp only at hq
       split at hq
       ·cases hq
       ·split at hq
        ·cases hq; rfl
        ·cases hq
      rw [hr,List.length_drop]
      rw [List.length_cons] at hs ⊢
      omega
    ·split at h
     ·rename_i s hsg
      cases h
      refine .inr ⟨by simp,?_⟩
      have := signs_len s (List.mem_of_find?_eq_some hsg)
      rw [List.length_drop]
      rw [List.length_cons] at hs ⊢
      omega
     ·cases h
theorem lexB_ne {L : Nat} {l : Txt} {c : Er} (h : lexB L l = .error c) : c ≠ (0,0) := by
 unfold lexB at h
 split at h
 ·cases h
 ·split at h
  ·split at h
   ·cases h; simp
   ·cases h
  ·split at h
   ·split at h
    ·cases h
    ·cases h; simp
   ·split at h
    ·split at h
     ·cases h; simp
     ·cases h
    ·split at h
     ·cases h
     ·cases h; simp
section
variable {L : Nat}
/-- No fuel was lacking; no more is left than m. -/
def Fine {α : Type} (m : Nat) (x : R α) : Prop := x ≠ .error (0,0) ∧ ∀ a st,x = .ok (a,st) → sizeS st ≤ m
theorem Fine.mono {α : Type} {m m' : Nat} {x : R α} (h : Fine m x) (hm : m ≤ m') : Fine m' x := ⟨h.1,fun a st e => Nat.le_trans (h.2 a st e) hm⟩
theorem fine_ok {α : Type} {m : Nat} {a : α} {st : PS} (h : sizeS st ≤ m) : Fine m (.ok (a,st) : R α) := ⟨by simp,fun _ _ e => by cases e; exact h⟩
theorem fine_er {α : Type} {m : Nat} {c : Er} (h : c ≠ (0,0)) : Fine m (.error c : R α) := ⟨fun e => h (by cases e; rfl),fun _ _ e => by cases e⟩
theorem fine_bind {α β : Type} {m : Nat} {x : R α} {g : α → PS → R β} (hx : x ≠ .error (0,0)) (hg : ∀ a st,x = .ok (a,st) → Fine m (g a st)) : Fine m (bindR x g) := by
 cases x with
 | error c => exact fine_er (fun e => hx (by rw [e]))
 | ok y => exact hg y.1 y.2 rfl
theorem peek_fine {st st' : PS} {t : Tk} (h : peekB L st = .ok (t,st')) : sizeS st' ≤ sizeS st ∧ sizeS (dropB st') ≤ sizeS st ∧ (t.kind ≠ 0 → sizeS (dropB st') + 1 ≤ sizeS st) ∧ sizeS st' = (sizeS (dropB st') + if t.kind = 0 then 0 else 1) := by
 unfold peekB at h
 split at h
 ·rename_i t' ht
  cases h
  have e : sizeS st = st.l.length + if t.kind = 0 then 0 else 1 := by unfold sizeS; rw [ht]
  rw [sizeS_drop,e]
  refine ⟨Nat.le_refl _,Nat.le_add_right _ _,fun hk => ?_,rfl⟩
  rw [if_neg hk]
  exact Nat.le_refl _
 ·rename_i ht
  split at h
  ·cases h
  ·rename_i t' r hl
   cases h
   have e : sizeS st = st.l.length := by unfold sizeS; rw [ht]; rfl
   have e2 : sizeS ⟨r,some t,st.op⟩ = r.length + if t.kind = 0 then 0 else 1 := rfl
   rw [sizeS_drop,e,e2]
   dsimp only
   rcases lexB_len hl with ⟨h1,rfl⟩ | ⟨h1,h2⟩
   ·rw [if_pos h1]
    exact ⟨Nat.zero_le _,Nat.zero_le _,fun h => absurd h1 h,rfl⟩
   ·rw [if_neg h1]
    exact ⟨h2,Nat.le_of_lt h2,fun _ => h2,rfl⟩
theorem peek_ne {st : PS} : peekB L st ≠ .error (0,0) := by
 unfold peekB
 split
 ·simp
 ·split
  ·rename_i e he
   intro h
   cases h
   exact lexB_ne he rfl
  ·simp
theorem isB_kind {t : Tk} {kind : Nat} {text : Txt} (h : isB t kind text = true) : t.kind = kind := by
 unfold isB at h
 rw [Bool.and_eq_true,decide_eq_true_eq] at h
 exact h.1
theorem want_ne {kind : Nat} {text : Txt} {st : PS} : wantB L kind text st ≠ .error (0,0) := by
 unfold wantB
 have := @peek_ne L st
 split
 ·rename_i e he
  rw [he] at this
  intro h
  cases h
  exact this rfl
 ·split
  ·split
   ·split
    ·simp
    ·simp
   ·split <;> simp
  ·simp
theorem want_fine {kind : Nat} {text : Txt} {st st' : PS} {u : Unit} (hk : kind ≠ 0) (h : wantB L kind text st = .ok (u,st')) : sizeS st' + 1 ≤ sizeS st := by
 unfold wantB at h
 split at h
 ·cases h
 ·rename_i t st1 hp
  obtain ⟨h1,h2,h3,h4⟩ := peek_fine hp
  split at h
  ·rename_i hb
   have h5 := h3 (by rw [isB_kind hb]; exact hk)
   have : sizeS st' = sizeS (dropB st1) := by
    split at h
    ·split at h
     ·cases h
     ·cases h; rfl
    ·split at h
     ·cases h; rfl
     ·cases h; rfl
   omega
  ·cases h
theorem opOf_kind {t : Tk} {kind : Nat} {ops : List Txt} {op : Txt} (h : opOf t kind ops = some op) : t.kind = kind := by
 unfold opOf at h
 split at h
 ·rename_i hk; exact hk
 ·cases h
def rk : Lv → Nat
 | .expr => 11
 | .or => 10
 | .and => 9
 | .not => 8
 | .cmp => 7
 | .sum => 6
 | .term => 5
 | .neg => 4
 | .atom => 3
 | .list => 2
 | .call _ => 2
theorem loop_fine {part : PS → R N} {kind : Nat} {ops : List Txt} (hk : kind ≠ 0) {M : Nat} (hp : ∀ st,sizeS st < M → Fine (sizeS st) (part st)) : ∀ (m : Nat) (a : N) (st : PS),sizeS st < m → sizeS st ≤ M → Fine (sizeS st) (loopB L part kind ops m a st)
 | 0,_,_,h,_ => by omega
 | m + 1,a,st,h,hM => by
  show Fine _ (bindR (peekB L st) _)
  refine fine_bind peek_ne fun t st1 he => ?_
  obtain ⟨h1,h2,h3,h4⟩ := peek_fine he
  split
  ·exact fine_ok h1
  ·rename_i op hop
   have h5 := h3 (by rw [opOf_kind hop]; exact hk)
   have hpp := hp (dropB st1) (by omega)
   refine fine_bind hpp.1 fun c st2 he2 => ?_
   have h6 := hpp.2 c st2 he2
   exact (loop_fine hk hp m _ st2 (by omega) (by omega)).mono (by omega)
theorem items_fine {part : PS → R N} {M : Nat} (hp : ∀ st,sizeS st < M → Fine (sizeS st) (part st)) : ∀ (m : Nat) (acc : List N) (st : PS),sizeS st < m → sizeS st ≤ M → Fine (sizeS st) (itemsB L part m acc st)
 | 0,_,_,h,_ => by omega
 | m + 1,acc,st,h,hM => by
  unfold itemsB
  split
  ·refine fine_bind peek_ne fun t st1 he => ?_
   obtain ⟨h1,h2,h3,h4⟩ := peek_fine he
   split
   ·rename_i hb
    have h5 := h3 (by rw [isB_kind hb]; omega)
    have hpp := hp (dropB st1) (by omega)
    refine fine_bind hpp.1 fun c st2 he2 => ?_
    have h6 := hpp.2 c st2 he2
    exact (items_fine hp m _ st2 (by omega) (by omega)).mono (by omega)
   ·exact fine_ok h1
  ·exact fine_ok (Nat.le_refl _)
theorem args_fine {part : PS → R N} {M : Nat} (hp : ∀ st,sizeS st ≤ M → Fine (sizeS st) (part st)) : ∀ (m : Nat) (acc : List N) (st : PS),sizeS st ≤ M → Fine (sizeS st) (argsB L part m acc st)
 | 0,_,_,_ => fine_ok (Nat.le_refl _)
 | m + 1,acc,st,hM => by
  unfold argsB
  have h0 : Fine (sizeS st) (if acc = [] then (.ok ((),st) : R Unit) else wantB L 4 sCom st) := by
   split
   ·exact fine_ok (Nat.le_refl _)
   ·exact ⟨want_ne,fun a st' he => by have := want_fine (by omega) he; omega⟩
  refine fine_bind h0.1 fun u st1 he => ?_
  have h1 := h0.2 u st1 he
  have hpp := hp st1 (by omega)
  refine fine_bind hpp.1 fun c st2 he2 => ?_
  have h2 := hpp.2 c st2 he2
  exact (args_fine hp m _ st2 (by omega)).mono (by omega)
theorem prs_fine : ∀ (f : Nat) (lv : Lv) (st : PS),12 * sizeS st + rk lv < f → Fine (sizeS st) (prs L f lv st)
 | 0,_,_,h => by omega
 | f + 1,lv,st,h => by
  have chain : ∀ (lv' : Lv) (kind : Nat) (ops : List Txt),kind ≠ 0 → 12 * sizeS st + rk lv' < f → Fine (sizeS st) (bindR (prs L f lv' st) fun a st => loopB L (prs L f lv') kind ops f a st) := fun lv' kind ops hk hf => by
   have h1 := prs_fine f lv' st hf
   refine fine_bind h1.1 fun a st1 he => ?_
   have h2 := h1.2 a st1 he
   exact (loop_fine hk (M := sizeS st) (fun st2 h3 => prs_fine f lv' st2 (by omega)) f a st1 (by omega) h2).mono h2
  cases lv with
  | expr =>
   have h : 12 * sizeS st + 11 < f + 1 := h
   show Fine _ (bindR (peekB L st) _)
   refine fine_bind peek_ne fun t st1 he => ?_
   obtain ⟨h1,h2,h3,h4⟩ := peek_fine he
   split
   ·rename_i hb
    have h5 := h3 (by rw [isB_kind hb]; omega)
    have p1 := prs_fine f .expr (dropB st1) (by show _ + 11 < f; omega)
    refine fine_bind p1.1 fun c st2 e2 => ?_
    have q1 := p1.2 _ _ e2
    refine fine_bind want_ne fun u st3 e3 => ?_
    have q2 := want_fine (by omega) e3
    have p2 := prs_fine f .expr st3 (by show _ + 11 < f; omega)
    refine fine_bind p2.1 fun c st4 e4 => ?_
    have q3 := p2.2 _ _ e4
    refine fine_bind want_ne fun u st5 e5 => ?_
    have q4 := want_fine (by omega) e5
    have p3 := prs_fine f .expr st5 (by show _ + 11 < f; omega)
    refine fine_bind p3.1 fun c st6 e6 => ?_
    have q5 := p3.2 _ _ e6
    exact fine_ok (by omega)
   ·exact (prs_fine f .or st1 (by show _ + 10 < f; omega)).mono h1
  | or => exact chain .and _ _ (by omega) (by have h : 12 * sizeS st + 10 < f + 1 := h; show _ + 9 < f; omega)
  | and => exact chain .not _ _ (by omega) (by have h : 12 * sizeS st + 9 < f + 1 := h; show _ + 8 < f; omega)
  | sum => exact chain .term _ _ (by omega) (by have h : 12 * sizeS st + 6 < f + 1 := h; show _ + 5 < f; omega)
  | term => exact chain .neg _ _ (by omega) (by have h : 12 * sizeS st + 5 < f + 1 := h; show _ + 4 < f; omega)
  | not =>
   have h : 12 * sizeS st + 8 < f + 1 := h
   show Fine _ (bindR (peekB L st) _)
   refine fine_bind peek_ne fun t st1 he => ?_
   obtain ⟨h1,h2,h3,h4⟩ := peek_fine he
   split
   ·rename_i hb
    have h5 := h3 (by rw [isB_kind hb]; omega)
    have p1 := prs_fine f .not (dropB st1) (by show _ + 8 < f; omega)
    refine fine_bind p1.1 fun c st2 e2 => fine_ok ?_
    have q1 := p1.2 _ _ e2
    omega
   ·exact (prs_fine f .cmp st1 (by show _ + 7 < f; omega)).mono h1
  | neg =>
   have h : 12 * sizeS st + 4 < f + 1 := h
   show Fine _ (bindR (peekB L st) _)
   refine fine_bind peek_ne fun t st1 he => ?_
   obtain ⟨h1,h2,h3,h4⟩ := peek_fine he
   split
   ·rename_i hb
    have h5 := h3 (by rw [isB_kind hb]; omega)
    have p1 := prs_fine f .neg (dropB st1) (by show _ + 4 < f; omega)
    refine fine_bind p1.1 fun c st2 e2 => fine_ok ?_
    have q1 := p1.2 _ _ e2
    omega
   ·exact (prs_fine f .atom st1 (by show _ + 3 < f; omega)).mono h1
  | cmp =>
   have h : 12 * sizeS st + 7 < f + 1 := h
   have p1 := prs_fine f .sum st (by show _ + 6 < f; omega)
   show Fine _ (bindR (prs L f .sum st) _)
   refine fine_bind p1.1 fun a st1 e1 => ?_
   have q1 := p1.2 _ _ e1
   refine fine_bind peek_ne fun t st2 he => ?_
   obtain ⟨h1,h2,h3,h4⟩ := peek_fine he
   split
   ·exact fine_ok (by omega)
   ·rename_i op hop
    have h5 := h3 (by rw [opOf_kind hop]; omega)
    have p2 := prs_fine f .sum (dropB st2) (by show _ + 6 < f; omega)
    refine fine_bind p2.1 fun c st3 e3 => fine_ok ?_
    have q2 := p2.2 _ _ e3
    omega
  | atom =>
   have h : 12 * sizeS st + 3 < f + 1 := h
   show Fine _ (bindR (peekB L st) _)
   refine fine_bind peek_ne fun t st1 he => ?_
   obtain ⟨h1,h2,h3,h4⟩ := peek_fine he
   split
   ·exact fine_ok h2
   split
   ·exact fine_ok h2
   split
   ·refine fine_bind want_ne fun u st2 e2 => ?_
    have q1 := want_fine (by omega) e2
    have p1 := prs_fine f .expr st2 (by show _ + 11 < f; omega)
    refine fine_bind p1.1 fun c st3 e3 => ?_
    have q2 := p1.2 _ _ e3
    refine fine_bind want_ne fun u st4 e4 => fine_ok ?_
    have q3 := want_fine (by omega) e4
    omega
   split
   ·exact (prs_fine f .list st1 (by show _ + 2 < f; omega)).mono h1
   split
   ·split
    ·exact (prs_fine f (.call _) st1 (by show _ + 2 < f; omega)).mono h1
    ·split
     ·exact fine_ok h2
     ·exact fine_er (by simp)
   ·exact fine_er (by simp)
  | list =>
   have h : 12 * sizeS st + 2 < f + 1 := h
   show Fine _ (bindR (wantB L 4 sLb st) _)
   refine fine_bind want_ne fun u st1 e1 => ?_
   have q1 := want_fine (by omega) e1
   refine fine_bind peek_ne fun t st2 he => ?_
   obtain ⟨h1,h2,h3,h4⟩ := peek_fine he
   split
   ·refine fine_bind want_ne fun u st3 e3 => fine_ok ?_
    have q3 := want_fine (by omega) e3
    omega
   ·have p1 := prs_fine f .expr st2 (by show _ + 11 < f; omega)
    refine fine_bind p1.1 fun c st3 e3 => ?_
    have q2 := p1.2 _ _ e3
    have p2 := items_fine (L := L) (part := prs L f .expr) (M := sizeS st3) (fun st4 h5 => prs_fine f .expr st4 (by show _ + 11 < f; omega)) f [c] st3 (by omega) (Nat.le_refl _)
    refine fine_bind p2.1 fun l st4 e4 => ?_
    have q3 := p2.2 _ _ e4
    refine fine_bind want_ne fun u st5 e5 => fine_ok ?_
    have q4 := want_fine (by omega) e5
    omega
  | call i =>
   have h : 12 * sizeS st + 2 < f + 1 := h
   show Fine _ (bindR (peekB L st) _)
   refine fine_bind peek_ne fun t st1 he => ?_
   obtain ⟨h1,h2,h3,h4⟩ := peek_fine he
   refine fine_bind want_ne fun u st2 e2 => ?_
   have q1 := want_fine (by omega) e2
   have p1 := args_fine (L := L) (part := prs L f .expr) (M := sizeS st2) (fun st4 h5 => prs_fine f .expr st4 (by show _ + 11 < f; omega)) (takesB i) [] st2 (Nat.le_refl _)
   refine fine_bind p1.1 fun l st3 e3 => ?_
   have q2 := p1.2 _ _ e3
   refine fine_bind want_ne fun u st4 e4 => fine_ok ?_
   have q3 := want_fine (by omega) e4
   omega
/-- A whole text's reading ends. -/
theorem prs_whole (l : Txt) : prs l.length (12 * l.length + 13) .expr ⟨l,none,0⟩ ≠ .error (0,0) :=
 (prs_fine (L := l.length) (12 * l.length + 13) .expr ⟨l,none,0⟩ (by show 12 * (l.length + 0) + 11 < _; omega)).1
end
end Go.Proofs.YtmdmomccibpjbaaGreatDoor.E
