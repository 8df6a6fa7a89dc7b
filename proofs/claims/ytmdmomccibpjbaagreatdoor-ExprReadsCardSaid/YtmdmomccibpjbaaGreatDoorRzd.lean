/- The program's writer: its table of levels; the level of a tree. The program's writer: a tree's tokens. -/
import Derived.Test.YtmdmomccibpjbaaGreatDoorRzb
import Derived.Test.YtmdmomccibpjbaaGreatDoorPwg
import Derived.MapKept
namespace Go.Proofs.YtmdmomccibpjbaaGreatDoor.E
open Go Tr
open Go.MapKept (findNow_spec run_setObj_map run_checkKey run_findKey IsKey)
set_option maxRecDepth 100000
set_option maxHeartbeats 2000000
/-! the tree of function 3200 -/
def s30a : Script := .lit (.lit (.lit .nil))
theorem t30a (qm0 : Option Nat) (qcl : Addr) : fnT Tryz.prog Tryz.f30 #[.map qm0,.iface 85 (.pointer (some qcl))] s30a = .done (.returned (.int .i64 8)) := by kernel_rfl
/-! the tree of function 3201 -/
def s30b : Script := .lit (.lit (.lit .nil))
theorem t30b (qm0 : Option Nat) (qcl : Addr) : fnT Tryz.prog Tryz.f30 #[.map qm0,.iface 89 (.pointer (some qcl))] s30b = .done (.returned (.int .i64 8)) := by kernel_rfl
/-! the tree of function 3202 -/
def s30c : Script := .lit (.lit (.lit .nil))
theorem t30c (qm0 : Option Nat) (qcl : Addr) : fnT Tryz.prog Tryz.f30 #[.map qm0,.iface 98 (.pointer (some qcl))] s30c = .done (.returned (.int .i64 8)) := by kernel_rfl
/-! the tree of function 3203 -/
def s30d : Script := .lit (.lit (.lit (.ld .str (.sym .nil .nil))))
theorem t30d (qm0 : Option Nat) (qcl : Addr) : fnT Tryz.prog Tryz.f30 #[.map qm0,.iface 101 (.pointer (some qcl))] s30d = .load qcl .str (fun s1 => .br (s1.toList == (bytesL [110,111,116]).toList) (.done (.returned (.int .i64 3))) (.done (.returned (.int .i64 7)))) := by kernel_rfl
/-! the tree of function 3204 -/
def s30e : Script := .lit (.lit (.ld .str (.rn (.one (.agg [.int .i64,.int .i64,.int .i64])) .nil)))
theorem t30e (qm0 : Option Nat) (qcl : Addr) : fnT Tryz.prog Tryz.f30 #[.map qm0,.iface 104 (.pointer (some qcl))] s30e = .load qcl .str (fun s1 => .run (vNext (Instr.lookup 45 (.map qm0) (.string s1) false)) (.one (.agg [.int .i64,.int .i64,.int .i64])) (fun r2 => .done (.returned (.int .i64 r2.1)))) := by kernel_rfl
/-! the tree of function 3205 -/
def s30f : Script := .lit .nil
theorem t30f (qm0 : Option Nat) (qcl : Addr) : fnT Tryz.prog Tryz.f30 #[.map qm0,.iface 107 (.pointer (some qcl))] s30f = .done (.returned (.int .i64 0)) := by kernel_rfl
/-! the tree of function 3206 -/
def s30g : Script := .lit (.lit (.lit .nil))
theorem t30g (qm0 : Option Nat) (qcl : Addr) : fnT Tryz.prog Tryz.f30 #[.map qm0,.iface 110 (.pointer (some qcl))] s30g = .done (.returned (.int .i64 8)) := by kernel_rfl
/-! the tree of function 3207 -/
def s30h : Script := .lit (.lit (.lit .nil))
theorem t30h (qm0 : Option Nat) (qcl : Addr) : fnT Tryz.prog Tryz.f30 #[.map qm0,.iface 115 (.pointer (some qcl))] s30h = .done (.returned (.int .i64 8)) := by kernel_rfl
abbrev tWriter : TypeId := 45
theorem undW : ∃ kt et,Tryz.prog.underlying tWriter = some (.map kt et) ∧ Tryz.prog.underlying kt = some .string := ⟨9,83,by kernel_rfl,by kernel_rfl⟩
def opsW : List Txt := [tOr,tAnd,sEq,sNe,sLt,sLe,sGt,sGe,sPlus,sMinus,sMul,sDiv,sMod]
def lvV (op : Txt) : Value := .agg #[.int .i64 (opLv op : Nat),.int .i64 (opL op : Nat),.int .i64 (opR op : Nat)]
def entW (op : Txt) (i : Nat) : MapEntry := ⟨.string (bytesL op),lvV op,i⟩
def tabW : List MapEntry := [entW tOr 0,entW tAnd 1,entW sEq 2,entW sNe 3,entW sLt 4,entW sLe 5,entW sGt 6,entW sGe 7,entW sPlus 8,entW sMinus 9,entW sMul 10,entW sDiv 11,entW sMod 12]
/-- The table of levels stands at m. -/
def MapW (w : World) (m : Nat) : Prop := w.heap[m]? = some (.map tabW.toArray 13)
theorem MapW.ch {S : Nat → Prop} {w w' : World} {m : Nat} (h : MapW w m) (hc : Ch S w w') (hS : ¬ S m) : MapW w' m := (hc.block m (Array.getElem?_eq_some_iff.1 h).1 hS).trans h
theorem MapW.lt {w : World} {m : Nat} (h : MapW w m) : m < w.heap.size := (Array.getElem?_eq_some_iff.1 h).1
theorem bytes_inj {a b : Txt} (h : Value.string (bytesL a) = .string (bytesL b)) : a = b := by
 have := congrArg (fun v : Value => match v with | .string s => s.data.toList | _ => []) h
 exact this
def keysNe (es : List MapEntry) (op : Txt) : Bool := es.all fun x => match x.key with
 | .string s => !(s.data.toList == op)
 | _ => false
theorem keysNe_at {es : List MapEntry} {op : Txt} (h : keysNe es op = true) {x : MapEntry} (hx : x ∈ es) : ∃ s,x.key = .string s ∧ s.data.toList ≠ op := by
 have := List.all_eq_true.1 h x hx
 revert this
 cases x.key with
 | string s => exact fun h => ⟨s,rfl,by simpa using h⟩
 | _ => exact fun h => by cases h
section
variable {R : Ending → World → Prop} {Q : Exit → List (Tmp × Value) → World → Prop} {w : World}
/-- A key that isn't there yet. -/
theorem mu_i {es : List MapEntry} {clock m : Nat} {op : Txt} {v : Value} {K : T} (hb : w.heap[m]? = some (.map es.toArray clock)) (hk : keysNe es op = true)
  (h : ∀ w',Ch (· = m) w w' → w'.heap.size = w.heap.size → w'.heap[m]? = some (.map (es ++ [(⟨.string (bytesL op),v,clock⟩ : MapEntry)]).toArray (clock + 1)) → wpT Tryz.prog R Q K .pl w') :
  wpT Tryz.prog R Q (.act (uNext (Instr.mapUpdate tWriter (.map (some m)) (.string (bytesL op)) v)) K) .pl w := by
 obtain ⟨kt,et,hu,hks⟩ := undW
 have hlt : m < w.heap.size := (Array.getElem?_eq_some_iff.1 hb).1
 have hfind : Instr.findNow .string (.string (bytesL op)) es 0 = some none := by
  rcases findNow_spec (d := .string) (k := .string (bytesL op)) trivial es 0 (fun x hx => by obtain ⟨t,ht,_⟩ := keysNe_at hk hx; rw [ht]; trivial) with ⟨h1,_⟩ | ⟨j,e,_,h2,h3⟩
  ·exact h1
  ·obtain ⟨t,ht,hne⟩ := keysNe_at hk (List.mem_of_getElem? h2)
   rw [ht] at h3
   cases h3
   exact absurd rfl hne
 have hrun : (Instr.mapUpdate tWriter (.map (some m)) (.string (bytesL op)) v).run Tryz.prog w = .ok () { w with heap := w.heap.setIfInBounds m (.map (es ++ [(⟨.string (bytesL op),v,clock⟩ : MapEntry)]).toArray (clock + 1)) } := by
  unfold Instr.mapUpdate
  simp only [Sem.run_bind,run_underlying hu,Result.andThen,Go.MapKept.run_getObj_map hb,run_checkKey hks (show IsKey .string (.string (bytesL op)) from trivial),run_findKey hks hfind,run_setObj_map _ hb]
  simp
 refine ⟨_,by unfold uNext; simp only [Sem.run_bind,hrun,Result.andThen]; rfl,h _ ?_ (by simp) (by simp [hlt])⟩
 exact ⟨rfl,rfl,rfl,by simp,fun k hk hn => by
  have : m ≠ k := fun e => hn e.symm
  simp [this]⟩
/-- What is looked up. -/
theorem lk_i {m : Nat} {op : Txt} {K : (Int × Int × Int × Unit) → T} (hm : MapW w m) (hop : op ∈ opsW) (h : wpT Tryz.prog R Q (K ((opLv op : Int),(opL op : Int),(opR op : Int),())) .pl w) :
  wpT Tryz.prog R Q (.run (vNext (Instr.lookup tWriter (.map (some m)) (.string (bytesL op)) false)) (.one (.agg [.int .i64,.int .i64,.int .i64])) K) .pl w := by
 obtain ⟨kt,et,hu,hks⟩ := undW
 have hkeys : ∀ x ∈ tabW,∃ t ∈ opsW,∃ i,x = entW t i := by
  intro x hx
  simp only [tabW,List.mem_cons,List.not_mem_nil,or_false] at hx
  rcases hx with rfl | rfl | rfl | rfl | rfl | rfl | rfl | rfl | rfl | rfl | rfl | rfl | rfl <;> exact ⟨_,by decide,_,rfl⟩
 have hin : ∀ t ∈ opsW,∃ x ∈ tabW,x.key = .string (bytesL t) := by
  intro t ht
  simp only [opsW,List.mem_cons,List.not_mem_nil,or_false] at ht
  rcases ht with rfl | rfl | rfl | rfl | rfl | rfl | rfl | rfl | rfl | rfl | rfl | rfl | rfl
  ·exact ⟨entW tOr 0,by simp [tabW],rfl⟩
  ·exact ⟨entW tAnd 1,by simp [tabW],rfl⟩
  ·exact ⟨entW sEq 2,by simp [tabW],rfl⟩
  ·exact ⟨entW sNe 3,by simp [tabW],rfl⟩
  ·exact ⟨entW sLt 4,by simp [tabW],rfl⟩
  ·exact ⟨entW sLe 5,by simp [tabW],rfl⟩
  ·exact ⟨entW sGt 6,by simp [tabW],rfl⟩
  ·exact ⟨entW sGe 7,by simp [tabW],rfl⟩
  ·exact ⟨entW sPlus 8,by simp [tabW],rfl⟩
  ·exact ⟨entW sMinus 9,by simp [tabW],rfl⟩
  ·exact ⟨entW sMul 10,by simp [tabW],rfl⟩
  ·exact ⟨entW sDiv 11,by simp [tabW],rfl⟩
  ·exact ⟨entW sMod 12,by simp [tabW],rfl⟩
 have hfind : ∃ j,Instr.findNow .string (.string (bytesL op)) tabW 0 = some (some (j,lvV op)) := by
  rcases findNow_spec (d := .string) (k := .string (bytesL op)) trivial tabW 0 (fun x hx => by obtain ⟨t,_,i,rfl⟩ := hkeys x hx; trivial) with ⟨_,h2⟩ | ⟨j,e,h1,h2,h3⟩
  ·obtain ⟨x,hx,hxk⟩ := hin op hop
   exact absurd hxk (h2 x hx)
  ·obtain ⟨t,_,i,rfl⟩ := hkeys e (List.mem_of_getElem? h2)
   have : t = op := bytes_inj h3
   subst this
   exact ⟨_,h1⟩
 obtain ⟨j,hfind⟩ := hfind
 have hrun : (Instr.lookup tWriter (.map (some m)) (.string (bytesL op)) false).run Tryz.prog w = .ok (lvV op) w := by
  unfold Instr.lookup
  unfold MapW at hm
  simp only [Sem.run_bind,run_underlying hu,Result.andThen,Go.MapKept.run_getObj_map hm,run_checkKey hks (show IsKey .string (.string (bytesL op)) from trivial),run_findKey hks hfind,Sem.run_pure]
  simp
 refine t_run (x := ((opLv op : Int),(opL op : Int),(opR op : Int),())) (w' := w) ?_ h
 unfold vNext
 simp only [Sem.run_bind,hrun,Result.andThen]
 rfl
end
/-! the tree of function 14 -/
def s14 : Script := .nop (.nop (.nop (.ac (.nop (.ac (.nop (.ac (.nop (.ac (.nop (.ac (.nop (.ac (.nop (.ac (.nop (.ac (.nop (.ac (.nop (.ac (.nop (.ac (.nop (.ac (.nop (.ac .nil)))))))))))))))))))))))))))
theorem t14 : fnT Tryz.prog Tryz.f14 #[] s14 = .new (.map #[] 0) (fun n1 => .act (uNext (Instr.mapUpdate 45 (.map (some n1)) (.string (bytesL [111,114])) (.agg #[.int .i64 1,.int .i64 1,.int .i64 2]))) (.act (uNext (Instr.mapUpdate 45 (.map (some n1)) (.string (bytesL [97,110,100])) (.agg #[.int .i64 2,.int .i64 2,.int .i64 3]))) (.act (uNext (Instr.mapUpdate 45 (.map (some n1)) (.string (bytesL [61,61])) (.agg #[.int .i64 4,.int .i64 5,.int .i64 5]))) (.act (uNext (Instr.mapUpdate 45 (.map (some n1)) (.string (bytesL [33,61])) (.agg #[.int .i64 4,.int .i64 5,.int .i64 5]))) (.act (uNext (Instr.mapUpdate 45 (.map (some n1)) (.string (bytesL [60])) (.agg #[.int .i64 4,.int .i64 5,.int .i64 5]))) (.act (uNext (Instr.mapUpdate 45 (.map (some n1)) (.string (bytesL [60,61])) (.agg #[.int .i64 4,.int .i64 5,.int .i64 5]))) (.act (uNext (Instr.mapUpdate 45 (.map (some n1)) (.string (bytesL [62])) (.agg #[.int .i64 4,.int .i64 5,.int .i64 5]))) (.act (uNext (Instr.mapUpdate 45 (.map (some n1)) (.string (bytesL [62,61])) (.agg #[.int .i64 4,.int .i64 5,.int .i64 5]))) (.act (uNext (Instr.mapUpdate 45 (.map (some n1)) (.string (bytesL [43])) (.agg #[.int .i64 5,.int .i64 5,.int .i64 6]))) (.act (uNext (Instr.mapUpdate 45 (.map (some n1)) (.string (bytesL [45])) (.agg #[.int .i64 5,.int .i64 5,.int .i64 6]))) (.act (uNext (Instr.mapUpdate 45 (.map (some n1)) (.string (bytesL [42])) (.agg #[.int .i64 6,.int .i64 6,.int .i64 7]))) (.act (uNext (Instr.mapUpdate 45 (.map (some n1)) (.string (bytesL [47])) (.agg #[.int .i64 6,.int .i64 6,.int .i64 7]))) (.act (uNext (Instr.mapUpdate 45 (.map (some n1)) (.string (bytesL [37])) (.agg #[.int .i64 6,.int .i64 6,.int .i64 7]))) (.done (.returned (.map (some n1))))))))))))))))) := by kernel_rfl
theorem levels_any (w : World) : Calls Tryz.prog 14 #[] w fun e w' => Ch No w w' ∧ e = .returned (.map (some w.heap.size)) ∧ MapW w' w.heap.size := by
 refine calls_of_fnT mixed Tryz.func14 (s := s14) ?_
 rw [t14]
 have h0 := (Ch.refl No w).alloc (.map #[] 0)
 have hb0 : (w.alloc (.map #[] 0)).heap[w.heap.size]? = some (.map ([] : List MapEntry).toArray 0) := by show (w.heap.push _)[w.heap.size]? = _; simp
 refine t_new ?_
 generalize w.alloc (.map #[] 0) = w0 at *
 refine mu_i (op := tOr) hb0 (by kernel_rfl) fun w1 h1 z1 b1 => ?_
 refine mu_i (op := tAnd) b1 (by kernel_rfl) fun w2 h2 z2 b2 => ?_
 refine mu_i (op := sEq) b2 (by kernel_rfl) fun w3 h3 z3 b3 => ?_
 refine mu_i (op := sNe) b3 (by kernel_rfl) fun w4 h4 z4 b4 => ?_
 refine mu_i (op := sLt) b4 (by kernel_rfl) fun w5 h5 z5 b5 => ?_
 refine mu_i (op := sLe) b5 (by kernel_rfl) fun w6 h6 z6 b6 => ?_
 refine mu_i (op := sGt) b6 (by kernel_rfl) fun w7 h7 z7 b7 => ?_
 refine mu_i (op := sGe) b7 (by kernel_rfl) fun w8 h8 z8 b8 => ?_
 refine mu_i (op := sPlus) b8 (by kernel_rfl) fun w9 h9 z9 b9 => ?_
 refine mu_i (op := sMinus) b9 (by kernel_rfl) fun w10 h10 z10 b10 => ?_
 refine mu_i (op := sMul) b10 (by kernel_rfl) fun w11 h11 z11 b11 => ?_
 refine mu_i (op := sDiv) b11 (by kernel_rfl) fun w12 h12 z12 b12 => ?_
 refine mu_i (op := sMod) b12 (by kernel_rfl) fun w13 h13 z13 b13 => ?_
 refine ⟨?_,rfl,b13⟩
 have := h1.trans (h2.trans (h3.trans (h4.trans (h5.trans (h6.trans (h7.trans (h8.trans (h9.trans (h10.trans (h11.trans (h12.trans h13)))))))))))
 exact h0.then_ this (fun k hk (e : k = w.heap.size) => by omega)
theorem bin_ops {op : Txt} (h : op ∈ binOps) : op ∈ opsW := by
 have : ∀ op ∈ binOps,op ∈ opsW := by decide
 exact this op h
/-- A tree's level. -/
theorem level3_any (w : World) (B : Nat → Prop) (m : Nat) (n : N) (v : Value) (hv : IsN B w n v) (hw : WfN n) (hm : MapW w m) :
  Calls Tryz.prog 30 #[.map (some m),v] w fun e w' => w' = w ∧ e = .returned (.int .i64 (levelN n : Nat)) := by
 cases n with
 | num x =>
  simp only [IsN] at hv
  obtain ⟨b,rfl,_,hb⟩ := hv
  refine calls_of_fnT mixed Tryz.func30 (s := s30a) ?_
  rw [t30a]
  exact ⟨rfl,rfl⟩
 | quo x =>
  simp only [IsN] at hv
  obtain ⟨b,rfl,_,hb⟩ := hv
  refine calls_of_fnT mixed Tryz.func30 (s := s30b) ?_
  rw [t30b]
  exact ⟨rfl,rfl⟩
 | wrd x =>
  simp only [IsN] at hv
  obtain ⟨b,rfl,_,hb⟩ := hv
  refine calls_of_fnT mixed Tryz.func30 (s := s30c) ?_
  rw [t30c]
  exact ⟨rfl,rfl⟩
 | un op a =>
  simp only [IsN] at hv
  obtain ⟨b,va,rfl,_,hb,_⟩ := hv
  refine calls_of_fnT mixed Tryz.func30 (s := s30d) ?_
  rw [t30d]
  refine ld_str (hb.cell 0) ?_
  simp only [tb_list]
  unfold levelN
  dsimp only
  refine br_both (fun e => ⟨rfl,?_⟩) fun e => ⟨rfl,?_⟩
  ·rw [if_pos (show op = tNot from beq_iff_eq.1 e)]; rfl
  ·rw [if_neg (show ¬ op = tNot from beq_eq_false_iff_ne.1 e)]; rfl
 | bin op a c =>
  simp only [IsN] at hv
  obtain ⟨b,va,vc,rfl,_,hb,_⟩ := hv
  refine calls_of_fnT mixed Tryz.func30 (s := s30e) ?_
  rw [t30e]
  exact ld_str (hb.cell 0) (lk_i hm (bin_ops hw.1) ⟨rfl,rfl⟩)
 | cnd x y z =>
  simp only [IsN] at hv
  obtain ⟨b,_,_,_,rfl,_⟩ := hv
  refine calls_of_fnT mixed Tryz.func30 (s := s30f) ?_
  rw [t30f]
  exact ⟨rfl,rfl⟩
 | lst l =>
  simp only [IsN] at hv
  obtain ⟨b,_,_,_,_,rfl,_⟩ := hv
  refine calls_of_fnT mixed Tryz.func30 (s := s30g) ?_
  rw [t30g]
  exact ⟨rfl,rfl⟩
 | cal i l =>
  simp only [IsN] at hv
  obtain ⟨b,_,_,_,_,rfl,_⟩ := hv
  refine calls_of_fnT mixed Tryz.func30 (s := s30h) ?_
  rw [t30h]
  exact ⟨rfl,rfl⟩
end Go.Proofs.YtmdmomccibpjbaaGreatDoor.E
namespace Go.Proofs.YtmdmomccibpjbaaGreatDoor.E
open Go Tr
set_option maxRecDepth 100000
set_option maxHeartbeats 4000000
/-! the tree of function 3100 -/
def s15a : Script := .cl (.one (.leaf (.int .i64))) (.sym (.nop (.nop (.rn (.one (.leaf .sl)) (.cl (.one (.leaf .sl)) (.nop (.nop (.nop (.rn (.one (.leaf .sl)) .nil)))))))) (.lit (.ld (.int .i64) (.cl (.one (.leaf .str)) (.nop (.rn (.one (.leaf .sl)) .nil))))))
theorem t15a (qm0 : Option Nat) (qa1 : Option Addr) (qn1 : Nat) (qc1 : Nat) (qcl : Addr) (qx3 : Int) : fnT Tryz.prog Tryz.f15 #[.map qm0,.slice qa1 qn1 qc1,.iface 85 (.pointer (some qcl)),.int .i64 qx3] s15a = .call 30 #[.map qm0,.iface 85 (.pointer (some qcl))] (.one (.leaf (.int .i64))) (fun x1 => .br (Decidable.decide (x1 < qx3)) (.new (.cells #[.string (bytesL [40])] 9 (0,0)) (fun n2 => .run (builtin .append #[22,22] 22 #[false,false] #[.slice qa1 qn1 qc1,.slice (some ⟨n2,0,none⟩) 1 1]) (.one (.leaf .sl)) (fun l3 => .call 15 #[.map qm0,.slice l3.1 l3.2.1 l3.2.2,.iface 85 (.pointer (some qcl)),.int .i64 0] (.one (.leaf .sl)) (fun l4 => .new (.cells #[.string (bytesL [41])] 9 (0,0)) (fun n5 => .run (builtin .append #[22,22] 22 #[false,false] #[.slice l4.1 l4.2.1 l4.2.2,.slice (some ⟨n5,0,none⟩) 1 1]) (.one (.leaf .sl)) (fun l6 => .done (.returned (.slice l6.1 l6.2.1 l6.2.2)))))))) (.load qcl (.int .i64) (fun x7 => .call 31 #[.int .i64 x7,.int .i64 10] (.one (.leaf .str)) (fun s8 => .new (.cells #[.string s8] 9 (0,0)) (fun n9 => .run (builtin .append #[22,22] 22 #[false,false] #[.slice qa1 qn1 qc1,.slice (some ⟨n9,0,none⟩) 1 1]) (.one (.leaf .sl)) (fun l10 => .done (.returned (.slice l10.1 l10.2.1 l10.2.2)))))))) := by kernel_rfl
/-! the tree of function 3101 -/
def s15b : Script := .cl (.one (.leaf (.int .i64))) (.sym (.nop (.nop (.rn (.one (.leaf .sl)) (.cl (.one (.leaf .sl)) (.nop (.nop (.nop (.rn (.one (.leaf .sl)) .nil)))))))) (.lit (.lit (.ld .str (.cl (.one (.agg [.int .i64,.int .i64,.str,.sl])) (.cl (.one (.leaf .str)) (.cl (.one (.leaf .str)) (.nop (.rn (.one (.leaf .sl)) .nil)))))))))
theorem t15b (qm0 : Option Nat) (qa1 : Option Addr) (qn1 : Nat) (qc1 : Nat) (qcl : Addr) (qx3 : Int) : fnT Tryz.prog Tryz.f15 #[.map qm0,.slice qa1 qn1 qc1,.iface 89 (.pointer (some qcl)),.int .i64 qx3] s15b = .call 30 #[.map qm0,.iface 89 (.pointer (some qcl))] (.one (.leaf (.int .i64))) (fun x1 => .br (Decidable.decide (x1 < qx3)) (.new (.cells #[.string (bytesL [40])] 9 (0,0)) (fun n2 => .run (builtin .append #[22,22] 22 #[false,false] #[.slice qa1 qn1 qc1,.slice (some ⟨n2,0,none⟩) 1 1]) (.one (.leaf .sl)) (fun l3 => .call 15 #[.map qm0,.slice l3.1 l3.2.1 l3.2.2,.iface 89 (.pointer (some qcl)),.int .i64 0] (.one (.leaf .sl)) (fun l4 => .new (.cells #[.string (bytesL [41])] 9 (0,0)) (fun n5 => .run (builtin .append #[22,22] 22 #[false,false] #[.slice l4.1 l4.2.1 l4.2.2,.slice (some ⟨n5,0,none⟩) 1 1]) (.one (.leaf .sl)) (fun l6 => .done (.returned (.slice l6.1 l6.2.1 l6.2.2)))))))) (.load qcl .str (fun s7 => .call 34 #[.string s7] (.one (.agg [.int .i64,.int .i64,.str,.sl])) (fun r8 => .call 33 #[.agg #[.int .i64 r8.1,.int .i64 r8.2.1,.string r8.2.2.1,.slice r8.2.2.2.1.1 r8.2.2.2.1.2.1 r8.2.2.2.1.2.2]] (.one (.leaf .str)) (fun s9 => .call 32 #[.string s9] (.one (.leaf .str)) (fun s10 => .new (.cells #[.string s10] 9 (0,0)) (fun n11 => .run (builtin .append #[22,22] 22 #[false,false] #[.slice qa1 qn1 qc1,.slice (some ⟨n11,0,none⟩) 1 1]) (.one (.leaf .sl)) (fun l12 => .done (.returned (.slice l12.1 l12.2.1 l12.2.2)))))))))) := by kernel_rfl
/-! the tree of function 3102 -/
def s15c : Script := .cl (.one (.leaf (.int .i64))) (.sym (.nop (.nop (.rn (.one (.leaf .sl)) (.cl (.one (.leaf .sl)) (.nop (.nop (.nop (.rn (.one (.leaf .sl)) .nil)))))))) (.lit (.lit (.lit (.ld .str (.nop (.rn (.one (.leaf .sl)) .nil)))))))
theorem t15c (qm0 : Option Nat) (qa1 : Option Addr) (qn1 : Nat) (qc1 : Nat) (qcl : Addr) (qx3 : Int) : fnT Tryz.prog Tryz.f15 #[.map qm0,.slice qa1 qn1 qc1,.iface 98 (.pointer (some qcl)),.int .i64 qx3] s15c = .call 30 #[.map qm0,.iface 98 (.pointer (some qcl))] (.one (.leaf (.int .i64))) (fun x1 => .br (Decidable.decide (x1 < qx3)) (.new (.cells #[.string (bytesL [40])] 9 (0,0)) (fun n2 => .run (builtin .append #[22,22] 22 #[false,false] #[.slice qa1 qn1 qc1,.slice (some ⟨n2,0,none⟩) 1 1]) (.one (.leaf .sl)) (fun l3 => .call 15 #[.map qm0,.slice l3.1 l3.2.1 l3.2.2,.iface 98 (.pointer (some qcl)),.int .i64 0] (.one (.leaf .sl)) (fun l4 => .new (.cells #[.string (bytesL [41])] 9 (0,0)) (fun n5 => .run (builtin .append #[22,22] 22 #[false,false] #[.slice l4.1 l4.2.1 l4.2.2,.slice (some ⟨n5,0,none⟩) 1 1]) (.one (.leaf .sl)) (fun l6 => .done (.returned (.slice l6.1 l6.2.1 l6.2.2)))))))) (.load qcl .str (fun s7 => .new (.cells #[.string s7] 9 (0,0)) (fun n8 => .run (builtin .append #[22,22] 22 #[false,false] #[.slice qa1 qn1 qc1,.slice (some ⟨n8,0,none⟩) 1 1]) (.one (.leaf .sl)) (fun l9 => .done (.returned (.slice l9.1 l9.2.1 l9.2.2))))))) := by kernel_rfl
/-! the tree of function 3103 -/
def s15d : Script := .cl (.one (.leaf (.int .i64))) (.sym (.nop (.nop (.rn (.one (.leaf .sl)) (.cl (.one (.leaf .sl)) (.nop (.nop (.nop (.rn (.one (.leaf .sl)) .nil)))))))) (.lit (.lit (.lit (.lit (.hd0 (.hq 0 (.hq 1 (.hq 2 (.hq 3 (.hq 4 (.hq 5 (.ld .str (.hq 8 (.hq 9 (.hq 10 (.hq 11 (.ld .ifc (.hq 12 (.hq 13 (.he 6 (.he 7 (.rn (.one (.leaf .sl)) (.he 14 (.cl (.one (.leaf (.int .i64))) (.he 15 (.cl (.one (.leaf .sl)) (.hq 16 .nil))))))))))))))))))))))))))))
theorem t15d (qm0 : Option Nat) (qa1 : Option Addr) (qn1 : Nat) (qc1 : Nat) (qcl : Addr) (qx3 : Int) : fnT Tryz.prog Tryz.f15 #[.map qm0,.slice qa1 qn1 qc1,.iface 101 (.pointer (some qcl)),.int .i64 qx3] s15d = .call 30 #[.map qm0,.iface 101 (.pointer (some qcl))] (.one (.leaf (.int .i64))) (fun x1 => .br (Decidable.decide (x1 < qx3)) (.new (.cells #[.string (bytesL [40])] 9 (0,0)) (fun n2 => .run (builtin .append #[22,22] 22 #[false,false] #[.slice qa1 qn1 qc1,.slice (some ⟨n2,0,none⟩) 1 1]) (.one (.leaf .sl)) (fun l3 => .call 15 #[.map qm0,.slice l3.1 l3.2.1 l3.2.2,.iface 101 (.pointer (some qcl)),.int .i64 0] (.one (.leaf .sl)) (fun l4 => .new (.cells #[.string (bytesL [41])] 9 (0,0)) (fun n5 => .run (builtin .append #[22,22] 22 #[false,false] #[.slice l4.1 l4.2.1 l4.2.2,.slice (some ⟨n5,0,none⟩) 1 1]) (.one (.leaf .sl)) (fun l6 => .done (.returned (.slice l6.1 l6.2.1 l6.2.2)))))))) (.hdrawn (.load qcl .str (fun s7 => .load (qcl.add 1) .ifc (fun i8 => .eff (.new (.cells #[.string s7] 9 (0,0)) (fun n9 => .back (.eff (.run (builtin .append #[22,22] 22 #[false,false] #[.slice qa1 qn1 qc1,.slice (some ⟨n9,0,none⟩) 1 1]) (.one (.leaf .sl)) (fun l10 => .back (.eff (.call 30 #[.map qm0,.iface 101 (.pointer (some qcl))] (.one (.leaf (.int .i64))) (fun x11 => .back (.eff (.call 15 #[.map qm0,.slice l10.1 l10.2.1 l10.2.2,.iface i8.1 i8.2,.int .i64 x11] (.one (.leaf .sl)) (fun l12 => .back (.undrawn (.done (.returned (.slice l12.1 l12.2.1 l12.2.2)))))))))))))))))))) := by kernel_rfl
/-! the tree of function 3104 -/
def s15e : Script := .cl (.one (.leaf (.int .i64))) (.sym (.nop (.nop (.rn (.one (.leaf .sl)) (.cl (.one (.leaf .sl)) (.nop (.nop (.nop (.rn (.one (.leaf .sl)) .nil)))))))) (.lit (.lit (.lit (.lit (.lit (.ld .str (.rn (.one (.agg [.int .i64,.int .i64,.int .i64])) (.hd0 (.hq 0 (.hq 1 (.hq 2 (.hq 3 (.hq 4 (.hq 5 (.ld .ifc (.hq 6 (.hq 7 (.ld (.int .i64) (.he 8 (.cl (.one (.leaf .sl)) (.hq 9 (.hd0 (.hq 0 (.hq 1 (.hq 2 (.hq 3 (.hq 4 (.hq 5 (.ld .str (.hq 8 (.hq 9 (.hq 10 (.hq 11 (.ld .ifc (.hq 12 (.hq 13 (.ld (.int .i64) (.he 6 (.he 7 (.rn (.one (.leaf .sl)) (.he 14 (.cl (.one (.leaf .sl)) (.hq 15 .nil))))))))))))))))))))))))))))))))))))))))))))
theorem t15e (qm0 : Option Nat) (qa1 : Option Addr) (qn1 : Nat) (qc1 : Nat) (qcl : Addr) (qx3 : Int) : fnT Tryz.prog Tryz.f15 #[.map qm0,.slice qa1 qn1 qc1,.iface 104 (.pointer (some qcl)),.int .i64 qx3] s15e = .call 30 #[.map qm0,.iface 104 (.pointer (some qcl))] (.one (.leaf (.int .i64))) (fun x1 => .br (Decidable.decide (x1 < qx3)) (.new (.cells #[.string (bytesL [40])] 9 (0,0)) (fun n2 => .run (builtin .append #[22,22] 22 #[false,false] #[.slice qa1 qn1 qc1,.slice (some ⟨n2,0,none⟩) 1 1]) (.one (.leaf .sl)) (fun l3 => .call 15 #[.map qm0,.slice l3.1 l3.2.1 l3.2.2,.iface 104 (.pointer (some qcl)),.int .i64 0] (.one (.leaf .sl)) (fun l4 => .new (.cells #[.string (bytesL [41])] 9 (0,0)) (fun n5 => .run (builtin .append #[22,22] 22 #[false,false] #[.slice l4.1 l4.2.1 l4.2.2,.slice (some ⟨n5,0,none⟩) 1 1]) (.one (.leaf .sl)) (fun l6 => .done (.returned (.slice l6.1 l6.2.1 l6.2.2)))))))) (.load qcl .str (fun s7 => .run (vNext (Instr.lookup 45 (.map qm0) (.string s7) false)) (.one (.agg [.int .i64,.int .i64,.int .i64])) (fun r8 => .new (.cells #[.int .i64 0,.int .i64 0,.int .i64 0] 83 (0,0)) (fun n9 => .store ⟨n9,0,none⟩ (.int .i64 r8.1) (.store ⟨n9,1,none⟩ (.int .i64 r8.2.1) (.store ⟨n9,2,none⟩ (.int .i64 r8.2.2.1) (.hdrawn (.load (qcl.add 1) .ifc (fun i10 => .load ⟨n9,1,none⟩ (.int .i64) (fun x11 => .eff (.call 15 #[.map qm0,.slice qa1 qn1 qc1,.iface i10.1 i10.2,.int .i64 x11] (.one (.leaf .sl)) (fun l12 => .back (.undrawn (.hdrawn (.load qcl .str (fun s13 => .load (qcl.add 2) .ifc (fun i14 => .load ⟨n9,2,none⟩ (.int .i64) (fun x15 => .eff (.new (.cells #[.string s13] 9 (0,0)) (fun n16 => .back (.eff (.run (builtin .append #[22,22] 22 #[false,false] #[.slice l12.1 l12.2.1 l12.2.2,.slice (some ⟨n16,0,none⟩) 1 1]) (.one (.leaf .sl)) (fun l17 => .back (.eff (.call 15 #[.map qm0,.slice l17.1 l17.2.1 l17.2.2,.iface i14.1 i14.2,.int .i64 x15] (.one (.leaf .sl)) (fun l18 => .back (.undrawn (.done (.returned (.slice l18.1 l18.2.1 l18.2.2))))))))))))))))))))))))))))))) := by kernel_rfl
/-! the tree of function 3105 -/
def s15f : Script := .cl (.one (.leaf (.int .i64))) (.sym (.nop (.nop (.rn (.one (.leaf .sl)) (.cl (.one (.leaf .sl)) (.nop (.nop (.nop (.rn (.one (.leaf .sl)) .nil)))))))) (.lit (.lit (.lit (.lit (.lit (.lit (.hd0 (.hq 0 (.hq 1 (.hq 4 (.hq 5 (.hq 6 (.hq 7 (.ld .ifc (.he 2 (.he 3 (.rn (.one (.leaf .sl)) (.he 8 (.cl (.one (.leaf .sl)) (.hq 9 (.hd0 (.hq 0 (.hq 1 (.hq 4 (.hq 5 (.hq 6 (.hq 7 (.ld .ifc (.he 2 (.he 3 (.rn (.one (.leaf .sl)) (.he 8 (.cl (.one (.leaf .sl)) (.hq 9 (.hd0 (.hq 0 (.hq 1 (.hq 4 (.hq 5 (.hq 6 (.hq 7 (.ld .ifc (.he 2 (.he 3 (.rn (.one (.leaf .sl)) (.he 8 (.cl (.one (.leaf .sl)) (.hq 9 .nil)))))))))))))))))))))))))))))))))))))))))))))))))
theorem t15f (qm0 : Option Nat) (qa1 : Option Addr) (qn1 : Nat) (qc1 : Nat) (qcl : Addr) (qx3 : Int) : fnT Tryz.prog Tryz.f15 #[.map qm0,.slice qa1 qn1 qc1,.iface 107 (.pointer (some qcl)),.int .i64 qx3] s15f = .call 30 #[.map qm0,.iface 107 (.pointer (some qcl))] (.one (.leaf (.int .i64))) (fun x1 => .br (Decidable.decide (x1 < qx3)) (.new (.cells #[.string (bytesL [40])] 9 (0,0)) (fun n2 => .run (builtin .append #[22,22] 22 #[false,false] #[.slice qa1 qn1 qc1,.slice (some ⟨n2,0,none⟩) 1 1]) (.one (.leaf .sl)) (fun l3 => .call 15 #[.map qm0,.slice l3.1 l3.2.1 l3.2.2,.iface 107 (.pointer (some qcl)),.int .i64 0] (.one (.leaf .sl)) (fun l4 => .new (.cells #[.string (bytesL [41])] 9 (0,0)) (fun n5 => .run (builtin .append #[22,22] 22 #[false,false] #[.slice l4.1 l4.2.1 l4.2.2,.slice (some ⟨n5,0,none⟩) 1 1]) (.one (.leaf .sl)) (fun l6 => .done (.returned (.slice l6.1 l6.2.1 l6.2.2)))))))) (.hdrawn (.load qcl .ifc (fun i7 => .eff (.new (.cells #[.string (bytesL [105,102])] 9 (0,0)) (fun n8 => .back (.eff (.run (builtin .append #[22,22] 22 #[false,false] #[.slice qa1 qn1 qc1,.slice (some ⟨n8,0,none⟩) 1 1]) (.one (.leaf .sl)) (fun l9 => .back (.eff (.call 15 #[.map qm0,.slice l9.1 l9.2.1 l9.2.2,.iface i7.1 i7.2,.int .i64 0] (.one (.leaf .sl)) (fun l10 => .back (.undrawn (.hdrawn (.load (qcl.add 1) .ifc (fun i11 => .eff (.new (.cells #[.string (bytesL [116,104,101,110])] 9 (0,0)) (fun n12 => .back (.eff (.run (builtin .append #[22,22] 22 #[false,false] #[.slice l10.1 l10.2.1 l10.2.2,.slice (some ⟨n12,0,none⟩) 1 1]) (.one (.leaf .sl)) (fun l13 => .back (.eff (.call 15 #[.map qm0,.slice l13.1 l13.2.1 l13.2.2,.iface i11.1 i11.2,.int .i64 0] (.one (.leaf .sl)) (fun l14 => .back (.undrawn (.hdrawn (.load (qcl.add 2) .ifc (fun i15 => .eff (.new (.cells #[.string (bytesL [101,108,115,101])] 9 (0,0)) (fun n16 => .back (.eff (.run (builtin .append #[22,22] 22 #[false,false] #[.slice l14.1 l14.2.1 l14.2.2,.slice (some ⟨n16,0,none⟩) 1 1]) (.one (.leaf .sl)) (fun l17 => .back (.eff (.call 15 #[.map qm0,.slice l17.1 l17.2.1 l17.2.2,.iface i15.1 i15.2,.int .i64 0] (.one (.leaf .sl)) (fun l18 => .back (.undrawn (.done (.returned (.slice l18.1 l18.2.1 l18.2.2)))))))))))))))))))))))))))))))))))))))) := by kernel_rfl
/-! the tree of function 3106 -/
def s15g : Script := .cl (.one (.leaf (.int .i64))) (.sym (.nop (.nop (.rn (.one (.leaf .sl)) (.cl (.one (.leaf .sl)) (.nop (.nop (.nop (.rn (.one (.leaf .sl)) .nil)))))))) (.lit (.lit (.lit (.lit (.lit (.lit (.lit (.hd0 (.hq 0 (.hq 1 (.hq 4 (.hq 5 (.hq 6 (.hq 7 (.ld .sl (.hl 2 (.hl 3 (.rn (.one (.leaf .sl)) (.hl 8 (.cl (.one (.leaf .sl)) (.he 9 (.he 10 (.rn (.one (.leaf .sl)) (.hq 11 .nil))))) (.hl 9 (.he 8 (.cl (.one (.leaf .sl)) (.he 10 (.rn (.one (.leaf .sl)) (.hq 11 .nil))))) .nil))) (.hl 9 (.he 3 (.rn (.one (.leaf .sl)) (.he 8 (.cl (.one (.leaf .sl)) (.he 10 (.rn (.one (.leaf .sl)) (.hq 11 .nil))))))) .nil)) (.hl 9 (.he 2 (.he 3 (.rn (.one (.leaf .sl)) (.he 8 (.cl (.one (.leaf .sl)) (.he 10 (.rn (.one (.leaf .sl)) (.hq 11 .nil)))))))) .nil))))))))))))))))))
theorem t15g (qm0 : Option Nat) (qa1 : Option Addr) (qn1 : Nat) (qc1 : Nat) (qcl : Addr) (qx3 : Int) : fnT Tryz.prog Tryz.f15 #[.map qm0,.slice qa1 qn1 qc1,.iface 110 (.pointer (some qcl)),.int .i64 qx3] s15g = .call 30 #[.map qm0,.iface 110 (.pointer (some qcl))] (.one (.leaf (.int .i64))) (fun x1 => .br (Decidable.decide (x1 < qx3)) (.new (.cells #[.string (bytesL [40])] 9 (0,0)) (fun n2 => .run (builtin .append #[22,22] 22 #[false,false] #[.slice qa1 qn1 qc1,.slice (some ⟨n2,0,none⟩) 1 1]) (.one (.leaf .sl)) (fun l3 => .call 15 #[.map qm0,.slice l3.1 l3.2.1 l3.2.2,.iface 110 (.pointer (some qcl)),.int .i64 0] (.one (.leaf .sl)) (fun l4 => .new (.cells #[.string (bytesL [41])] 9 (0,0)) (fun n5 => .run (builtin .append #[22,22] 22 #[false,false] #[.slice l4.1 l4.2.1 l4.2.2,.slice (some ⟨n5,0,none⟩) 1 1]) (.one (.leaf .sl)) (fun l6 => .done (.returned (.slice l6.1 l6.2.1 l6.2.2)))))))) (.hdrawn (.load qcl .sl (fun l7 => .both (.eff (.new (.cells #[.string (bytesL [91])] 9 (0,0)) (fun n8 => .back (.both (.eff (.run (builtin .append #[22,22] 22 #[false,false] #[.slice qa1 qn1 qc1,.slice (some ⟨n8,0,none⟩) 1 1]) (.one (.leaf .sl)) (fun l9 => .back (.both (.eff (.call 35 #[.map qm0,.slice l9.1 l9.2.1 l9.2.2,.slice l7.1 l7.2.1 l7.2.2] (.one (.leaf .sl)) (fun l10 => .back (.eff (.new (.cells #[.string (bytesL [93])] 9 (0,0)) (fun n11 => .back (.eff (.run (builtin .append #[22,22] 22 #[false,false] #[.slice l10.1 l10.2.1 l10.2.2,.slice (some ⟨n11,0,none⟩) 1 1]) (.one (.leaf .sl)) (fun l12 => .back (.undrawn (.done (.returned (.slice l12.1 l12.2.1 l12.2.2))))))))))))) (.both (.eff (.new (.cells #[.string (bytesL [93])] 9 (0,0)) (fun n13 => .back (.eff (.call 35 #[.map qm0,.slice l9.1 l9.2.1 l9.2.2,.slice l7.1 l7.2.1 l7.2.2] (.one (.leaf .sl)) (fun l14 => .back (.eff (.run (builtin .append #[22,22] 22 #[false,false] #[.slice l14.1 l14.2.1 l14.2.2,.slice (some ⟨n13,0,none⟩) 1 1]) (.one (.leaf .sl)) (fun l15 => .back (.undrawn (.done (.returned (.slice l15.1 l15.2.1 l15.2.2))))))))))))) (.triv)))))) (.both (.eff (.new (.cells #[.string (bytesL [93])] 9 (0,0)) (fun n16 => .back (.eff (.run (builtin .append #[22,22] 22 #[false,false] #[.slice qa1 qn1 qc1,.slice (some ⟨n8,0,none⟩) 1 1]) (.one (.leaf .sl)) (fun l17 => .back (.eff (.call 35 #[.map qm0,.slice l17.1 l17.2.1 l17.2.2,.slice l7.1 l7.2.1 l7.2.2] (.one (.leaf .sl)) (fun l18 => .back (.eff (.run (builtin .append #[22,22] 22 #[false,false] #[.slice l18.1 l18.2.1 l18.2.2,.slice (some ⟨n16,0,none⟩) 1 1]) (.one (.leaf .sl)) (fun l19 => .back (.undrawn (.done (.returned (.slice l19.1 l19.2.1 l19.2.2)))))))))))))))) (.triv)))))) (.both (.eff (.new (.cells #[.string (bytesL [93])] 9 (0,0)) (fun n20 => .back (.eff (.new (.cells #[.string (bytesL [91])] 9 (0,0)) (fun n21 => .back (.eff (.run (builtin .append #[22,22] 22 #[false,false] #[.slice qa1 qn1 qc1,.slice (some ⟨n21,0,none⟩) 1 1]) (.one (.leaf .sl)) (fun l22 => .back (.eff (.call 35 #[.map qm0,.slice l22.1 l22.2.1 l22.2.2,.slice l7.1 l7.2.1 l7.2.2] (.one (.leaf .sl)) (fun l23 => .back (.eff (.run (builtin .append #[22,22] 22 #[false,false] #[.slice l23.1 l23.2.1 l23.2.2,.slice (some ⟨n20,0,none⟩) 1 1]) (.one (.leaf .sl)) (fun l24 => .back (.undrawn (.done (.returned (.slice l24.1 l24.2.1 l24.2.2))))))))))))))))))) (.triv)))))) := by kernel_rfl
/-! the tree of function 3107 -/
def s15h : Script := .cl (.one (.leaf (.int .i64))) (.sym (.nop (.nop (.rn (.one (.leaf .sl)) (.cl (.one (.leaf .sl)) (.nop (.nop (.nop (.rn (.one (.leaf .sl)) .nil)))))))) (.lit (.lit (.lit (.lit (.lit (.lit (.lit (.lit (.hd0 (.hq 0 (.hq 1 (.hq 2 (.hq 3 (.hq 4 (.hq 5 (.hq 6 (.ld .str (.hq 9 (.hq 10 (.hq 11 (.hq 12 (.ld .sl (.hl 7 (.hl 8 (.rn (.one (.leaf .sl)) (.hl 13 (.cl (.one (.leaf .sl)) (.he 14 (.he 15 (.rn (.one (.leaf .sl)) (.hq 16 .nil))))) (.hl 14 (.he 13 (.cl (.one (.leaf .sl)) (.he 15 (.rn (.one (.leaf .sl)) (.hq 16 .nil))))) .nil))) (.hl 14 (.he 8 (.rn (.one (.leaf .sl)) (.he 13 (.cl (.one (.leaf .sl)) (.he 15 (.rn (.one (.leaf .sl)) (.hq 16 .nil))))))) .nil)) (.hl 14 (.he 7 (.he 8 (.rn (.one (.leaf .sl)) (.he 13 (.cl (.one (.leaf .sl)) (.he 15 (.rn (.one (.leaf .sl)) (.hq 16 .nil)))))))) .nil)))))))))))))))))))))))))
theorem t15h (qm0 : Option Nat) (qa1 : Option Addr) (qn1 : Nat) (qc1 : Nat) (qcl : Addr) (qx3 : Int) : fnT Tryz.prog Tryz.f15 #[.map qm0,.slice qa1 qn1 qc1,.iface 115 (.pointer (some qcl)),.int .i64 qx3] s15h = .call 30 #[.map qm0,.iface 115 (.pointer (some qcl))] (.one (.leaf (.int .i64))) (fun x1 => .br (Decidable.decide (x1 < qx3)) (.new (.cells #[.string (bytesL [40])] 9 (0,0)) (fun n2 => .run (builtin .append #[22,22] 22 #[false,false] #[.slice qa1 qn1 qc1,.slice (some ⟨n2,0,none⟩) 1 1]) (.one (.leaf .sl)) (fun l3 => .call 15 #[.map qm0,.slice l3.1 l3.2.1 l3.2.2,.iface 115 (.pointer (some qcl)),.int .i64 0] (.one (.leaf .sl)) (fun l4 => .new (.cells #[.string (bytesL [41])] 9 (0,0)) (fun n5 => .run (builtin .append #[22,22] 22 #[false,false] #[.slice l4.1 l4.2.1 l4.2.2,.slice (some ⟨n5,0,none⟩) 1 1]) (.one (.leaf .sl)) (fun l6 => .done (.returned (.slice l6.1 l6.2.1 l6.2.2)))))))) (.hdrawn (.load qcl .str (fun s7 => .load (qcl.add 3) .sl (fun l8 => .both (.eff (.new (.cells #[.string s7,.string (bytesL [40])] 9 (0,0)) (fun n9 => .back (.both (.eff (.run (builtin .append #[22,22] 22 #[false,false] #[.slice qa1 qn1 qc1,.slice (some ⟨n9,0,none⟩) 2 2]) (.one (.leaf .sl)) (fun l10 => .back (.both (.eff (.call 35 #[.map qm0,.slice l10.1 l10.2.1 l10.2.2,.slice l8.1 l8.2.1 l8.2.2] (.one (.leaf .sl)) (fun l11 => .back (.eff (.new (.cells #[.string (bytesL [41])] 9 (0,0)) (fun n12 => .back (.eff (.run (builtin .append #[22,22] 22 #[false,false] #[.slice l11.1 l11.2.1 l11.2.2,.slice (some ⟨n12,0,none⟩) 1 1]) (.one (.leaf .sl)) (fun l13 => .back (.undrawn (.done (.returned (.slice l13.1 l13.2.1 l13.2.2))))))))))))) (.both (.eff (.new (.cells #[.string (bytesL [41])] 9 (0,0)) (fun n14 => .back (.eff (.call 35 #[.map qm0,.slice l10.1 l10.2.1 l10.2.2,.slice l8.1 l8.2.1 l8.2.2] (.one (.leaf .sl)) (fun l15 => .back (.eff (.run (builtin .append #[22,22] 22 #[false,false] #[.slice l15.1 l15.2.1 l15.2.2,.slice (some ⟨n14,0,none⟩) 1 1]) (.one (.leaf .sl)) (fun l16 => .back (.undrawn (.done (.returned (.slice l16.1 l16.2.1 l16.2.2))))))))))))) (.triv)))))) (.both (.eff (.new (.cells #[.string (bytesL [41])] 9 (0,0)) (fun n17 => .back (.eff (.run (builtin .append #[22,22] 22 #[false,false] #[.slice qa1 qn1 qc1,.slice (some ⟨n9,0,none⟩) 2 2]) (.one (.leaf .sl)) (fun l18 => .back (.eff (.call 35 #[.map qm0,.slice l18.1 l18.2.1 l18.2.2,.slice l8.1 l8.2.1 l8.2.2] (.one (.leaf .sl)) (fun l19 => .back (.eff (.run (builtin .append #[22,22] 22 #[false,false] #[.slice l19.1 l19.2.1 l19.2.2,.slice (some ⟨n17,0,none⟩) 1 1]) (.one (.leaf .sl)) (fun l20 => .back (.undrawn (.done (.returned (.slice l20.1 l20.2.1 l20.2.2)))))))))))))))) (.triv)))))) (.both (.eff (.new (.cells #[.string (bytesL [41])] 9 (0,0)) (fun n21 => .back (.eff (.new (.cells #[.string s7,.string (bytesL [40])] 9 (0,0)) (fun n22 => .back (.eff (.run (builtin .append #[22,22] 22 #[false,false] #[.slice qa1 qn1 qc1,.slice (some ⟨n22,0,none⟩) 2 2]) (.one (.leaf .sl)) (fun l23 => .back (.eff (.call 35 #[.map qm0,.slice l23.1 l23.2.1 l23.2.2,.slice l8.1 l8.2.1 l8.2.2] (.one (.leaf .sl)) (fun l24 => .back (.eff (.run (builtin .append #[22,22] 22 #[false,false] #[.slice l24.1 l24.2.1 l24.2.2,.slice (some ⟨n21,0,none⟩) 1 1]) (.one (.leaf .sl)) (fun l25 => .back (.undrawn (.done (.returned (.slice l25.1 l25.2.1 l25.2.2))))))))))))))))))) (.triv))))))) := by kernel_rfl
/-! the tree of function 35 -/
abbrev fx35_1 (qm0 : Option Nat) (qa2 : Option Addr) (qn2 : Nat) (qc2 : Nat) : List (Tmp × Value) := [(0,.map qm0),(6,.slice none 0 0),(9,.slice qa2 qn2 qc2),(10,.int .i64 (↑qn2 : Int))]
abbrev m35_1 : List (Tmp × Comp) := [(1,.leaf .sl),(11,.leaf (.int .i64))]
abbrev mx35_1 : List (Tmp × Comp) := [(1,.leaf .sl)]
abbrev mr35_1 : List (Tmp × Comp) := []
def s35_1 : Script := .sym (.ix (.ld .ifc (.sym (.nop (.nop (.rn (.one (.leaf .sl)) (.cl (.one (.leaf .sl)) .nil)))) (.cl (.one (.leaf .sl)) .nil)))) .nil
theorem t35_1 (qm0 : Option Nat) (qa2 : Option Addr) (qn2 : Nat) (qc2 : Nat) (l_1 : Option Addr × Nat × Nat) (x_11 : Int) (gg1 : Nat → Value) : pieceT Tryz.prog (at_ Tryz.f35 [1,0,1,0,0]) 27 (fx35_1 qm0 qa2 qn2 qc2 ++ mvals m35_1 (l_1,x_11,())) gg1 (m35_1.map (·.1)) (mx35_1.map (·.1)) (mr35_1.map (·.1)) s35_1 = .br (Decidable.decide (x_11 < (↑qn2 : Int))) (.idx qa2 x_11 qn2 1 (fun a2 => .load a2 .ifc (fun i3 => .br (Decidable.decide (x_11 > 0)) (.new (.cells #[.string (bytesL [44])] 9 (0,0)) (fun n4 => .run (builtin .append #[22,22] 22 #[false,false] #[.slice l_1.1 l_1.2.1 l_1.2.2,.slice (some ⟨n4,0,none⟩) 1 1]) (.one (.leaf .sl)) (fun l5 => .call 15 #[.map qm0,.slice l5.1 l5.2.1 l5.2.2,.iface i3.1 i3.2,.int .i64 0] (.one (.leaf .sl)) (fun l6 => .fin .normal [(1,.slice l6.1 l6.2.1 l6.2.2),(11,.int .i64 (IntKind.i64.wrap (x_11 + 1)))])))) (.call 15 #[.map qm0,.slice l_1.1 l_1.2.1 l_1.2.2,.iface i3.1 i3.2,.int .i64 0] (.one (.leaf .sl)) (fun l7 => .fin .normal [(1,.slice l7.1 l7.2.1 l7.2.2),(11,.int .i64 (IntKind.i64.wrap (x_11 + 1)))]))))) (.fin (.exit 0) [(1,.slice l_1.1 l_1.2.1 l_1.2.2)]) := by kernel_rfl
def s35 : Script := .lp 0 [0,6,9,10] [1,11] mx35_1 mr35_1 .nil .nil
theorem t35 (qm0 : Option Nat) (qa1 : Option Addr) (qn1 : Nat) (qc1 : Nat) (qa2 : Option Addr) (qn2 : Nat) (qc2 : Nat) : fnT Tryz.prog Tryz.f35 #[.map qm0,.slice qa1 qn1 qc1,.slice qa2 qn2 qc2] s35 = .loop (at_ Tryz.f35 [1,0,1,0,0]) 27 (fx35_1 qm0 qa2 qn2 qc2) [(1,.slice qa1 qn1 qc1),(11,.int .i64 0)] mx35_1 mr35_1 0 (fun u8 g8 => .done (.returned (.slice u8.1.1 u8.1.2.1 u8.1.2.2))) (fun u9 g9 => .stuck) := by kernel_rfl
theorem infoStr : (Tryz.prog.info? tStr).map (fun i => (i.zero,i.size,i.bytes)) = some (some (.string (bytesL [])),1,16) := by kernel_rfl
theorem cellT_one (l : List Txt) : ∀ u ∈ l.map cellT,u.oneCell' = true := fun u hu => by
 obtain ⟨t,_,rfl⟩ := List.mem_map.1 hu
 rfl
/-- Tokens in a row of their own. -/
def RowT (w : World) (base : Nat) (p : Option Addr) (n c : Nat) (l : List Txt) : Prop := Row w base tStr 1 p n c (l.map cellT)
def GrewT (base : Nat) (w : World) (p : Option Addr) (n c : Nat) (w' : World) (p' : Option Addr) (n' c' : Nat) (l : List Txt) : Prop := Grew base tStr 1 w p n c w' p' n' c' (l.map cellT)
/-- What is asked of the writer: the tokens behind those that stand there. -/
def WrR (base : Nat) (w : World) (p : Option Addr) (m c : Nat) (l news : List Txt) (e : Ending) (w' : World) : Prop := ∃ q d,e = .returned (.slice q (m + news.length) d) ∧ GrewT base w p m c w' q (m + news.length) d (l ++ news)
section
variable {R : Ending → World → Prop} {Q : Exit → List (Tmp × Value) → World → Prop} {w : World} {md : Md} [hmd : md.Runs]
/-- append of tokens that stand in a block. -/
theorem ap_t {K : Option Addr × Nat × Nat → T} {base : Nat} {q : Option Addr} {n c : Nat} {l : List Txt} (hown : RowT w base q n c l) (hb : base ≤ w.heap.size) {b m : Nat} {news : List Txt} (hblk : Blk w b (news.map cellT) tStr) (hm : news.length = m) (hsz : n + m ≤ 1000000)
  (h : ∀ q' c' w',GrewT base w q n c w' q' (n + m) c' (l ++ news) → wpT Tryz.prog R Q (K (q',n + m,c')) md w') :
  wpT Tryz.prog R Q (.run (builtin .append #[tStrs,tStrs] tStrs #[false,false] #[.slice q n c,.slice (some ⟨b,0,none⟩) m m]) (.one (.leaf .sl)) K) md w := by
 refine ap_blk (by kernel_rfl) infoStr rfl (by omega) hown hb hblk (by simp [hm]) (cellT_one news) (by unfold maxLen; omega) (by omega) fun q' c' w' g => h q' c' w' ?_
 unfold GrewT
 rw [List.map_append]
 exact g
end
theorem GrewT.keepN {base : Nat} {w w1 : World} {p q : Option Addr} {n c m d : Nat} {l l' : List Txt} (g : GrewT base w p n c w1 q m d l') (h : RowT w base p n c l) {B : Nat → Prop} (hB : ∀ k,B k → k < base) {x : N} {v : Value} (hv : IsN B w x v) : IsN B w1 x v :=
 IsN.ch g.ch (fun k hk hr => by have := (Row.lt h hr).1; have := hB k hk; omega) x v hv
theorem GrewT.keepM {base : Nat} {w w1 : World} {p q : Option Addr} {n c m d : Nat} {l l' : List Txt} (g : GrewT base w p n c w1 q m d l') (h : RowT w base p n c l) {k : Nat} (hk : k < base) (hm : MapW w k) : MapW w1 k :=
 hm.ch g.ch (fun hr => by have := (Row.lt h hr).1; omega)
theorem GrewT.keepT {base : Nat} {w w1 : World} {p q : Option Addr} {n c m d : Nat} {l l' : List Txt} (g : GrewT base w p n c w1 q m d l') (h : RowT w base p n c l) {k : Nat} {vs : List Value} {t : TypeId} (hb : Blk w k vs t) (hk : ¬ rowS p n c k) : Blk w1 k vs t := hb.ch g.ch hk
/-- The writer at a tree: what is asked of each call. -/
def WriteOk (B : Nat → Prop) (base mp : Nat) (n : N) : Prop := ∀ (v : Value) (want : Nat) (w : World) (p : Option Addr) (m c : Nat) (l : List Txt),IsN B w n v → MapW w mp → Tabs w → base ≤ w.heap.size → RowT w base p m c l → m + 8 * szN n ≤ 100000 →
 Calls Tryz.prog 15 #[.map (some mp),.slice p m c,v,.int .i64 (want : Nat)] w (WrR base w p m c l (parT (levelN n) want (tks n)))
theorem par_len (lv want : Nat) (t : List Txt) : (parT lv want t).length ≤ t.length + 2 := by
 unfold parT
 split
 ·simp
 ·omega
mutual
theorem tks_len : ∀ n,(tks n).length + 2 ≤ 8 * szN n
 | .num _ => by simp [tks,szN]
 | .quo _ => by simp [tks,szN]
 | .wrd _ => by simp [tks,szN]
 | .un op a => by
  have h1 := tks_len a
  have h2 := par_len (levelN a) (if op = tNot then 3 else 7) (tks a)
  simp only [tks,szN,List.length_cons]
  omega
 | .bin op a b => by
  have h1 := tks_len a
  have h2 := par_len (levelN a) (opL op) (tks a)
  have h3 := tks_len b
  have h4 := par_len (levelN b) (opR op) (tks b)
  simp only [tks,szN,List.length_cons,List.length_append]
  omega
 | .cnd c a b => by
  have h1 := tks_len a
  have h2 := tks_len b
  have h3 := tks_len c
  simp only [tks,szN,List.length_cons,List.length_append]
  omega
 | .lst l => by
  have := tksL_len true l
  simp only [tks,szN,List.length_cons,List.length_append,List.length_nil]
  omega
 | .cal i l => by
  have := tksL_len true l
  simp only [tks,szN,List.length_cons,List.length_append,List.length_nil]
  omega
theorem tksL_len : ∀ f l,(tksL f l).length + l.length ≤ 8 * szL l
 | _,[] => by simp [tksL]
 | f,x :: l => by
  have h1 := tks_len x
  have h2 := tksL_len false l
  simp only [tksL,szL,List.length_append,List.length_cons]
  split
  ·simp only [List.length_nil]; omega
  ·simp only [List.length_singleton]; omega
end
theorem WrR.of {base : Nat} {w : World} {p : Option Addr} {m c : Nat} {l news : List Txt} {w' : World} {q : Option Addr} {k d : Nat} (h : GrewT base w p m c w' q k d (l ++ news)) (hk : k = m + news.length) : WrR base w p m c l news (.returned (.slice q k d)) w' := by
 subst hk
 exact ⟨q,d,rfl,h⟩
theorem IsL_get {B : Nat → Prop} {w : World} : ∀ {l : List N} {vs : List Value} {i : Nat} {x : N},IsL B w l vs → l[i]? = some x → ∃ v,vs[i]? = some v ∧ IsN B w x v
 | y :: r,vs,0,x,h,hx => by
  obtain rfl : y = x := by simpa using hx
  simp only [IsL] at h
  obtain ⟨a,rs,rfl,h1,h2⟩ := h
  exact ⟨a,rfl,h1⟩
 | y :: r,vs,i + 1,x,h,hx => by
  simp only [IsL] at h
  obtain ⟨a,rs,rfl,h1,h2⟩ := h
  obtain ⟨v,h3,h4⟩ := IsL_get (i := i) h2 (by simpa using hx)
  exact ⟨v,by simpa using h3,h4⟩
theorem IsL_len {B : Nat → Prop} {w : World} : ∀ {l : List N} {vs : List Value},IsL B w l vs → vs.length = l.length
 | [],vs,h => by simp only [IsL] at h; rw [h]; rfl
 | y :: r,vs,h => by
  simp only [IsL] at h
  obtain ⟨a,rs,rfl,h1,h2⟩ := h
  rw [List.length_cons,List.length_cons,IsL_len h2]
theorem iface_of {B : Nat → Prop} {w : World} {x : N} {v : Value} (h : IsN B w x v) : ∃ t u,v = .iface t u := by
 cases x <;> simp only [IsN] at h
 ·obtain ⟨b,rfl,_⟩ := h; exact ⟨_,_,rfl⟩
 ·obtain ⟨b,rfl,_⟩ := h; exact ⟨_,_,rfl⟩
 ·obtain ⟨b,rfl,_⟩ := h; exact ⟨_,_,rfl⟩
 ·obtain ⟨b,_,rfl,_⟩ := h; exact ⟨_,_,rfl⟩
 ·obtain ⟨b,_,_,rfl,_⟩ := h; exact ⟨_,_,rfl⟩
 ·obtain ⟨b,_,_,_,rfl,_⟩ := h; exact ⟨_,_,rfl⟩
 ·obtain ⟨b,_,_,_,_,rfl,_⟩ := h; exact ⟨_,_,rfl⟩
 ·obtain ⟨b,_,_,_,_,rfl,_⟩ := h; exact ⟨_,_,rfl⟩
theorem szL_take {l : List N} {i : Nat} {x : N} (h : l[i]? = some x) : szL (l.take (i + 1)) = szL (l.take i) + szN x ∧ szL (l.take i) + szN x ≤ szL l := by
 have hs : l.take (i + 1) = l.take i ++ [x] := by rw [List.take_add_one,h]; rfl
 have h1 : szL (l.take (i + 1)) = szL (l.take i) + szN x := by
  rw [hs,szL_app]
  simp [szL]
 refine ⟨h1,?_⟩
 have := szL_app (l.take (i + 1)) (l.drop (i + 1))
 rw [List.take_append_drop] at this
 omega
theorem tksL_step : ∀ (f : Bool) (l : List N) (i : Nat) (x : N),l[i]? = some x → tksL f (l.take (i + 1)) = tksL f (l.take i) ++ ((if (f && decide (i = 0)) = true then [] else [sCom]) ++ tks x)
 | f,y :: l,0,x,h => by
  obtain rfl : y = x := by simpa using h
  simp only [List.take_succ_cons,List.take_zero,tksL]
  cases f <;> simp
 | f,y :: l,i + 1,x,h => by
  have ih := tksL_step false l i x (by simpa using h)
  rw [List.take_succ_cons,List.take_succ_cons,tksL,tksL,ih]
  simp
/-- A row of trees that stands somewhere. -/
structure AtNs (B : Nat → Prop) (w : World) (a : Option Addr) (n : Nat) (l : List N) (vs : List Value) : Prop where
 len : vs.length = n
 row : 0 < n → ∃ g,a = some ⟨g,0,none⟩ ∧ B g ∧ ∀ (j : Nat) (u : Value),vs[j]? = some u → w.cell? ⟨g,j,none⟩ = some u
 its : IsL B w l vs
theorem AtNs.ch {S B : Nat → Prop} {w w' : World} {a : Option Addr} {n : Nat} {l : List N} {vs : List Value} (h : AtNs B w a n l vs) (hc : Ch S w w') (hB : ∀ k,B k → ¬ S k) : AtNs B w' a n l vs :=
 ⟨h.len,row_keep hc hB h.row,IsL.ch hc hB l vs h.its⟩
theorem all_any (B : Nat → Prop) (base mp : Nat) (hB : ∀ k,B k → k < base) (hmp : mp < base) (hNG : 10 ≤ base) (items : List N) (hw : ∀ x ∈ items,WriteOk B base mp x) (w : World) (p : Option Addr) (m c : Nat) (l : List Txt) (a : Option Addr) (n ca : Nat) (vs : List Value)
  (ha : AtNs B w a n items vs) (hm : MapW w mp) (hT : Tabs w) (hb : base ≤ w.heap.size) (hr : RowT w base p m c l) (hsz : m + 8 * szL items ≤ 100000) :
  Calls Tryz.prog 35 #[.map (some mp),.slice p m c,.slice a n ca] w (WrR base w p m c l (tksL true items)) := by
 refine calls_of_fnT mixed Tryz.func35 (s := s35) ?_
 rw [t35]
 have hln : items.length = n := by have := IsL_len ha.its; have := ha.len; omega
 have hls : items.length ≤ szL items := szL_len items (fun n _ => szN_pos n)
 have hg0 : GrewT base w p m c w p m c (l ++ []) := by rw [List.append_nil]; exact Grew.refl hr
 refine loop_i mixed m35_1 s35_1 (by kernel_rfl) (by kernel_rfl)
  (fun (v : (Option Addr × Nat × Nat) × Int × Unit) w' => ∃ i : Nat,v.2.1 = (i : Nat) ∧ i ≤ n ∧ v.1.2.1 = m + (tksL true (items.take i)).length ∧ GrewT base w p m c w' v.1.1 v.1.2.1 v.1.2.2 (l ++ tksL true (items.take i)))
  (fun (v : (Option Addr × Nat × Nat) × Int × Unit) _ => n - v.2.1.toNat) ((p,m,c),0,()) rfl ⟨0,rfl,by omega,rfl,hg0⟩ ?_
 rintro ⟨⟨q,k,d⟩,_,⟨⟩⟩ g w2 ⟨i,rfl,hi,hk,G2⟩
 rw [t35_1]
 dsimp only at hk G2 ⊢
 subst hk
 have hz2 := G2.ch.size
 refine br_both (fun e => ?_) fun e => ?_
 ·have e := lt_t e
  obtain ⟨x,hx⟩ : ∃ x,items[i]? = some x := ⟨_,List.getElem?_eq_getElem (by omega)⟩
  have hxm := List.mem_of_getElem? hx
  have A2 := ha.ch G2.ch (fun k hk hr' => by have := (Row.lt hr hr').1; have := hB k hk; omega)
  have M2 := G2.keepM hr hmp hm
  have hTc : Ch (base ≤ ·) w w2 := G2.ch.mono fun k hk => (Row.lt hr hk).1
  have T2 : Tabs w2 := hT.ch hTc hNG
  obtain ⟨v,hv,hvx⟩ := IsL_get A2.its hx
  obtain ⟨t,u,rfl⟩ := iface_of hvx
  obtain ⟨gg,rfl,hgg,hcell⟩ := A2.row (by omega)
  have hst := tksL_step true items i x hx
  have hsx := szL_take hx
  have hln2 := tksL_len true (items.take i)
  rw [List.length_take] at hln2
  have fin : ∀ (q' : Option Addr) (k' c' : Nat) (w' : World),k' = m + (tksL true (items.take i)).length + ((if (true && decide (i = 0)) = true then [] else [sCom]) ++ tks x).length → GrewT base w2 q (m + (tksL true (items.take i)).length) d w' q' k' c' (l ++ tksL true (items.take i) ++ ((if (true && decide (i = 0)) = true then [] else [sCom]) ++ tks x)) →
    ∃ v : MVars m35_1,[((1 : Tmp),Value.slice q' k' c'),(11,.int .i64 (IntKind.i64.wrap ((i : Int) + 1)))] = mvals m35_1 v ∧ ((∃ i : Nat,v.2.1 = (i : Nat) ∧ i ≤ n ∧ v.1.2.1 = m + (tksL true (items.take i)).length ∧ GrewT base w p m c w' v.1.1 v.1.2.1 v.1.2.2 (l ++ tksL true (items.take i))) ∧ n - v.2.1.toNat < n - ((i : Nat) : Int).toNat) := fun q' k' c' w' hk' hg => by
   refine ⟨((q',k',c'),(i : Int) + 1,()),by rw [wrap_succ (by omega) (by omega)]; rfl,⟨i + 1,rfl,by omega,?_,?_⟩,?_⟩
   ·dsimp only
    rw [hst,List.length_append]
    omega
   ·rw [hst,← List.append_assoc]
    exact Grew.trans G2 hg
   ·show n - ((i : Int) + 1).toNat < n - ((i : Nat) : Int).toNat
    omega
  refine ix_i (by omega) (by omega) ?_
  rw [Int.toNat_natCast,addr_add,Nat.zero_add,Nat.mul_one]
  refine ⟨(t,u),t_told (hcell _ _ hv),?_⟩
  refine br_both (fun e2 => ?_) fun e2 => ?_
  ·have e2 := gt_t e2
   have hif : (true && decide (i = 0)) = false := by rw [decide_eq_false (by omega)]; rfl
   rw [hif,if_neg (by decide)] at fin
   refine nw fun w3 h3 z3 (b3 : Blk w3 _ ([sCom].map cellT) tStr) => ?_
   have r3 : RowT w3 base q (m + (tksL true (items.take i)).length) d (l ++ tksL true (items.take i)) := Row.no G2.own h3
   refine ap_t r3 (by omega) b3 rfl (by omega) fun q4 c4 w4 g4 => ?_
   have hz4 := g4.ch.size
   refine cl_i (hw x hxm (.iface t u) 0 w4 q4 (m + (tksL true (items.take i)).length + 1) c4 _ (g4.keepN r3 hB (IsN.ch h3 (fun _ _ h => h) x _ hvx)) (g4.keepM r3 hmp (M2.ch h3 (fun h => h))) ((T2.no h3).ch (g4.ch.mono fun k hk => (Row.lt r3 hk).1) hNG) (by omega) g4.own (by omega)) ?_
   rintro e w5 ⟨q5,d5,rfl,g5⟩
   rw [parT,if_neg (by omega)] at g5 ⊢
   refine ⟨(q5,_,d5),rfl,fin q5 _ d5 w5 (by simp; omega) ?_⟩
   have g6 := Grew.trans (Grew.after h3 g4) g5
   rw [List.append_assoc (l ++ tksL true (items.take i))] at g6
   exact g6
  ·have e2 := gt_f e2
   have hif : (true && decide (i = 0)) = true := by rw [decide_eq_true (by omega)]; rfl
   rw [hif,if_pos rfl] at fin
   refine cl_i (hw x hxm (.iface t u) 0 w2 q _ d _ hvx M2 T2 (by omega) G2.own (by omega)) ?_
   rintro e w5 ⟨q5,d5,rfl,g5⟩
   rw [parT,if_neg (by omega)] at g5 ⊢
   exact ⟨(q5,_,d5),rfl,fin q5 _ d5 w5 (by simp) (by simpa using g5)⟩
 ·have e := lt_f e
  obtain rfl : i = n := by omega
  refine ⟨rfl,((q,_,d),()),rfl,fun g => ?_⟩
  have hT : items.take i = items := List.take_of_length_le (by omega)
  rw [hT] at G2 ⊢
  show WrR base w p m c l _ (.returned (.slice q (m + (tksL true items).length) d)) w2
  exact WrR.of G2 rfl
end Go.Proofs.YtmdmomccibpjbaaGreatDoor.E
