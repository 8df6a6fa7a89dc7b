/- Canon; the law's own functions: each text is checked and brought into its one form by both, and the answers agree. -/
import Derived.Test.YtmdmomccibpjbaaGreatDoorRzf
import Derived.Test.YtmdmomccibpjbaaGreatDoorPwn
namespace Go.Proofs.YtmdmomccibpjbaaGreatDoor.E
open Go Tr
set_option maxRecDepth 100000
set_option maxHeartbeats 4000000
/-! the tree of function 8 -/
def s8 : Script := .cl (.tup [.leaf .any,.leaf .any]) (.nop (.nop (.nop (.nop (.nop (.nop (.rn (.one (.leaf .bool)) (.sym .nil (.cl (.one (.leaf .map)) (.cl (.one (.leaf .sl)) (.cl (.one (.leaf .str)) .nil)))))))))))
theorem t8 (qs0 : ByteArray) : fnT Tryz.prog Tryz.f8 #[.string qs0] s8 = .call 10 #[.string qs0] (.tup [.leaf .any,.leaf .any]) (fun r1 => .run (vNext (guarded .neq 26 (.tmp 11) (.const .nilIface) r1.snd.1 .nilIface)) (.one (.leaf .bool)) (fun b2 => .br b2 (.done (.returned (.tuple #[.string (bytesL []),r1.snd.1]))) (.call 14 #[] (.one (.leaf .map)) (fun m3 => .call 15 #[.map m3,.slice none 0 0,r1.1,.int .i64 0] (.one (.leaf .sl)) (fun l4 => .call 13 #[.slice l4.1 l4.2.1 l4.2.2] (.one (.leaf .str)) (fun s5 => .done (.returned (.tuple #[.string s5,.nilIface])))))))) := by kernel_rfl
/-! the tree of function 1007 -/
def s12f : Script := .lit (.lit (.lit (.ld .any (.rn (.one (.leaf .any)) (.rn (.one (.leaf .bool)) (.rn (.one (.leaf (.int .i64))) (.sym (.qt (.ld (.int .i64) (.ld (.int .i64) .nil))) .nil)))))))
theorem t12f (qcl : Addr) : fnT Tryz.prog Tryz.f12 #[.iface 49 (.pointer (some qcl))] s12f = .load (qcl.add 2) .any (fun v1 => .run (vNext (Instr.typeAssert v1 26 51 true)) (.one (.leaf .any)) (fun v2 => .run (execOp (Act.eval ⟨#[.iface 49 (.pointer (some qcl)),undef,.int .i64 0,.int .i64 0,.int .i64 0,undef,.pointer (some qcl),undef,.iface 49 (.pointer (some qcl)),.bool false,.tuple #[.pointer (some qcl),.bool true],.bool true,.pointer (some qcl),.pointer (some qcl),.bool false,.pointer (some qcl),.pointer (some qcl),.pointer (some (qcl.add 2)),v1,v2,undef,undef,undef,undef,undef,undef,undef,undef,undef,undef,undef],[]⟩) ({ dst := Option.some 20,op := Go.Op.extract (Go.Operand.tmp 19) 1,type := 4,pos := "exact.go:20",after := #[{ on := 0,ground := Go.Ground.data }],guard := Option.none })) (.one (.leaf .bool)) (fun b3 => .run (execOp (Act.eval ⟨#[.iface 49 (.pointer (some qcl)),undef,.int .i64 0,.int .i64 0,.int .i64 0,undef,.pointer (some qcl),undef,.iface 49 (.pointer (some qcl)),.bool false,.tuple #[.pointer (some qcl),.bool true],.bool true,.pointer (some qcl),.pointer (some qcl),.bool false,.pointer (some qcl),.pointer (some qcl),.pointer (some (qcl.add 2)),v1,v2,.bool b3,undef,undef,undef,undef,undef,undef,undef,undef,undef,undef],[]⟩) ({ dst := Option.some 21,op := Go.Op.extract (Go.Operand.tmp 19) 0,type := 51,pos := "exact.go:20",after := #[{ on := 0,ground := Go.Ground.data }],guard := Option.none })) (.one (.leaf (.int .i64))) (fun x4 => .br b3 (.drawn (.load qcl (.int .i64) (fun x5 => .load (qcl.add 1) (.int .i64) (fun x6 => .undrawn (.done (.returned (.tuple #[.int .i64 x5,.int .i64 x6,.int .i64 x4]))))))) (.done (.returned (.tuple #[.int .i64 (-1),.int .i64 (-1),.int .i64 (-1)]))))))) := by kernel_rfl
/-! the tree of function 1001 -/
def s12n : Script := .lit .nil
theorem t12n : fnT Tryz.prog Tryz.f12 #[.nilIface] s12n = .done (.returned (.tuple #[.int .i64 0,.int .i64 0,.int .i64 0])) := by kernel_rfl
/-! the tree of function 7 -/
def s7 : Script := .cl (.tup [.leaf (.int .i64),.leaf (.int .i64),.leaf (.int .i64)]) (.sym (.lit (.lit (.lit (.sym (.lit (.lit (.lit .nil))) (.lit (.lit (.lit .nil))))))) (.lit (.lit (.lit (.lit (.lit (.lit (.lit .nil))))))))
theorem t7 (qv0 : Value) (qx1 : Int) (qx2 : Int) (qx3 : Int) : fnT Tryz.prog Tryz.f7 #[qv0,.int .i64 qx1,.int .i64 qx2,.int .i64 qx3] s7 = .call 12 #[qv0] (.tup [.leaf (.int .i64),.leaf (.int .i64),.leaf (.int .i64)]) (fun r1 => .br (r1.fst == qx1) (.br (r1.snd.fst == qx2) (.done (.returned (.bool (r1.snd.snd.fst == qx3)))) (.done (.returned (.bool false)))) (.done (.returned (.bool false)))) := by kernel_rfl
/-! the tree of function 4 -/
def s4 : Script := .cl (.one (.leaf .any)) (.cl (.tup [.leaf (.int .i64),.leaf (.int .i64),.leaf (.int .i64)]) (.cl (.one (.leaf .bool)) (.sym .nil (.cl (.tup [.leaf .str,.leaf .any]) (.cl (.tup [.leaf .str,.leaf (.int .i64),.leaf (.int .i64),.leaf (.int .i64)]) (.cl (.one (.leaf .bool)) (.sym (.lit (.lit (.lit .nil))) (.lit (.lit (.lit .nil))))))))))
theorem t4 (qs0 : ByteArray) : fnT Tryz.prog Tryz.f4 #[.string qs0] s4 = .call 5 #[.string qs0] (.one (.leaf .any)) (fun v1 => .call 6 #[.string qs0] (.tup [.leaf (.int .i64),.leaf (.int .i64),.leaf (.int .i64)]) (fun r2 => .call 7 #[v1,.int .i64 r2.1,.int .i64 r2.2.1,.int .i64 r2.2.2.1] (.one (.leaf .bool)) (fun b3 => .br (!b3) (.done (.returned (.bool false))) (.call 8 #[.string qs0] (.tup [.leaf .str,.leaf .any]) (fun r4 => .call 9 #[.string qs0] (.tup [.leaf .str,.leaf (.int .i64),.leaf (.int .i64),.leaf (.int .i64)]) (fun r5 => .call 7 #[r4.snd.1,.int .i64 r5.2.1,.int .i64 r5.2.2.1,.int .i64 r5.2.2.2.1] (.one (.leaf .bool)) (fun b6 => .br b6 (.done (.returned (.bool (r4.fst.toList == r5.fst.toList)))) (.done (.returned (.bool false)))))))))) := by kernel_rfl
/-! the tree of function 3 -/
abbrev fx3_1 (qa0 : Option Addr) (qn0 : Nat) (qc0 : Nat) : List (Tmp × Value) := [(0,.slice qa0 qn0 qc0)]
abbrev m3_1 : List (Tmp × Comp) := [(3,.leaf (.int .i64))]
abbrev mx3_1 : List (Tmp × Comp) := []
abbrev mr3_1 : List (Tmp × Comp) := [(2,.leaf .bool)]
def s3_1 : Script := .sym (.ix (.ld .str (.cl (.one (.leaf .bool)) (.sym .nil .nil)))) .nil
theorem t3_1 (qa0 : Option Addr) (qn0 : Nat) (qc0 : Nat) (x_3 : Int) (gg1 : Nat → Value) : pieceT Tryz.prog (at_ Tryz.f3 [1,0,1,0,0]) 17 (fx3_1 qa0 qn0 qc0 ++ mvals m3_1 (x_3,())) gg1 (m3_1.map (·.1)) (mx3_1.map (·.1)) (mr3_1.map (·.1)) s3_1 = .br (Decidable.decide (x_3 < (↑qn0 : Int))) (.idx qa0 x_3 qn0 1 (fun a2 => .load a2 .str (fun s3 => .call 4 #[.string s3] (.one (.leaf .bool)) (fun b4 => .br (!b4) (.fin .ret [(2,.bool false)]) (.fin .normal [(3,.int .i64 (IntKind.i64.wrap (x_3 + 1)))]))))) (.fin (.exit 0) []) := by kernel_rfl
def s3 : Script := .lp 0 [0] [3] mx3_1 mr3_1 (.cl (.one (.leaf .bool)) .nil) .nil
theorem t3 (qa0 : Option Addr) (qn0 : Nat) (qc0 : Nat) : fnT Tryz.prog Tryz.f3 #[.slice qa0 qn0 qc0] s3 = .loop (at_ Tryz.f3 [1,0,1,0,0]) 17 (fx3_1 qa0 qn0 qc0) [(3,.int .i64 0)] mx3_1 mr3_1 0 (fun u5 g5 => .call 4 #[.string (bytesL [91,49,44,40,50,41,93])] (.one (.leaf .bool)) (fun b6 => .done (.returned (.bool b6)))) (fun u7 g7 => .done (.returned (.bool u7.1))) := by kernel_rfl
theorem par_short {lv want : Nat} {ts : List Txt} (h : ∀ t ∈ ts,t.length ≤ 100) : ∀ t ∈ parT lv want ts,t.length ≤ 100 := by
 intro t ht
 unfold parT at ht
 split at ht
 ·rcases List.mem_cons.1 ht with rfl | ht
  ·decide
  ·rcases List.mem_append.1 ht with ht | ht
   ·exact h t ht
   ·rw [List.mem_singleton.1 ht]; decide
 ·exact h t ht
mutual
theorem tks_short : ∀ n,WfN n → ∀ t ∈ tks n,t.length ≤ 100
 | .num n,h,t,ht => by
  simp only [tks,List.mem_singleton] at ht
  rw [ht]
  have := Lib.itoa_length_le n (by have := h.1; omega) h.2
  omega
 | .quo s,h,t,ht => by
  simp only [tks,List.mem_singleton] at ht
  rw [ht]
  have := quoM_len s
  have h : s.length ≤ 24 := h
  omega
 | .wrd w,h,t,ht => by
  simp only [tks,List.mem_singleton] at ht
  rw [ht]
  exact (by decide : ∀ w ∈ plainM,w.length ≤ 100) w h
 | .un op a,h,t,ht => by
  simp only [tks,List.mem_cons] at ht
  rcases ht with rfl | ht
  ·rcases h.1 with h | h <;> rw [h] <;> decide
  ·exact par_short (tks_short a h.2) t ht
 | .bin op a b,h,t,ht => by
  simp only [tks,List.mem_append,List.mem_cons] at ht
  rcases ht with ht | rfl | ht
  ·exact par_short (tks_short a h.2.1) t ht
  ·exact (by decide : ∀ w ∈ binOps,w.length ≤ 100) t h.1
  ·exact par_short (tks_short b h.2.2) t ht
 | .cnd c a b,h,t,ht => by
  simp only [tks,List.mem_append,List.mem_cons] at ht
  rcases ht with rfl | ht | rfl | ht | rfl | ht
  ·decide
  ·exact tks_short c h.1 t ht
  ·decide
  ·exact tks_short a h.2.1 t ht
  ·decide
  ·exact tks_short b h.2.2 t ht
 | .lst l,h,t,ht => by
  simp only [tks,List.mem_append,List.mem_cons,List.not_mem_nil,or_false] at ht
  rcases ht with rfl | ht | rfl
  ·decide
  ·exact tksL_short true l h t ht
  ·decide
 | .cal i l,h,t,ht => by
  simp only [tks,List.mem_append,List.mem_cons,List.not_mem_nil,or_false] at ht
  rcases ht with rfl | rfl | ht | rfl
  ·have := (name_len i h.1).1; omega
  ·decide
  ·exact tksL_short true l h.2.2 t ht
  ·decide
theorem tksL_short : ∀ f l,WfL l → ∀ t ∈ tksL f l,t.length ≤ 100
 | _,[],_,t,ht => by simp [tksL] at ht
 | f,x :: l,h,t,ht => by
  simp only [tksL,List.mem_append] at ht
  rcases ht with ht | ht | ht
  ·cases f
   ·rw [if_neg (by decide),List.mem_singleton] at ht
    rw [ht]; decide
   ·rw [if_pos rfl] at ht
    cases ht
  ·exact tks_short x h.1 t ht
  ·exact tksL_short false l h.2 t ht
end
theorem sumT_short : ∀ l : List Txt,(∀ t ∈ l,t.length ≤ 100) → sumT l ≤ 101 * l.length
 | [],_ => Nat.zero_le _
 | t :: l,h => by
  have := sumT_short l (fun x hx => h x (.tail _ hx))
  have := h t (.head _)
  rw [sumT_cons,List.length_cons]
  omega
theorem canon_any (w : World) (s : ByteArray) (hG : GlE w) : Calls Tryz.prog 8 #[.string s] w fun e w' => Ch No w w' ∧ match canonM s.data.toList with
  | .error c => ∃ v,e = .returned (.tuple #[.string (bytesL []),v]) ∧ ErrAt w' v 0 (c.2 : Nat) (c.1 : Nat)
  | .ok t => e = .returned (.tuple #[.string (bytesL t),.nilIface]) := by
 refine calls_of_fnT mixed Tryz.func8 (s := s8) ?_
 rw [t8]
 refine cl_i (parse_any w s hG) ?_
 rintro e w1 ⟨h1,hx⟩
 unfold canonM
 cases hp : parseE s.data.toList with
 | error c =>
  rw [hp] at hx
  obtain ⟨fb,f1,rfl,f3⟩ := hx
  have hE : ErrAt w1 (fltV fb) 0 (c.2 : Nat) (c.1 : Nat) := ⟨fb,rfl,f3⟩
  exact ⟨(.nilIface,fltV fb,()),rfl,ne_err hE (br_true rfl ⟨h1,_,rfl,hE⟩)⟩
 | ok n =>
  rw [hp] at hx
  obtain ⟨y,rfl,hr⟩ := hx
  obtain ⟨hwf,hsz,hl⟩ := parse_gd hp
  refine ⟨(.iface y.1 y.2,.nilIface,()),rfl,ne_nil (br_false rfl (cl_i (levels_any w1) ?_))⟩
  rintro e w2 ⟨h2,rfl,hm⟩
  refine ⟨some w1.heap.size,rfl,?_⟩
  have hgb := hG.big
  have h12 := h1.trans h2
  have hz1 := h1.size
  have hlt := hm.lt
  have hn : IsN (New w w1) w2 n (.iface y.1 y.2) := IsN.ch h2 (fun _ _ h => h) n _ hr
  have hT : Tabs w2 := (hG.no h12).tabs
  have hlen := tks_len n
  refine cl_i (write_any (New w w1) w2.heap.size w1.heap.size (fun k hk => by have := hk.2; omega) hlt (by omega) _ n (Nat.lt_succ_self _) hwf (.iface y.1 y.2) 0 w2 none 0 0 [] hn hm hT (Nat.le_refl _) (Row.nil _ _ _ _) (by omega)) ?_
  rintro e w3 ⟨q,d,rfl,g3⟩
  rw [parT,if_neg (by omega),List.nil_append] at g3
  refine ⟨(q,_,d),rfl,?_⟩
  have hc3 : Ch No w2 w3 := g3.ch.mono fun k hk => by unfold rowS Value.ownBlock at hk; cases hk
  have hp0 : parT (levelN n) 0 (tks n) = tks n := by rw [parT,if_neg (by omega)]
  rw [hp0]
  have hat : AtT w3 q (0 + (tks n).length) (tks n) := by
   refine ⟨by omega,fun hpos => ?_⟩
   obtain ⟨g,hq,_,hc⟩ := Row.get g3.own hpos
   exact ⟨g,hq,hc⟩
  have hss := sumT_short (tks n) (tks_short n hwf)
  refine cl_i (joined_any w3 q (0 + (tks n).length) d (tks n) hat (by omega)) ?_
  rintro e w4 ⟨h4,rfl⟩
  exact ⟨_,rfl,h12.trans (hc3.trans h4),rfl⟩
/-! ### The law -/
theorem told_nil (w : World) : Calls Tryz.prog 12 #[.nilIface] w fun e w' => e = .returned (.tuple #[.int .i64 0,.int .i64 0,.int .i64 0]) ∧ w' = w := by
 refine calls_of_fnT mixed Tryz.func12 (s := s12n) ?_
 rw [t12n]
 exact ⟨rfl,rfl⟩
theorem told_any (v : Value) (l a c : Int) (w : World) (h : ErrAt w v l a c) : Calls Tryz.prog 12 #[v] w fun e w' => e = .returned (.tuple #[.int .i64 l,.int .i64 a,.int .i64 c]) ∧ Ch No w w' := by
 obtain ⟨b,rfl,hb⟩ := h
 refine calls_of_fnT mixed Tryz.func12 (s := s12f) ?_
 rw [t12f]
 simp only [addr_add,Nat.zero_add]
 refine ld_any (hb.cell 2) ?_
 refine t_run (x := .tuple #[.int .i64 c,.bool true]) (w' := w) ?_ ?_
 ·simp [vNext,Instr.typeAssert,go_sem,Tr.Shape.val,Tr.Comp.val,Tr.Leaf.val]
 refine t_run (x := true) (w' := w) rfl ?_
 refine t_run (x := c) (w' := w) rfl (br_true rfl ?_)
 refine dr_eq (lq_int (hb.cell 0) (lq_int (hb.cell 1) (un_eq ⟨rfl,(Ch.refl No w).drew⟩)))
theorem agrees_err (v : Value) (l a c : Int) (w : World) (h : ErrAt w v l a c) : Calls Tryz.prog 7 #[v,.int .i64 l,.int .i64 a,.int .i64 c] w fun e w' => e = .returned (.bool true) ∧ Ch No w w' := by
 refine calls_of_fnT mixed Tryz.func7 (s := s7) ?_
 rw [t7]
 refine cl_i (told_any v l a c w h) ?_
 rintro e w1 ⟨rfl,h1⟩
 refine ⟨(l,a,c,()),rfl,br_true (by simp) (br_true (by simp) ⟨?_,h1⟩)⟩
 simp
theorem agrees_nil (w : World) : Calls Tryz.prog 7 #[.nilIface,.int .i64 0,.int .i64 0,.int .i64 0] w fun e w' => e = .returned (.bool true) ∧ Ch No w w' := by
 refine calls_of_fnT mixed Tryz.func7 (s := s7) ?_
 rw [t7]
 refine cl_i (told_nil w) ?_
 rintro e w1 ⟨rfl,rfl⟩
 exact ⟨(0,0,0,()),rfl,br_true (by simp) (br_true (by simp) ⟨by simp,Ch.refl _ _⟩)⟩
theorem checks_any (w : World) (s : ByteArray) (hG : GlE w) : Calls Tryz.prog 4 #[.string s] w fun e w' => Ch No w w' ∧ e = .returned (.bool true) := by
 refine calls_of_fnT mixed Tryz.func4 (s := s4) ?_
 rw [t4]
 refine cl_i (check_any w s hG) ?_
 rintro e w1 ⟨h1,hx1⟩
 have hG1 := hG.no h1
 cases hp : parseE s.data.toList with
 | error c =>
  rw [hp] at hx1
  obtain ⟨v,rfl,hE⟩ := hx1
  refine ⟨v,rfl,cl_i (check3_any w1 s) ?_⟩
  rintro e w2 ⟨h2,hx2⟩
  rw [show readM s.data.toList = .error c by unfold readM; rw [hp]] at hx2
  obtain ⟨rfl,hc0⟩ := hx2
  refine ⟨(0,(c.2 : Int),(c.1 : Int),()),rfl,cl_i (agrees_err v 0 (c.2 : Nat) (c.1 : Nat) w2 (hE.no h2)) ?_⟩
  rintro e w3 ⟨rfl,h3⟩
  have h03 := h1.trans (h2.trans h3)
  refine ⟨true,rfl,br_false rfl (cl_i (canon_any w3 s (hG.no h03)) ?_)⟩
  rintro e w4 ⟨h4,hx4⟩
  have hcm : canonM s.data.toList = .error c := by unfold canonM; rw [hp]
  rw [hcm] at hx4
  obtain ⟨v4,rfl,hE4⟩ := hx4
  refine ⟨(bytesL [],v4,()),rfl,cl_i (canon3_any w4 s (hG.no (h03.trans h4)).tabs) ?_⟩
  rintro e w5 ⟨h5,hx5⟩
  rw [hcm] at hx5
  obtain ⟨rfl,_⟩ := hx5
  refine ⟨(bytesL [],0,(c.2 : Int),(c.1 : Int),()),rfl,cl_i (agrees_err v4 0 (c.2 : Nat) (c.1 : Nat) w5 (hE4.no h5)) ?_⟩
  rintro e w6 ⟨rfl,h6⟩
  exact ⟨true,rfl,br_true rfl ⟨h03.trans (h4.trans (h5.trans h6)),by simp⟩⟩
 | ok n =>
  rw [hp] at hx1
  obtain rfl := hx1
  refine ⟨.nilIface,rfl,cl_i (check3_any w1 s) ?_⟩
  rintro e w2 ⟨h2,hx2⟩
  rw [show readM s.data.toList = .ok (flat n) by unfold readM; rw [hp]] at hx2
  obtain rfl := hx2
  refine ⟨(0,0,0,()),rfl,cl_i (agrees_nil w2) ?_⟩
  rintro e w3 ⟨rfl,h3⟩
  have h03 := h1.trans (h2.trans h3)
  refine ⟨true,rfl,br_false rfl (cl_i (canon_any w3 s (hG.no h03)) ?_)⟩
  rintro e w4 ⟨h4,hx4⟩
  have hcm : canonM s.data.toList = .ok (joinB (tks n)) := by unfold canonM; rw [hp]
  rw [hcm] at hx4
  obtain rfl := hx4
  refine ⟨(bytesL (joinB (tks n)),.nilIface,()),rfl,cl_i (canon3_any w4 s (hG.no (h03.trans h4)).tabs) ?_⟩
  rintro e w5 ⟨h5,hx5⟩
  rw [hcm] at hx5
  obtain rfl := hx5
  refine ⟨(bytesL (joinB (tks n)),0,0,0,()),rfl,cl_i (agrees_nil w5) ?_⟩
  rintro e w6 ⟨rfl,h6⟩
  exact ⟨true,rfl,br_true rfl ⟨h03.trans (h4.trans (h5.trans h6)),by simp⟩⟩
/-- ExprReads answers true. -/
theorem law_any (w : World) (a : Option Addr) (n c : Nat) (h : ∀ i < n,∃ ad s,a = some ad ∧ w.cell? (ad.add i) = some (.string s)) (hn : n ≤ 9223372036854775807) (hG : GlE w) :
  Calls Tryz.prog 3 #[.slice a n c] w fun e w' => e = .returned (.bool true) ∧ Ch No w w' := by
 refine calls_of_fnT mixed Tryz.func3 (s := s3) ?_
 rw [t3]
 refine loop_i mixed m3_1 s3_1 (by kernel_rfl) (by kernel_rfl)
  (fun (v : Int × Unit) w' => ∃ i : Nat,v.1 = (i : Nat) ∧ i ≤ n ∧ Ch No w w') (fun (v : Int × Unit) _ => n - v.1.toNat) (0,()) rfl ⟨0,rfl,by omega,Ch.refl _ _⟩ ?_
 rintro ⟨_,⟨⟩⟩ g w2 ⟨i,rfl,hi,h2⟩
 rw [t3_1]
 dsimp only
 refine br_both (fun e => ?_) fun e => ?_
 ·have e := lt_t e
  obtain ⟨ad,s,rfl,hc⟩ := h i (by omega)
  refine ix_i (by omega) (by omega) ?_
  rw [Int.toNat_natCast,Nat.mul_one]
  refine ld_str (h2.cellv hc (fun h => h)) (cl_i (checks_any w2 s (hG.no h2)) ?_)
  rintro e w3 ⟨h3,rfl⟩
  refine ⟨true,rfl,br_false rfl ⟨((i : Int) + 1,()),by rw [wrap_succ (by omega) (by omega)]; rfl,⟨i + 1,rfl,by omega,h2.trans h3⟩,?_⟩⟩
  show n - ((i : Int) + 1).toNat < n - ((i : Nat) : Int).toNat
  omega
 ·refine ⟨rfl,(),rfl,fun g => cl_i (checks_any w2 _ (hG.no h2)) ?_⟩
  rintro e w3 ⟨h3,rfl⟩
  exact ⟨true,rfl,rfl,h2.trans h3⟩
end Go.Proofs.YtmdmomccibpjbaaGreatDoor.E
