/- The document's reader: its rows in memory; what was opened last, dropped, pushed, emitted. The document's reader: operators and ifs that are ended; the floor; brackets. -/
import Derived.Test.YtmdmomccibpjbaaGreatDoorRwn
namespace Go.Proofs.YtmdmomccibpjbaaGreatDoor.E
open Go Tr
open V (rest rest_cases restL sizeB pk_rest cx_i cp_i extract_list pk hexP)
set_option maxRecDepth 100000
set_option maxHeartbeats 2000000
/-! the tree of function 50 -/
def s50 : Script := .ld .sl (.sym (.ld .str (.ld (.int .i64) (.ld (.int .i64) .nil))) (.hd0 (.hq 0 (.hq 1 (.hq 2 (.hq 3 (.ld .sl (.hq 4 (.hq 5 (.hq 6 (.hq 7 (.ld .sl (.hq 8 (.hq 9 (.hq 10 (.ix (.hq 11 (.ld .str (.ld (.int .i64) (.ld (.int .i64) (.he 12 (.ld .str (.ld (.int .i64) (.ld (.int .i64) .nil))))))))))))))))))))))))
theorem t50 (qa0 : Addr) : fnT Tryz.prog Tryz.f50 #[.pointer (some qa0)] s50 = .new (.cells #[.string (bytesL []),.int .i64 0,.int .i64 0] 68 (0,0)) (fun n1 => .load (qa0.add 3) .sl (fun l2 => .br ((↑l2.snd.fst : Int) == 0) (.store ⟨n1,0,none⟩ (.string (bytesL [])) (.store ⟨n1,1,none⟩ (.int .i64 (-1)) (.store ⟨n1,2,none⟩ (.int .i64 0) (.load ⟨n1,0,none⟩ .str (fun s3 => .load ⟨n1,1,none⟩ (.int .i64) (fun x4 => .load ⟨n1,2,none⟩ (.int .i64) (fun x5 => .done (.returned (.agg #[.string s3,.int .i64 x4,.int .i64 x5]))))))))) (.hdrawn (.load (qa0.add 3) .sl (fun l6 => .load (qa0.add 3) .sl (fun l7 => .idx l6.1 (IntKind.i64.wrap ((↑l7.snd.fst : Int) - 1)) l6.2.1 3 (fun a8 => .load a8 .str (fun s9 => .load (a8.add 1) (.int .i64) (fun x10 => .load (a8.add 2) (.int .i64) (fun x11 => .eff (.store ⟨n1,0,none⟩ (.string s9) (.store ⟨n1,1,none⟩ (.int .i64 x10) (.store ⟨n1,2,none⟩ (.int .i64 x11) (.back (.undrawn (.load ⟨n1,0,none⟩ .str (fun s12 => .load ⟨n1,1,none⟩ (.int .i64) (fun x13 => .load ⟨n1,2,none⟩ (.int .i64) (fun x14 => .done (.returned (.agg #[.string s12,.int .i64 x13,.int .i64 x14]))))))))))))))))))))) := by kernel_rfl
/-! the tree of function 52 -/
def s52 : Script := .ld .sl (.sym (.hd0 (.hq 0 (.hq 1 (.hq 2 (.hq 3 (.hq 5 (.hq 6 (.hq 7 (.hl 4 (.ld .sl (.he 8 (.ld .sl (.hq 9 (.hq 10 (.hq 11 (.nd (.hq 12 (.hq 13 (.he 14 .nil)))))))))) (.hl 8 (.ld .sl (.hq 9 (.hq 10 (.he 4 (.ld .sl (.hq 11 (.nd (.hq 12 (.hq 13 (.he 14 .nil)))))))))) .nil)))))))))) .nil)
theorem t52 (qa0 : Addr) : fnT Tryz.prog Tryz.f52 #[.pointer (some qa0)] s52 = .load (qa0.add 3) .sl (fun l1 => .br (Decidable.decide ((↑l1.snd.fst : Int) > 0)) (.hdrawn (.both (.eff (.load (qa0.add 3) .sl (fun l2 => .back (.eff (.load (qa0.add 3) .sl (fun l3 => .back (.need (Decidable.decide (Int.ofNat 0 ≤ 0 ∧ 0 ≤ IntKind.i64.wrap ((↑l3.snd.fst : Int) - 1) ∧ IntKind.i64.wrap ((↑l3.snd.fst : Int) - 1) ≤ (↑l2.snd.snd : Int))) (.eff (.store (qa0.add 3) (.slice (if l2.snd.snd = 0 then l2.fst else Option.map (fun q ↦ q.add (0 * 3)) l2.fst) ((IntKind.i64.wrap ((↑l3.snd.fst : Int) - 1)).toNat - 0) (l2.snd.snd - 0)) (.back (.undrawn (.done (.returned (.tuple #[])))))))))))))) (.both (.eff (.load (qa0.add 3) .sl (fun l4 => .back (.eff (.load (qa0.add 3) .sl (fun l5 => .back (.need (Decidable.decide (Int.ofNat 0 ≤ 0 ∧ 0 ≤ IntKind.i64.wrap ((↑l4.snd.fst : Int) - 1) ∧ IntKind.i64.wrap ((↑l4.snd.fst : Int) - 1) ≤ (↑l5.snd.snd : Int))) (.eff (.store (qa0.add 3) (.slice (if l5.snd.snd = 0 then l5.fst else Option.map (fun q ↦ q.add (0 * 3)) l5.fst) ((IntKind.i64.wrap ((↑l4.snd.fst : Int) - 1)).toNat - 0) (l5.snd.snd - 0)) (.back (.undrawn (.done (.returned (.tuple #[])))))))))))))) (.triv)))) (.done (.returned (.tuple #[])))) := by kernel_rfl
/-! the tree of function 54 -/
def s54 : Script := .ld .sl (.nop (.nop (.nop (.nop (.rn (.one (.leaf .sl)) .nil)))))
theorem t54 (qa0 : Addr) (qs1 : ByteArray) (qx2 : Int) : fnT Tryz.prog Tryz.f54 #[.pointer (some qa0),.string qs1,.int .i64 qx2] s54 = .load (qa0.add 3) .sl (fun l1 => .new (.cells #[.string qs1,.int .i64 qx2,.int .i64 0] 68 (0,0)) (fun n2 => .run (builtin .append #[60,60] 60 #[false,false] #[.slice l1.1 l1.2.1 l1.2.2,.slice (some ⟨n2,0,none⟩) 1 1]) (.one (.leaf .sl)) (fun l3 => .store (qa0.add 3) (.slice l3.1 l3.2.1 l3.2.2) (.done (.returned (.tuple #[])))))) := by kernel_rfl
/-! the tree of function 51 -/
def s51 : Script := .ld .sl (.nop (.nop (.nop (.nop (.rn (.one (.leaf .sl)) .nil)))))
theorem t51 (qa0 : Addr) (qs1 : ByteArray) (qx2 : Int) : fnT Tryz.prog Tryz.f51 #[.pointer (some qa0),.string qs1,.int .i64 qx2] s51 = .load (qa0.add 2) .sl (fun l1 => .new (.cells #[.string qs1,.int .i64 qx2,.int .i64 0,.string (bytesL [])] 123 (0,0)) (fun n2 => .run (builtin .append #[39,39] 39 #[false,false] #[.slice l1.1 l1.2.1 l1.2.2,.slice (some ⟨n2,0,none⟩) 1 1]) (.one (.leaf .sl)) (fun l3 => .store (qa0.add 2) (.slice l3.1 l3.2.1 l3.2.2) (.done (.returned (.tuple #[])))))) := by kernel_rfl
abbrev tOpen3 : TypeId := 68
abbrev tStep3 : TypeId := 123
def cellsO (o : OM) : List Value := [.string (bytesL o.op),.int .i64 o.lv,.int .i64 (o.cnt : Nat)]
def cellsS (x : SM) : List Value := [.string (bytesL x.op),.int .i64 (x.n : Nat),.int .i64 x.num,.string (bytesL x.text)]
theorem cellsO_len (l : List OM) : (l.flatMap cellsO).length = 3 * l.length := by
 induction l with
 | nil => rfl
 | cons a r ih => rw [List.flatMap_cons,List.length_append,ih,List.length_cons]; show 3 + _ = _; omega
theorem cellsS_len (l : List SM) : (l.flatMap cellsS).length = 4 * l.length := by
 induction l with
 | nil => rfl
 | cons a r ih => rw [List.flatMap_cons,List.length_append,ih,List.length_cons]; show 4 + _ = _; omega
/-- A barrier that is a bracket. -/
def brk (o : OM) : Bool := decide (o.lv < 0) && (!(o.op == tIf) && (!(o.op == tThen) && !(o.op == tElse)))
/-- What is open is in order; d brackets are. -/
structure OkO (σ : List OM) (d : Nat) : Prop where
 deep : d ≤ 10
 brks : σ.countP brk = d
 each : ∀ o ∈ σ,o.cnt ≤ 10 ∧ -1 ≤ o.lv ∧ o.lv ≤ 7 ∧ o.op ≠ []
/-- The reader at b, in blocks of B. -/
structure Rd (B : Nat → Prop) (base : Nat) (w : World) (b : Nat) (s : ByteArray) (i : Nat) (σ : List OM) (ω : List SM) (d : Nat) : Prop where
 own : B b
 bnd : ∀ k,B k → base ≤ k ∧ k < w.heap.size
 mem : ∃ pS nS cS pO nO cO,(∀ k,rowS pS nS cS k → B k) ∧ (∀ k,rowS pO nO cO k → B k) ∧ RB w b s i (.slice pS nS cS) (.slice pO nO cO) d ∧ Row w base tStep3 4 pS nS cS (ω.flatMap cellsS) ∧ Row w base tOpen3 3 pO nO cO (σ.reverse.flatMap cellsO)
/-- From w to w' blocks of B alone have turned; B' has new ones besides. -/
structure Turn (B B' : Nat → Prop) (w w' : World) : Prop where
 ch : Ch B w w'
 lies : ∀ k,B' k → B k ∨ w.heap.size ≤ k
section
variable {B B' B'' : Nat → Prop} {w w1 w2 : World}
theorem Turn.refl : Turn B B w w := ⟨Ch.refl _ _,fun _ h => .inl h⟩
theorem Turn.of (h : Ch B w w1) : Turn B B w w1 := ⟨h,fun _ h => .inl h⟩
theorem Turn.no (h : Ch No w w1) : Turn B B w w1 := ⟨h.no,fun _ h => .inl h⟩
theorem Turn.trans (h : Turn B B' w w1) (k : Turn B' B'' w1 w2) : Turn B B'' w w2 :=
 ⟨h.ch.then_ k.ch (fun i hi hb => (h.lies i hb).resolve_right (by omega)),fun i hi => by
  rcases k.lies i hi with h' | h'
  ·exact h.lies i h'
  ·exact .inr (Nat.le_trans h.ch.size h')⟩
theorem Turn.away (h : Turn B B' w w1) {n : Nat} (hn : ¬ B n) (hl : n < w.heap.size) : ¬ B' n := fun h' => (h.lies n h').elim hn (by omega)
end
section
variable {B : Nat → Prop} {base : Nat} {w w' : World} {b : Nat} {s : ByteArray} {i : Nat} {σ : List OM} {ω : List SM} {d : Nat}
theorem Rd.ch {S : Nat → Prop} (h : Rd B base w b s i σ ω d) (hc : Ch S w w') (hS : ∀ k,B k → ¬ S k) : Rd B base w' b s i σ ω d := by
 obtain ⟨pS,nS,cS,pO,nO,cO,h1,h2,h3,h4,h5⟩ := h.mem
 have hz := hc.size
 exact ⟨h.own,fun k hk => ⟨(h.bnd k hk).1,by have := (h.bnd k hk).2; omega⟩,pS,nS,cS,pO,nO,cO,h1,h2,Blk.ch h3 hc (hS b h.own),h4.ch hc (fun k hk => hS k (h1 k hk)),h5.ch hc (fun k hk => hS k (h2 k hk))⟩
theorem Rd.no (h : Rd B base w b s i σ ω d) (hc : Ch No w w') : Rd B base w' b s i σ ω d := h.ch hc fun _ _ h => h
end
/-- What was opened last; nothing: a barrier without a name. -/
def topM : List OM → OM
 | [] => ⟨[],-1,0⟩
 | o :: _ => o
def topV (o : OM) : Value := .agg #[.string (bytesL o.op),.int .i64 o.lv,.int .i64 (o.cnt : Nat)]
theorem top_row (o : OM) (σ : List OM) (j : Nat) (hj : j < 3) : ((o :: σ).reverse.flatMap cellsO)[3 * σ.length + j]? = (cellsO o)[j]? := by
 rw [List.reverse_cons,List.flatMap_append,List.getElem?_append_right (by rw [cellsO_len,List.length_reverse]; omega),cellsO_len,List.length_reverse,Nat.add_sub_cancel_left]
 simp
theorem top_any (w : World) (B : Nat → Prop) (base b : Nat) (s : ByteArray) (i : Nat) (σ : List OM) (ω : List SM) (d : Nat) (h : Rd B base w b s i σ ω d) :
  Calls Tryz.prog 50 #[.pointer (some ⟨b,0,none⟩)] w fun e w' => Ch No w w' ∧ e = .returned (topV (topM σ)) := by
 refine calls_of_fnT mixed Tryz.func50 (s := s50) ?_
 rw [t50]
 simp only [addr_add,Nat.zero_add]
 obtain ⟨pS,nS,cS,pO,nO,cO,hS,hO,hb,rS,rO⟩ := h.mem
 have hl := rO.len
 rw [cellsO_len,List.length_reverse] at hl
 refine nw fun w1 h1 z1 n1 => ?_
 have b1 : RB w1 b s i (.slice pS nS cS) (.slice pO nO cO) d := Blk.ch hb h1 (fun h => h)
 refine ld_sl (Blk.cell b1 3) (br_both (fun e => ?_) fun e => ?_)
 ·have e := eq_t e
  have hσ : σ = [] := List.eq_nil_of_length_eq_zero (by dsimp only at e; omega)
  subst hσ
  refine st_blk n1 (by simp) rfl fun w2 h2 z2 n2 => st_blk n2 (by simp) rfl fun w3 h3 z3 n3 => st_blk n3 (by simp) rfl fun w4 h4 z4 n4 => ?_
  refine ld_str (n4.cell 0) (ld_int (n4.cell 1) (ld_int (n4.cell 2) ⟨?_,rfl⟩))
  exact h1.then_ (h2.trans (h3.trans h4)) (fun k hk (e : k = w.heap.size) => by omega)
 ·have e := eq_f e
  dsimp only at e
  obtain ⟨o,σ0,rfl⟩ : ∃ o σ0,σ = o :: σ0 := by
   cases σ with
   | nil => simp at hl; omega
   | cons o σ0 => exact ⟨o,σ0,rfl⟩
  rw [List.length_cons] at hl
  obtain ⟨g,rfl,hg,hc⟩ := rO.get (by omega)
  have hgl := (rO.lt hg).2
  have hcap := rO.cap
  have hd1 := (Ch.refl No w1).drew
  have key : ∀ w',Ch (· = w.heap.size) w1.drew w' → ∀ j u,j < 3 → (cellsO o)[j]? = some u → w'.cell? ⟨g,3 * σ0.length + j,none⟩ = some u := fun w' hw j u hj hu =>
   hw.cellv (hd1.cellv (h1.cellv (hc _ u (by rw [top_row o σ0 j hj]; exact hu)) (fun h => h)) (fun h => h)) (fun e : g = w.heap.size => by omega)
  have keyb : ∀ w',Ch (· = w.heap.size) w1.drew w' → w'.cell? ⟨b,3,none⟩ = some (.slice (some ⟨g,0,none⟩) nO cO) := fun w' hw =>
   hw.cellv (hd1.cellv (Blk.cell b1 3) (fun h => h)) (fun e : b = w.heap.size => by have := Blk.lt hb; omega)
  have hw : IntKind.i64.wrap ((nO : Int) - 1) = ((σ0.length : Nat) : Int) := by rw [wrap_in (by omega) (by omega)]; omega
  refine hd_i (fun w' => Ch (· = w.heap.size) w1.drew w') (Ch.refl _ _) (lh_sl keyb (lh_sl keyb ?_))
  dsimp only
  rw [hw]
  refine ix_i (by omega) (by omega) ?_
  rw [Int.toNat_natCast,addr_add,addr_add,addr_add,Nat.zero_add,show σ0.length * 3 = 3 * σ0.length by omega]
  refine lh_str (fun w' h => key w' h 0 _ (by omega) rfl) (lh_int (fun w' h => key w' h 1 _ (by omega) rfl) (lh_int (fun w' h => key w' h 2 _ (by omega) rfl) (eff_i ?_)))
  have nd := n1.ch hd1 (fun h => h)
  refine st_blk nd (by simp) rfl fun w2 h2 z2 n2 => st_blk n2 (by simp) rfl fun w3 h3 z3 n3 => st_blk n3 (by simp) rfl fun w4 h4 z4 n4 => bk (h2.trans (h3.trans h4)) (un_h ?_)
  refine ld_str (n4.cell 0) (ld_int (n4.cell 1) (ld_int (n4.cell 2) ⟨?_,rfl⟩))
  exact (h1.trans hd1).then_ (h2.trans (h3.trans h4)) (fun k hk (e : k = w.heap.size) => by omega)
theorem OkO.tail {o : OM} {σ : List OM} {d : Nat} (h : OkO (o :: σ) d) : OkO σ (if brk o = true then d - 1 else d) := by
 obtain ⟨h1,h2,h3⟩ := h
 rw [List.countP_cons] at h2
 refine ⟨?_,?_,fun x hx => h3 x (.tail _ hx)⟩
 ·split <;> omega
 ·split
  ·rename_i hb
   rw [if_pos hb] at h2
   omega
  ·rename_i hb
   rw [if_neg hb] at h2
   omega
theorem OkO.push {o : OM} {σ : List OM} {d : Nat} (h : OkO σ d) (hc : o.cnt ≤ 10 ∧ -1 ≤ o.lv ∧ o.lv ≤ 7 ∧ o.op ≠ []) (hb : brk o = false) : OkO (o :: σ) d := by
 obtain ⟨h1,h2,h3⟩ := h
 refine ⟨h1,by rw [List.countP_cons,if_neg (by rw [hb]; decide)]; exact h2,fun x hx => ?_⟩
 rcases List.mem_cons.1 hx with rfl | hx
 ·exact hc
 ·exact h3 x hx
/-- The last one is dropped. -/
theorem drop_any (w : World) (B : Nat → Prop) (base b : Nat) (s : ByteArray) (i : Nat) (o : OM) (σ : List OM) (ω : List SM) (d : Nat) (h : Rd B base w b s i (o :: σ) ω d) :
  Calls Tryz.prog 52 #[.pointer (some ⟨b,0,none⟩)] w fun e w' => e = .returned (.tuple #[]) ∧ Turn B B w w' ∧ Rd B base w' b s i σ ω d := by
 refine calls_of_fnT mixed Tryz.func52 (s := s52) ?_
 rw [t52]
 simp only [addr_add,Nat.zero_add]
 obtain ⟨pS,nS,cS,pO,nO,cO,hS,hO,hb,rS,rO⟩ := h.mem
 have hl := rO.len
 rw [cellsO_len,List.length_reverse,List.length_cons] at hl
 have hcap := rO.cap
 have hd := (Ch.refl No w).drew
 refine ld_sl (Blk.cell hb 3) (br_both (fun e => ?_) fun e => ?_)
 ·have bd : RB w.drew b s i (.slice pS nS cS) (.slice pO nO cO) d := Blk.ch hb hd (fun h => h)
  obtain ⟨g,rfl,hg,hc⟩ := rO.get (by omega)
  have hw : IntKind.i64.wrap ((nO : Int) - 1) = ((σ.length : Nat) : Int) := by rw [wrap_in (by omega) (by omega)]; omega
  have tk := rO.take (m := σ.length) (by omega)
  rw [List.reverse_cons,List.flatMap_append,List.take_left' (by rw [cellsO_len,List.length_reverse]; omega)] at tk
  have hv : Value.slice (if cO = 0 then some (⟨g,0,none⟩ : Addr) else Option.map (fun q : Addr => q.add (0 * 3)) (some (⟨g,0,none⟩ : Addr))) ((((σ.length : Nat) : Int)).toNat - 0) (cO - 0) = .slice (some ⟨g,0,none⟩) σ.length cO := by
   simp only [Option.map_some,addr_add,Nat.mul_one,Nat.zero_add,ite_self,Nat.zero_mul,Int.toNat_natCast,Nat.sub_zero]
  have stp : ∀ {Q : Exit → List (Tmp × Value) → World → Prop} (w2 : World),w2 = w.drew →
    wpT Tryz.prog (fun e w' => e = .returned (.tuple #[]) ∧ Turn B B w w' ∧ Rd B base w' b s i σ ω d) Q
     (.need (Decidable.decide (Int.ofNat 0 ≤ 0 ∧ 0 ≤ IntKind.i64.wrap ((nO : Int) - 1) ∧ IntKind.i64.wrap ((nO : Int) - 1) ≤ (cO : Int)))
      (.eff (.store ⟨b,3,none⟩ (.slice (if cO = 0 then some (⟨g,0,none⟩ : Addr) else Option.map (fun q : Addr => q.add (0 * 3)) (some (⟨g,0,none⟩ : Addr))) ((IntKind.i64.wrap ((nO : Int) - 1)).toNat - 0) (cO - 0)) (.back (.undrawn (.done (.returned (.tuple #[])))))))) (.he (fun _ => True)) w2 := by
   rintro Q w2 rfl
   rw [hw,hv]
   refine nd3 (by decide) (by omega) (by omega) (eff_i (st_blk bd (by simp) rfl fun w3 h3 z3 b3 => bk trivial (un_h ?_)))
   have hc : Ch (· = b) w w3 := hd.no.trans h3
   have hbO : ∀ k,rowS (some ⟨g,0,none⟩) σ.length cO k → rowS (some ⟨g,0,none⟩) nO cO k := fun k hk => hk
   have r1 : Row w3 base tStep3 4 pS nS cS (ω.flatMap cellsS) := rS.ch hc (fun k hk e => rS.ne hb (by decide) (by rw [← e]; exact hk))
   have r2 : Row w3 base tOpen3 3 (some ⟨g,0,none⟩) σ.length cO (σ.reverse.flatMap cellsO) := tk.ch hc (fun k hk e => rO.ne hb (by decide) (by rw [← e]; exact hbO k hk))
   have hb3 : RB w3 b s i (.slice pS nS cS) (.slice (some ⟨g,0,none⟩) σ.length cO) d := b3
   have hz := hc.size
   exact ⟨rfl,Turn.of (hc.mono fun k (e : k = b) => by rw [e]; exact h.own),h.own,fun k hk => ⟨(h.bnd k hk).1,by have := (h.bnd k hk).2; omega⟩,_,_,_,_,_,_,hS,fun k hk => hO k (hbO k hk),hb3,r1,r2⟩
  refine hd_i (fun _ => True) trivial ⟨?_,?_,trivial⟩
  ·exact eff_i (ld_sl (Blk.cell bd 3) (bk trivial (eff_i (ld_sl (Blk.cell bd 3) (bk trivial (stp _ rfl))))))
  ·exact eff_i (ld_sl (Blk.cell bd 3) (bk trivial (eff_i (ld_sl (Blk.cell bd 3) (bk trivial (stp _ rfl))))))
 ·have e := gt_f e
  dsimp only at e
  omega
theorem infoOpen : (Tryz.prog.info? tOpen3).map (fun i => (i.zero,i.size,i.bytes)) = some (some (.agg #[.string (bytesL []),.int .i64 0,.int .i64 0]),3,32) := by kernel_rfl
theorem infoStep : (Tryz.prog.info? tStep3).map (fun i => (i.zero,i.size,i.bytes)) = some (some (.agg #[.string (bytesL []),.int .i64 0,.int .i64 0,.string (bytesL [])]),4,48) := by kernel_rfl
theorem cellsO_one (o : OM) : ∀ u ∈ cellsO o,u.oneCell' = true := fun u hu => by
 simp only [cellsO,List.mem_cons,List.not_mem_nil,or_false] at hu
 rcases hu with rfl | rfl | rfl <;> rfl
theorem cellsS_one (x : SM) : ∀ u ∈ cellsS x,u.oneCell' = true := fun u hu => by
 simp only [cellsS,List.mem_cons,List.not_mem_nil,or_false] at hu
 rcases hu with rfl | rfl | rfl | rfl <;> rfl
/-- Something is opened. -/
theorem push_any (w : World) (B : Nat → Prop) (base b : Nat) (s : ByteArray) (i : Nat) (o : OM) (σ : List OM) (ω : List SM) (d : Nat) (h : Rd B base w b s i σ ω d) (ho : o.cnt = 0) (hcap : σ.length + ω.length < 1000) :
  Calls Tryz.prog 54 #[.pointer (some ⟨b,0,none⟩),.string (bytesL o.op),.int .i64 o.lv] w fun e w' => e = .returned (.tuple #[]) ∧ ∃ B',Turn B B' w w' ∧ Rd B' base w' b s i (o :: σ) ω d := by
 refine calls_of_fnT mixed Tryz.func54 (s := s54) ?_
 rw [t54]
 simp only [addr_add,Nat.zero_add]
 obtain ⟨pS,nS,cS,pO,nO,cO,hS,hO,hb,rS,rO⟩ := h.mem
 have hbase : base ≤ w.heap.size := by have := h.bnd b h.own; omega
 have hl := rO.len
 rw [cellsO_len,List.length_reverse] at hl
 refine ld_sl (Blk.cell hb 3) (nw fun w1 h1 z1 n1 => ?_)
 have e0 : cellsO o = [.string (bytesL o.op),.int .i64 o.lv,.int .i64 0] := by unfold cellsO; rw [ho]; rfl
 have hb1 : RB w1 b s i (.slice pS nS cS) (.slice pO nO cO) d := Blk.ch hb h1 (fun h => h)
 have rO1 := rO.no h1
 have rS1 := rS.no h1
 refine ap_blk (by kernel_rfl) infoOpen rfl (by omega) rO1 (by omega) n1 (by rfl) (by rw [← e0]; exact cellsO_one o) (by unfold maxLen; omega) (by omega) fun q' c' w2 g2 => ?_
 have hb2 := g2.blk rO1 hb1 (by decide)
 refine st_blk hb2 (by simp) rfl fun w3 h3 z3 b3 => ?_
 have b3' : RB w3 b s i (.slice pS nS cS) (.slice q' (nO + 1) c') d := b3
 refine ⟨rfl,fun k => B k ∨ rowS q' (nO + 1) c' k,⟨?_,?_⟩,.inl h.own,?_,pS,nS,cS,q',nO + 1,c',fun k hk => .inl (hS k hk),fun k hk => .inr hk,b3',?_,?_⟩
 ·exact (h1.no.trans (g2.ch.mono fun k hk => hO k hk)).trans (h3.mono fun k (e : k = b) => by rw [e]; exact h.own)
 ·rintro k (hk | hk)
  ·exact .inl hk
  ·rcases g2.lies k hk with h' | h'
   ·exact .inl (hO k h')
   ·have := h1.size
    exact .inr (by omega)
 ·have hg := (g2.own)
  have hz := h1.size
  have hz2 := g2.ch.size
  have hz3 := h3.size
  rintro k (hk | hk)
  ·exact ⟨(h.bnd k hk).1,by have := (h.bnd k hk).2; omega⟩
  ·have := g2.own.lt hk
   exact ⟨this.1,by omega⟩
 ·have r2 : Row w2 base tStep3 4 pS nS cS (ω.flatMap cellsS) := rS1.ch g2.ch (fun k hk => rS1.apart rO1 (by decide) k hk)
  exact r2.ch h3 (fun k hk e => r2.ne hb2 (by decide) (by rw [← e]; exact hk))
 ·have r3 := g2.own.ch h3 (fun k hk e => g2.own.ne hb2 (by decide) (by rw [← e]; exact hk))
  rw [← e0] at r3
  rw [List.reverse_cons,List.flatMap_append]
  simpa using r3
theorem emit_any (w : World) (B : Nat → Prop) (base b : Nat) (s : ByteArray) (i : Nat) (σ : List OM) (ω : List SM) (d : Nat) (op : Txt) (n : Nat) (h : Rd B base w b s i σ ω d) (hcap : σ.length + ω.length < 1000) :
  Calls Tryz.prog 51 #[.pointer (some ⟨b,0,none⟩),.string (bytesL op),.int .i64 (n : Nat)] w fun e w' => e = .returned (.tuple #[]) ∧ ∃ B',Turn B B' w w' ∧ Rd B' base w' b s i σ (ω ++ [⟨op,n,0,[]⟩]) d := by
 refine calls_of_fnT mixed Tryz.func51 (s := s51) ?_
 rw [t51]
 simp only [addr_add,Nat.zero_add]
 obtain ⟨pS,nS,cS,pO,nO,cO,hS,hO,hb,rS,rO⟩ := h.mem
 have hbase : base ≤ w.heap.size := by have := h.bnd b h.own; omega
 have hl := rS.len
 rw [cellsS_len] at hl
 refine ld_sl (Blk.cell hb 2) (nw fun w1 h1 z1 n1 => ?_)
 have hb1 : RB w1 b s i (.slice pS nS cS) (.slice pO nO cO) d := Blk.ch hb h1 (fun h => h)
 have rO1 := rO.no h1
 have rS1 := rS.no h1
 refine ap_blk (by kernel_rfl) infoStep rfl (by omega) rS1 (by omega) n1 (by rfl) (cellsS_one (⟨op,n,0,[]⟩ : SM)) (by unfold maxLen; omega) (by omega) fun q' c' w2 g2 => ?_
 have hb2 := g2.blk rS1 hb1 (by decide)
 refine st_blk hb2 (by simp) rfl fun w3 h3 z3 b3 => ?_
 have b3' : RB w3 b s i (.slice q' (nS + 1) c') (.slice pO nO cO) d := b3
 have r3 : Row w3 base tStep3 4 q' (nS + 1) c' ((ω ++ [(⟨op,n,0,[]⟩ : SM)]).flatMap cellsS) := by
  have r3 := g2.own.ch h3 (fun k hk e => g2.own.ne hb2 (by decide) (by rw [← e]; exact hk))
  rw [List.flatMap_append]
  simpa [cellsS] using r3
 have r4 : Row w3 base tOpen3 3 pO nO cO (σ.reverse.flatMap cellsO) := by
  have r2 : Row w2 base tOpen3 3 pO nO cO (σ.reverse.flatMap cellsO) := rO1.ch g2.ch (fun k hk => rO1.apart rS1 (by decide) k hk)
  exact r2.ch h3 (fun k hk e => r2.ne hb2 (by decide) (by rw [← e]; exact hk))
 refine ⟨rfl,fun k => B k ∨ rowS q' (nS + 1) c' k,⟨?_,?_⟩,.inl h.own,?_,q',nS + 1,c',pO,nO,cO,fun k hk => .inr hk,fun k hk => .inl (hO k hk),b3',r3,r4⟩
 ·exact (h1.no.trans (g2.ch.mono fun k hk => hS k hk)).trans (h3.mono fun k (e : k = b) => by rw [e]; exact h.own)
 ·rintro k (hk | hk)
  ·exact .inl hk
  ·rcases g2.lies k hk with h' | h'
   ·exact .inl (hS k h')
   ·have := h1.size
    exact .inr (by omega)
 ·have hg := (g2.own)
  have hz := h1.size
  have hz2 := g2.ch.size
  have hz3 := h3.size
  rintro k (hk | hk)
  ·exact ⟨(h.bnd k hk).1,by have := (h.bnd k hk).2; omega⟩
  ·have := g2.own.lt hk
   exact ⟨this.1,by omega⟩
end Go.Proofs.YtmdmomccibpjbaaGreatDoor.E
namespace Go.Proofs.YtmdmomccibpjbaaGreatDoor.E
open Go Tr
open V (rest rest_cases restL sizeB pk_rest cx_i cp_i extract_list pk hexP)
set_option maxRecDepth 100000
set_option maxHeartbeats 2000000
/-! the tree of function 49 -/
abbrev fx49_1 (qa0 : Addr) (qx1 : Int) : List (Tmp × Value) := [(0,.pointer (some qa0)),(1,.int .i64 qx1)]
abbrev m49_1 : List (Tmp × Comp) := []
abbrev mx49_1 : List (Tmp × Comp) := []
abbrev mr49_1 : List (Tmp × Comp) := []
abbrev fx49_4 (qa0 : Addr) (qx1 : Int) (n3 : Nat) : List (Tmp × Value) := [(0,.pointer (some qa0)),(1,.int .i64 qx1),(4,.pointer (some ⟨n3,0,none⟩))]
abbrev mx49_4 : List (Tmp × Comp) := [(16,.leaf .bool)]
def s49_4 : Script := .ld (.int .i64) (.sym (.lit (.lit (.lit .nil))) (.lit (.ld (.int .i64) (.lit (.lit .nil)))))
theorem t49_4 (qa0 : Addr) (qx1 : Int) (n3 : Nat) (gg4 : Nat → Value) : pieceT Tryz.prog (at_ Tryz.f49 [0,0,0,1,0,0]) 32 (fx49_4 qa0 qx1 n3) gg4 (mx49_4.map (·.1)) [] [] s49_4 = .load ⟨n3,1,none⟩ (.int .i64) (fun x5 => .br (Decidable.decide (x5 < qx1)) (.fin .normal [(16,.bool true)]) (.load ⟨n3,1,none⟩ (.int .i64) (fun x6 => .fin .normal [(16,.bool (Decidable.decide (x6 < 0)))]))) := by kernel_rfl
abbrev fx49_8 (qa0 : Addr) (qx1 : Int) (n3 : Nat) : List (Tmp × Value) := [(0,.pointer (some qa0)),(1,.int .i64 qx1),(4,.pointer (some ⟨n3,0,none⟩)),(5,.int .i64 2)]
abbrev mx49_8 : List (Tmp × Comp) := [(24,.leaf .bool)]
def s49_8 : Script := .ld .str (.sym (.lit (.lit (.lit .nil))) (.lit (.ld .str (.lit (.lit .nil)))))
theorem t49_8 (qa0 : Addr) (qx1 : Int) (n3 : Nat) (gg8 : Nat → Value) : pieceT Tryz.prog (at_ Tryz.f49 [0,0,0,1,1,1,0,0]) 32 (fx49_8 qa0 qx1 n3) gg8 (mx49_8.map (·.1)) [] [] s49_8 = .load ⟨n3,0,none⟩ .str (fun s9 => .br (s9.toList == (bytesL [110,101,103]).toList) (.fin .normal [(24,.bool true)]) (.load ⟨n3,0,none⟩ .str (fun s10 => .fin .normal [(24,.bool (s10.toList == (bytesL [110,111,116]).toList))]))) := by kernel_rfl
def s49_1 : Script := .cl (.one (.agg [.str,.int .i64,.int .i64])) (.ct 1 [0,1,4] mx49_4 (.sym .nil (.ct 2 [0,1,4,5] mx49_8 (.sym (.ld .str (.cl (.tup []) (.cl (.tup []) .nil))) (.ld .str (.cl (.tup []) (.cl (.tup []) .nil)))))))
theorem t49_1 (qa0 : Addr) (qx1 : Int) (gg1 : Nat → Value) : pieceT Tryz.prog (at_ Tryz.f49 [0,0]) 32 (fx49_1 qa0 qx1 ++ mvals m49_1 (())) gg1 (m49_1.map (·.1)) (mx49_1.map (·.1)) (mr49_1.map (·.1)) s49_1 = .call 50 #[.pointer (some qa0)] (.one (.agg [.str,.int .i64,.int .i64])) (fun r2 => .new (.cells #[.string (bytesL []),.int .i64 0,.int .i64 0] 68 (0,0)) (fun n3 => .store ⟨n3,0,none⟩ (.string r2.1) (.store ⟨n3,1,none⟩ (.int .i64 r2.2.1) (.store ⟨n3,2,none⟩ (.int .i64 r2.2.2.1) (.cut (at_ Tryz.f49 [0,0,0,1,0,0]) 32 (fx49_4 qa0 qx1 n3) mx49_4 (fun u7 g7 => .br u7.1 (.fin .ret []) (.cut (at_ Tryz.f49 [0,0,0,1,1,1,0,0]) 32 (fx49_8 qa0 qx1 n3) mx49_8 (fun u11 g11 => .br u11.1 (.load ⟨n3,0,none⟩ .str (fun s12 => .call 51 #[.pointer (some qa0),.string s12,.int .i64 1] (.tup []) (fun r13 => .call 52 #[.pointer (some qa0)] (.tup []) (fun r14 => .fin .normal [])))) (.load ⟨n3,0,none⟩ .str (fun s15 => .call 51 #[.pointer (some qa0),.string s15,.int .i64 2] (.tup []) (fun r16 => .call 52 #[.pointer (some qa0)] (.tup []) (fun r17 => .fin .normal [])))))))))))) := by kernel_rfl
def s49 : Script := .lp 0 [0,1] [] mx49_1 mr49_1 .nil .nil
theorem t49 (qa0 : Addr) (qx1 : Int) : fnT Tryz.prog Tryz.f49 #[.pointer (some qa0),.int .i64 qx1] s49 = .loop (at_ Tryz.f49 [0,0]) 32 (fx49_1 qa0 qx1) [] mx49_1 mr49_1 0 (fun u18 g18 => .done (.returned (.tuple #[]))) (fun u19 g19 => .done (.returned (.tuple #[]))) := by kernel_rfl
/-! the tree of function 22 -/
abbrev fx22_2 (qa0 : Addr) (n1 : Nat) : List (Tmp × Value) := [(0,.pointer (some qa0)),(2,.pointer (some ⟨n1,0,none⟩))]
abbrev m22_2 : List (Tmp × Comp) := []
abbrev mx22_2 : List (Tmp × Comp) := []
abbrev mr22_2 : List (Tmp × Comp) := []
def s22_2 : Script := .cl (.tup []) (.cl (.one (.agg [.str,.int .i64,.int .i64])) (.ld .str (.sym (.ld .str (.ld (.int .i64) (.ld (.int .i64) .nil))) (.cl (.tup []) (.cl (.tup []) .nil)))))
theorem t22_2 (qa0 : Addr) (n1 : Nat) (gg2 : Nat → Value) : pieceT Tryz.prog (at_ Tryz.f22 [1,0,0]) 16 (fx22_2 qa0 n1 ++ mvals m22_2 (())) gg2 (m22_2.map (·.1)) (mx22_2.map (·.1)) (mr22_2.map (·.1)) s22_2 = .call 49 #[.pointer (some qa0),.int .i64 0] (.tup []) (fun r3 => .call 50 #[.pointer (some qa0)] (.one (.agg [.str,.int .i64,.int .i64])) (fun r4 => .new (.cells #[.string (bytesL []),.int .i64 0,.int .i64 0] 68 (0,0)) (fun n5 => .store ⟨n5,0,none⟩ (.string r4.1) (.store ⟨n5,1,none⟩ (.int .i64 r4.2.1) (.store ⟨n5,2,none⟩ (.int .i64 r4.2.2.1) (.load ⟨n5,0,none⟩ .str (fun s6 => .br (!s6.toList == (bytesL [101,108,115,101]).toList) (.load ⟨n5,0,none⟩ .str (fun s7 => .load ⟨n5,1,none⟩ (.int .i64) (fun x8 => .load ⟨n5,2,none⟩ (.int .i64) (fun x9 => .store ⟨n1,0,none⟩ (.string s7) (.store ⟨n1,1,none⟩ (.int .i64 x8) (.store ⟨n1,2,none⟩ (.int .i64 x9) (.fin .ret []))))))) (.call 51 #[.pointer (some qa0),.string (bytesL [105,102]),.int .i64 3] (.tup []) (fun r10 => .call 52 #[.pointer (some qa0)] (.tup []) (fun r11 => .fin .normal [])))))))))) := by kernel_rfl
def s22 : Script := .lp 0 [0,2] [] mx22_2 mr22_2 (.ld .str (.ld (.int .i64) (.ld (.int .i64) .nil))) (.ld .str (.ld (.int .i64) (.ld (.int .i64) .nil)))
theorem t22 (qa0 : Addr) : fnT Tryz.prog Tryz.f22 #[.pointer (some qa0)] s22 = .new (.cells #[.string (bytesL []),.int .i64 0,.int .i64 0] 68 (0,0)) (fun n1 => .loop (at_ Tryz.f22 [1,0,0]) 16 (fx22_2 qa0 n1) [] mx22_2 mr22_2 0 (fun u12 g12 => .load ⟨n1,0,none⟩ .str (fun s13 => .load ⟨n1,1,none⟩ (.int .i64) (fun x14 => .load ⟨n1,2,none⟩ (.int .i64) (fun x15 => .done (.returned (.agg #[.string s13,.int .i64 x14,.int .i64 x15])))))) (fun u16 g16 => .load ⟨n1,0,none⟩ .str (fun s17 => .load ⟨n1,1,none⟩ (.int .i64) (fun x18 => .load ⟨n1,2,none⟩ (.int .i64) (fun x19 => .done (.returned (.agg #[.string s17,.int .i64 x18,.int .i64 x19]))))))) := by kernel_rfl
/-! the tree of function 53 -/
def s53 : Script := .cl (.one (.agg [.str,.int .i64,.int .i64])) (.ld (.int .i64) (.sym .nil (.ld (.int .i64) (.sym .nil (.ld .str (.sym .nil (.ld .str (.sym .nil (.ld (.int .i64) .nil)))))))))
theorem t53 (qa0 : Addr) : fnT Tryz.prog Tryz.f53 #[.pointer (some qa0)] s53 = .call 50 #[.pointer (some qa0)] (.one (.agg [.str,.int .i64,.int .i64])) (fun r1 => .new (.cells #[.string (bytesL []),.int .i64 0,.int .i64 0] 68 (0,0)) (fun n2 => .store ⟨n2,0,none⟩ (.string r1.1) (.store ⟨n2,1,none⟩ (.int .i64 r1.2.1) (.store ⟨n2,2,none⟩ (.int .i64 r1.2.2.1) (.load ⟨n2,1,none⟩ (.int .i64) (fun x3 => .br (Decidable.decide (x3 < 0)) (.done (.returned (.int .i64 0))) (.load ⟨n2,1,none⟩ (.int .i64) (fun x4 => .br (x4 == 4) (.done (.returned (.int .i64 5))) (.load ⟨n2,0,none⟩ .str (fun s5 => .br (s5.toList == (bytesL [110,111,116]).toList) (.done (.returned (.int .i64 3))) (.load ⟨n2,0,none⟩ .str (fun s6 => .br (s6.toList == (bytesL [110,101,103]).toList) (.done (.returned (.int .i64 7))) (.load ⟨n2,1,none⟩ (.int .i64) (fun x7 => .done (.returned (.int .i64 (IntKind.i64.wrap (x7 + 1)))))))))))))))))) := by kernel_rfl
/-! the tree of function 55 -/
def s55 : Script := .ld (.int .i64) (.sym .nil (.ld (.int .i64) (.cl (.tup []) .nil)))
theorem t55 (qa0 : Addr) (qs1 : ByteArray) : fnT Tryz.prog Tryz.f55 #[.pointer (some qa0),.string qs1] s55 = .load (qa0.add 4) (.int .i64) (fun x1 => .br (x1 == 10) (.done (.returned (.int .i64 35))) (.load (qa0.add 4) (.int .i64) (fun x2 => .store (qa0.add 4) (.int .i64 (IntKind.i64.wrap (x2 + 1))) (.call 54 #[.pointer (some qa0),.string qs1,.int .i64 (-1)] (.tup []) (fun r3 => .done (.returned (.int .i64 0))))))) := by kernel_rfl
/-- How many things are open, by memory. -/
def openLen (b : Nat) (w : World) : Nat := match w.cell? ⟨b,3,none⟩ with
 | some (.slice _ n _) => n
 | _ => 0
theorem Rd.openLen {B : Nat → Prop} {base : Nat} {w : World} {b : Nat} {s : ByteArray} {i : Nat} {σ : List OM} {ω : List SM} {d : Nat} (h : Rd B base w b s i σ ω d) : E.openLen b w = σ.length := by
 obtain ⟨pS,nS,cS,pO,nO,cO,h1,h2,h3,h4,h5⟩ := h.mem
 have hl := h5.len
 rw [cellsO_len,List.length_reverse] at hl
 unfold E.openLen
 rw [Blk.cell h3 3]
 show nO = σ.length
 omega
/-- A value of what is open, in a block of its own. -/
theorem op_new {R : Ending → World → Prop} {Q : Exit → List (Tmp × Value) → World → Prop} {w : World} {o : OM} {K : Nat → T}
  (h : ∀ n w',Ch No w w' → w.heap.size ≤ n → Blk w' n (cellsO o) tOpen3 → wpT Tryz.prog R Q (K n) .pl w') :
  wpT Tryz.prog R Q (.new (.cells #[.string (bytesL []),.int .i64 0,.int .i64 0] tOpen3 (0,0)) (fun n => .store ⟨n,0,none⟩ (.string (bytesL o.op)) (.store ⟨n,1,none⟩ (.int .i64 o.lv) (.store ⟨n,2,none⟩ (.int .i64 (o.cnt : Nat)) (K n))))) .pl w := by
 refine nw fun w1 h1 z1 n1 => ?_
 refine st_blk n1 (by simp) rfl fun w2 h2 z2 n2 => st_blk n2 (by simp) rfl fun w3 h3 z3 n3 => st_blk n3 (by simp) rfl fun w4 h4 z4 n4 => ?_
 exact h _ _ (h1.then_ (h2.trans (h3.trans h4)) (fun k hk (e : k = w.heap.size) => by omega)) (Nat.le_refl _) n4
theorem topM_lv (σ : List OM) : (topM σ).lv = topLv σ := by cases σ <;> rfl
theorem brk_lv {o : OM} (h : 0 ≤ o.lv) : brk o = false := by
 unfold brk
 rw [decide_eq_false (by omega),Bool.false_and]
theorem ends_len (lev : Int) : ∀ (σ : List OM) (ω : List SM),(endsM lev σ ω).1.length + (endsM lev σ ω).2.length = σ.length + ω.length
 | [],ω => rfl
 | o :: σ,ω => by
  rw [endsM]
  split
  ·rfl
  ·rw [ends_len lev σ]
   simp
   omega
theorem back_len : ∀ (σ : List OM) (ω : List SM),(backM σ ω).1.length + (backM σ ω).2.length = σ.length + ω.length
 | [],ω => rfl
 | o :: σ,ω => by
  rw [backM]
  split
  ·rw [back_len σ]; simp; omega
  ·split
   ·rw [back_len σ]; simp; omega
   ·rfl
theorem ends_low : ∀ (σ : List OM) (ω : List SM),topLv (endsM 0 σ ω).1 < 0
 | [],ω => by show (-1 : Int) < 0; decide
 | o :: σ,ω => by
  rw [endsM]
  split
  ·rename_i h
   show o.lv < 0
   omega
  ·exact ends_low σ _
theorem ends_short (lev : Int) : ∀ (σ : List OM) (ω : List SM),(endsM lev σ ω).1.length ≤ σ.length
 | [],ω => Nat.le_refl _
 | o :: σ,ω => by
  rw [endsM]
  split
  ·exact Nat.le_refl _
  ·have := ends_short lev σ (ω ++ [⟨o.op,arity o.op,0,[]⟩])
   rw [List.length_cons]
   omega
theorem ends_any (w : World) (B : Nat → Prop) (base b : Nat) (s : ByteArray) (i : Nat) (σ : List OM) (ω : List SM) (d : Nat) (lev : Int) (h : Rd B base w b s i σ ω d) (hcap : σ.length + ω.length < 900) :
  Calls Tryz.prog 49 #[.pointer (some ⟨b,0,none⟩),.int .i64 lev] w fun e w' => e = .returned (.tuple #[]) ∧ ∃ B',Turn B B' w w' ∧ Rd B' base w' b s i (endsM lev σ ω).1 (endsM lev σ ω).2 d := by
 refine calls_of_fnT mixed Tryz.func49 (s := s49) ?_
 rw [t49]
 refine loop_i mixed m49_1 s49_1 (by kernel_rfl) (by kernel_rfl)
  (fun (_ : Unit) w' => ∃ B' σ' ω',Turn B B' w w' ∧ Rd B' base w' b s i σ' ω' d ∧ endsM lev σ' ω' = endsM lev σ ω ∧ σ'.length + ω'.length = σ.length + ω.length)
  (fun (_ : Unit) w' => openLen b w') () rfl ⟨B,σ,ω,Turn.refl,h,rfl,rfl⟩ ?_
 rintro ⟨⟩ g w1 ⟨B1,σ1,ω1,T1,R1,hE,hL⟩
 rw [t49_1]
 have hw1 := T1.ch.size
 refine cl_i (top_any w1 B1 base b s i σ1 ω1 d R1) ?_
 rintro e w2 ⟨h2,rfl⟩
 have R2 := R1.no h2
 have hw2 := h2.size
 refine ⟨(bytesL (topM σ1).op,(topM σ1).lv,((topM σ1).cnt : Int),()),rfl,op_new fun n w3 h3 hn n3 => ?_⟩
 have R3 := R2.no h3
 have hw3 := h3.size
 have T3 : Turn B B1 w w3 := T1.trans ((Turn.no h2).trans (Turn.no h3))
 refine cut_i mixed s49_4 (fun (v : Bool × Unit) w' => w' = w3 ∧ (v.1 = true ↔ (topLv σ1 < lev ∨ topLv σ1 < 0))) (by kernel_rfl) (fun g => ?_) ?_
 ·rw [t49_4]
  refine ld_int (n3.cell 1) (br_both (fun e => ⟨rfl,(true,()),rfl,rfl,?_⟩) fun e => ld_int (n3.cell 1) ⟨rfl,(_,()),rfl,rfl,?_⟩)
  ·have e := lt_t e
   rw [topM_lv] at e
   exact ⟨fun _ => .inl e,fun _ => rfl⟩
  ·have e := lt_f e
   rw [topM_lv] at e ⊢
   show (decide (topLv σ1 < 0) = true ↔ _)
   rw [decide_eq_true_eq]
   omega
 rintro ⟨u,⟨⟩⟩ g w4 ⟨rfl,hu⟩
 dsimp only at hu
 refine br_both (fun e => ?_) fun e => ?_
 ·have hst := hu.1 e
  refine ⟨(),rfl,fun g => ⟨rfl,B1,T3,?_⟩⟩
  rw [← hE,ends_stop hst]
  exact R3
 ·have hst : ¬ (topLv σ1 < lev ∨ topLv σ1 < 0) := fun h' => by
   have := hu.2 h'
   have e : u = false := e
   rw [e] at this; cases this
  obtain ⟨o,σ2,rfl⟩ : ∃ o σ2,σ1 = o :: σ2 := by
   cases σ1 with
   | nil => exact absurd (.inr (by decide)) hst
   | cons o σ2 => exact ⟨o,σ2,rfl⟩
  have hlv : lev ≤ o.lv ∧ 0 ≤ o.lv := by
   have : topLv (o :: σ2) = o.lv := rfl
   rw [this] at hst
   omega
  have hne : endsM lev (o :: σ2) ω1 = endsM lev σ2 (ω1 ++ [⟨o.op,arity o.op,0,[]⟩]) := ends_pop hlv.1 hlv.2
  rw [List.length_cons] at hL
  refine cut_i mixed s49_8 (fun (v : Bool × Unit) w' => w' = w4 ∧ (v.1 = true ↔ (o.op = nNeg ∨ o.op = tNot))) (by kernel_rfl) (fun g => ?_) ?_
  ·rw [t49_8]
   simp only [tb_list]
   refine ld_str (n3.cell 0) ?_
   simp only [tb_list]
   refine br_both (fun e => ⟨rfl,(true,()),rfl,rfl,by simp [show o.op = nNeg from beq_iff_eq.1 e]⟩) fun e => ?_
   have e : ¬ o.op = nNeg := beq_eq_false_iff_ne.1 e
   refine ld_str (n3.cell 0) ⟨rfl,(_,()),rfl,rfl,?_⟩
   simp only [tb_list,e,false_or]
   exact beq_iff_eq
  rintro ⟨u2,⟨⟩⟩ g w5 ⟨rfl,hu2⟩
  dsimp only at hu2
  have fin : ∀ w7 B7,Turn B B7 w w7 → Rd B7 base w7 b s i σ2 (ω1 ++ [⟨o.op,arity o.op,0,[]⟩]) d →
    ∃ v : MVars m49_1,([] : List (Tmp × Value)) = mvals m49_1 v ∧ (∃ B' σ' ω',Turn B B' w w7 ∧ Rd B' base w7 b s i σ' ω' d ∧ endsM lev σ' ω' = endsM lev σ ω ∧ σ'.length + ω'.length = σ.length + ω.length) ∧ openLen b w7 < openLen b w1 := fun w7 B7 T7 R7 =>
   ⟨(),rfl,⟨B7,σ2,_,T7,R7,by rw [← hne,hE],by rw [List.length_append,List.length_singleton]; omega⟩,by rw [R7.openLen,R1.openLen,List.length_cons]; omega⟩
  refine br_both (fun e => ?_) fun e => ?_
  ·have ha : arity o.op = 1 := by unfold arity; rw [if_pos (hu2.1 e)]
   refine ld_str (n3.cell 0) (cl_i (emit_any w5 B1 base b s i _ ω1 d o.op 1 R3 (by rw [List.length_cons]; omega)) ?_)
   rintro e w6 ⟨rfl,B6,T6,R6⟩
   refine ⟨(),rfl,cl_i (drop_any w6 B6 base b s i o σ2 _ d R6) ?_⟩
   rintro e w7 ⟨rfl,T7,hR7⟩
   refine ⟨(),rfl,?_⟩
   rw [← ha] at hR7
   exact fin w7 B6 (T3.trans (T6.trans T7)) hR7
  ·have ha : arity o.op = 2 := by
    unfold arity
    rw [if_neg (fun h' => by
     have := hu2.2 h'
     have e : u2 = false := e
     rw [e] at this; cases this)]
   refine ld_str (n3.cell 0) (cl_i (emit_any w5 B1 base b s i _ ω1 d o.op 2 R3 (by rw [List.length_cons]; omega)) ?_)
   rintro e w6 ⟨rfl,B6,T6,R6⟩
   refine ⟨(),rfl,cl_i (drop_any w6 B6 base b s i o σ2 _ d R6) ?_⟩
   rintro e w7 ⟨rfl,T7,hR7⟩
   refine ⟨(),rfl,?_⟩
   rw [← ha] at hR7
   exact fin w7 B6 (T3.trans (T6.trans T7)) hR7
theorem back_any (w : World) (B : Nat → Prop) (base b : Nat) (s : ByteArray) (i : Nat) (σ : List OM) (ω : List SM) (d : Nat) (h : Rd B base w b s i σ ω d) (hcap : σ.length + ω.length < 900) :
  Calls Tryz.prog 22 #[.pointer (some ⟨b,0,none⟩)] w fun e w' => e = .returned (topV (topM (backM σ ω).1)) ∧ ∃ B',Turn B B' w w' ∧ Rd B' base w' b s i (backM σ ω).1 (backM σ ω).2 d := by
 refine calls_of_fnT mixed Tryz.func22 (s := s22) ?_
 rw [t22]
 refine nw fun w0 h0 z0 n0 => ?_
 generalize hnn : w.heap.size = nn at *
 refine loop_i mixed m22_2 s22_2 (by kernel_rfl) (by kernel_rfl)
  (fun (_ : Unit) w' => ∃ B' σ' ω' vs,Turn B B' w w' ∧ ¬ B' nn ∧ Blk w' nn vs tOpen3 ∧ vs.length = 3 ∧ Rd B' base w' b s i σ' ω' d ∧ backM σ' ω' = backM σ ω ∧ σ'.length + ω'.length = σ.length + ω.length)
  (fun (_ : Unit) w' => openLen b w') () rfl ⟨B,σ,ω,_,Turn.no h0,fun hb => by have := (h.bnd nn hb).2; omega,n0,rfl,h.no h0,rfl,rfl⟩ ?_
 rintro ⟨⟩ g w1 ⟨B1,σ1,ω1,vs,T1,hnB1,n1,hvs,R1,hE,hL⟩
 rw [t22_2]
 refine cl_i (ends_any w1 B1 base b s i σ1 ω1 d 0 R1 (by omega)) ?_
 rintro e w2 ⟨rfl,B2,T2,R2⟩
 have hEl := ends_len 0 σ1 ω1
 have hEb := back_ends σ1 ω1
 have hlo := ends_low σ1 ω1
 have hLs := ends_short 0 σ1 ω1
 generalize endsM 0 σ1 ω1 = z at *
 obtain ⟨σ2,ω2⟩ := z
 dsimp only at hEl hEb hlo hLs R2
 refine ⟨(),rfl,cl_i (top_any w2 B2 base b s i σ2 ω2 d R2) ?_⟩
 rintro e w3 ⟨h3,rfl⟩
 have R3 := R2.no h3
 refine ⟨(bytesL (topM σ2).op,(topM σ2).lv,((topM σ2).cnt : Int),()),rfl,op_new fun n w4 h4 hn n4 => ?_⟩
 have R4 := R3.no h4
 have T4 : Turn B B2 w w4 := T1.trans (T2.trans ((Turn.no h3).trans (Turn.no h4)))
 have hnB2 : ¬ B2 nn := T2.away hnB1 n1.lt
 have nn4 : Blk w4 nn vs tOpen3 := ((n1.ch T2.ch hnB1).ch h3 (fun h => h)).ch h4 (fun h => h)
 have hlt4 := ((n1.ch T2.ch hnB1).ch h3 (fun h => h)).lt
 refine ld_str (n4.cell 0) ?_
 simp only [tb_list]
 refine br_both (fun e => ?_) fun e => ?_
 ·have e : ¬ (topM σ2).op = [101,108,115,101] := by simpa using e
  have e : ¬ (topM σ2).op = tElse := e
  have hres : backM σ1 ω1 = (σ2,ω2) := by
   rw [← hEb]
   cases σ2 with
   | nil => rfl
   | cons o σ3 =>
    have e : ¬ o.op = tElse := e
    have hl : o.lv < 0 := hlo
    rw [backM,if_neg (by omega),if_neg e]
  refine ld_str (n4.cell 0) (ld_int (n4.cell 1) (ld_int (n4.cell 2) ?_))
  refine st_blk nn4 (by omega) rfl fun w5 h5 z5 b5 => st_blk b5 (by rw [List.length_set]; omega) rfl fun w6 h6 z6 b6 => st_blk b6 (by rw [List.length_set,List.length_set]; omega) rfl fun w7 h7 z7 b7 => ?_
  have h57 : Ch (· = nn) w4 w7 := h5.trans (h6.trans h7)
  have b7' : Blk w7 nn (cellsO (topM σ2)) tOpen3 := by
   obtain ⟨x0,x1,x2,rfl⟩ : ∃ x0 x1 x2,vs = [x0,x1,x2] := by
    match vs,hvs with
    | [x0,x1,x2],_ => exact ⟨x0,x1,x2,rfl⟩
   exact b7
  rw [← hE,hres]
  refine ⟨(),rfl,fun g => ld_str (b7'.cell 0) (ld_int (b7'.cell 1) (ld_int (b7'.cell 2) ⟨rfl,B2,?_,?_⟩))⟩
  ·refine ⟨T4.ch.then_ h57 (fun k hk (e : k = nn) => by omega),T4.lies⟩
  ·exact R4.ch h57 (fun k hk e => hnB2 (by rw [← e]; exact hk))
 ·have e : (topM σ2).op = [101,108,115,101] := by simpa using e
  have e : (topM σ2).op = tElse := e
  obtain ⟨o,σ3,rfl⟩ : ∃ o σ3,σ2 = o :: σ3 := by
   cases σ2 with
   | nil => exact absurd e (by decide)
   | cons o σ3 => exact ⟨o,σ3,rfl⟩
  have e : o.op = tElse := e
  have hl : o.lv < 0 := hlo
  rw [List.length_cons] at hEl hLs
  refine cl_i (emit_any w4 B2 base b s i _ ω2 d tIf 3 R4 (by rw [List.length_cons]; omega)) ?_
  rintro e6 w6 ⟨rfl,B6,T6,R6⟩
  refine ⟨(),rfl,cl_i (drop_any w6 B6 base b s i o σ3 _ d R6) ?_⟩
  rintro e7 w7 ⟨rfl,T7,R7⟩
  have hnB6 : ¬ B6 nn := T6.away hnB2 nn4.lt
  refine ⟨(),rfl,(),rfl,⟨B6,σ3,_,vs,T4.trans (T6.trans T7),hnB6,(nn4.ch T6.ch hnB2).ch T7.ch hnB6,hvs,R7,?_,?_⟩,?_⟩
  ·rw [← hE,← hEb,backM,if_neg (by omega),if_pos e]
  ·rw [List.length_append,List.length_singleton]; omega
  ·rw [R7.openLen,R1.openLen]
   omega
theorem floor_any (w : World) (B : Nat → Prop) (base b : Nat) (s : ByteArray) (i : Nat) (σ : List OM) (ω : List SM) (d : Nat) (h : Rd B base w b s i σ ω d) (hok : OkO σ d) :
  Calls Tryz.prog 53 #[.pointer (some ⟨b,0,none⟩)] w fun e w' => Ch No w w' ∧ e = .returned (.int .i64 (floorM σ)) := by
 refine calls_of_fnT mixed Tryz.func53 (s := s53) ?_
 rw [t53]
 refine cl_i (top_any w B base b s i σ ω d h) ?_
 rintro e w1 ⟨h1,rfl⟩
 refine ⟨(bytesL (topM σ).op,(topM σ).lv,((topM σ).cnt : Int),()),rfl,op_new fun n w2 h2 hn n2 => ?_⟩
 have H := h1.trans h2
 have hfl : floorM σ = (if (topM σ).lv < 0 then 0 else if (topM σ).lv = 4 then 5 else if (topM σ).op = tNot then 3 else if (topM σ).op = nNeg then 7 else (topM σ).lv + 1) := by
  cases σ <;> rfl
 rw [hfl]
 refine ld_int (n2.cell 1) (br_both (fun e => ⟨H,by rw [if_pos (lt_t e)]⟩) fun e => ?_)
 have e := lt_f e
 rw [if_neg (by omega)]
 refine ld_int (n2.cell 1) (br_both (fun e => ⟨H,by rw [if_pos (eq_t e)]⟩) fun e1 => ?_)
 rw [if_neg (eq_f e1)]
 refine ld_str (n2.cell 0) ?_
 simp only [tb_list]
 refine br_both (fun e => ⟨H,by rw [if_pos (show (topM σ).op = tNot from beq_iff_eq.1 e)]⟩) fun e2 => ?_
 rw [if_neg (show ¬ (topM σ).op = tNot from beq_eq_false_iff_ne.1 e2)]
 refine ld_str (n2.cell 0) ?_
 simp only [tb_list]
 refine br_both (fun e => ⟨H,by rw [if_pos (show (topM σ).op = nNeg from beq_iff_eq.1 e)]⟩) fun e3 => ?_
 rw [if_neg (show ¬ (topM σ).op = nNeg from beq_eq_false_iff_ne.1 e3)]
 refine ld_int (n2.cell 1) ⟨H,?_⟩
 have hb : -1 ≤ (topM σ).lv ∧ (topM σ).lv ≤ 7 := by
  cases σ with
  | nil => exact ⟨by decide,by decide⟩
  | cons o σ => have := hok.each o (.head _); exact ⟨this.2.1,this.2.2.1⟩
 rw [wrap_in (by omega) (by omega)]
theorem bracket_any (w : World) (B : Nat → Prop) (base b : Nat) (s : ByteArray) (i : Nat) (σ : List OM) (ω : List SM) (d : Nat) (op : Txt) (h : Rd B base w b s i σ ω d) (hd : d ≤ 10) (hcap : σ.length + ω.length < 900) :
  Calls Tryz.prog 55 #[.pointer (some ⟨b,0,none⟩),.string (bytesL op)] w fun e w' => ∃ B',Turn B B' w w' ∧ if 10 < d + 1 then e = .returned (.int .i64 35) ∧ Rd B' base w' b s i σ ω d else e = .returned (.int .i64 0) ∧ Rd B' base w' b s i (⟨op,-1,0⟩ :: σ) ω (d + 1) := by
 refine calls_of_fnT mixed Tryz.func55 (s := s55) ?_
 rw [t55]
 simp only [addr_add,Nat.zero_add]
 obtain ⟨pS,nS,cS,pO,nO,cO,hS,hO,hb,rS,rO⟩ := h.mem
 refine ld_int (Blk.cell hb 4) (br_both (fun e => ?_) fun e => ?_)
 ·have e := eq_t e
  refine ⟨B,Turn.refl,?_⟩
  rw [if_pos (by omega)]
  exact ⟨rfl,h⟩
 ·have e := eq_f e
  refine ld_int (Blk.cell hb 4) ?_
  rw [wrap_succ (by omega) (by omega)]
  refine st_blk hb (by simp) rfl fun w1 h1 z1 b1 => ?_
  have b1' : RB w1 b s i (.slice pS nS cS) (.slice pO nO cO) (d + 1) := b1
  have R1 : Rd B base w1 b s i σ ω (d + 1) := ⟨h.own,fun k hk => by rw [z1]; exact h.bnd k hk,pS,nS,cS,pO,nO,cO,hS,hO,b1',rS.ch h1 (fun k hk e => rS.ne hb (by decide) (by rw [← e]; exact hk)),rO.ch h1 (fun k hk e => rO.ne hb (by decide) (by rw [← e]; exact hk))⟩
  refine cl_i (push_any w1 B base b s i ⟨op,-1,0⟩ σ ω (d + 1) R1 rfl (by omega)) ?_
  rintro e w2 ⟨rfl,B2,T2,R2⟩
  refine ⟨(),rfl,B2,(Turn.of (h1.mono fun k (e : k = b) => by rw [e]; exact h.own)).trans T2,?_⟩
  rw [if_neg (by omega)]
  exact ⟨rfl,R2⟩
end Go.Proofs.YtmdmomccibpjbaaGreatDoor.E
