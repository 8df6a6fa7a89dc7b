/- The parser's pieces: giving up, numbers, the calls' table, words. The calls' table, words, texts in quotes. Words. Faults of a value have a number. -/
import Derived.Test.YtmdmomccibpjbaaGreatDoorRdp
import Derived.Test.YtmdmomccibpjbaaGreatDoorRdz
namespace Go.Proofs.YtmdmomccibpjbaaGreatDoor.E
open Go Tr
open V (rest rest_cases restL sizeB pk_rest cx_i cp_i)
set_option maxRecDepth 100000
set_option maxHeartbeats 1000000
abbrev tPars : TypeId := 56
abbrev tTok : TypeId := 54
abbrev tBlt : TypeId := 118
/-! the tree of function 18 -/
def s18 : Script := .nil
theorem t18 (qx0 : Int) (qx1 : Int) : fnT Tryz.prog Tryz.f18 #[.int .i64 qx0,.int .i64 qx1] s18 = .new (.cells #[.int .i64 0,.int .i64 qx1,.iface 51 (.int .i64 qx0)] 74 (0,0)) (fun n1 => .done (.panicked [⟨.iface 49 (.pointer (some ⟨n1,0,none⟩)),false,false⟩])) := by kernel_rfl
/-! the tree of function 71 -/
abbrev fx71_1 (qa0 : Addr) (qa1 : Addr) : List (Tmp × Value) := [(0,.pointer (some qa0)),(1,.pointer (some qa1))]
abbrev m71_1 : List (Tmp × Comp) := []
abbrev mx71_1 : List (Tmp × Comp) := []
abbrev mr71_1 : List (Tmp × Comp) := []
abbrev fx71_2 (qa0 : Addr) (qa1 : Addr) : List (Tmp × Value) := [(0,.pointer (some qa0)),(1,.pointer (some qa1))]
abbrev mx71_2 : List (Tmp × Comp) := [(41,.leaf .bool)]
def s71_2 : Script := .qt (.ld (.int .i64) (.ld .str (.sym (.lit (.lit (.lit (.ld .str (.lit (.lit (.lit (.lit (.ld (.int .i64) (.lit (.ix (.lit (.lit (.sym (.lit (.lit (.lit (.ld .str (.lit (.lit (.lit (.lit (.ld (.int .i64) (.lit (.ix (.lit (.lit .nil))))))))))))) (.lit (.lit (.lit (.lit (.lit (.lit (.lit (.lit (.lit (.lit .nil)))))))))))))))))))))))) (.lit (.lit (.lit (.lit (.lit (.lit (.lit (.lit (.lit (.lit (.lit (.lit (.lit (.lit (.lit (.lit (.lit (.lit (.lit (.lit (.lit .nil))))))))))))))))))))))))
theorem t71_2 (qa0 : Addr) (qa1 : Addr) (gg2 : Nat → Value) : pieceT Tryz.prog (at_ Tryz.f71 [1,0,0,0,0]) 83 (fx71_2 qa0 qa1) gg2 (mx71_2.map (·.1)) [] [] s71_2 = .drawn (.load (qa0.add 1) (.int .i64) (fun x3 => .load qa0 .str (fun s4 => .br (Decidable.decide (x3 < (↑s4.size : Int))) (.load qa0 .str (fun s5 => .load (qa0.add 1) (.int .i64) (fun x6 => .bidx s5 x6 (fun c7 => .br (Decidable.decide (c7 ≥ 48)) (.load qa0 .str (fun s8 => .load (qa0.add 1) (.int .i64) (fun x9 => .bidx s8 x9 (fun c10 => .undrawn (.fin .normal [(41,.bool (Decidable.decide (c10 ≤ 57)))]))))) (.undrawn (.fin .normal [(41,.bool false)])))))) (.undrawn (.fin .normal [(41,.bool false)]))))) := by kernel_rfl
abbrev fx71_15 (qa0 : Addr) (qa1 : Addr) (c14 : Int) : List (Tmp × Value) := [(0,.pointer (some qa0)),(1,.pointer (some qa1)),(4,.int .i64 (IntKind.i64.wrap (IntKind.u8.wrap (c14 - 48))))]
abbrev mx71_15 : List (Tmp × Comp) := []
def s71_15 : Script := .ld (.int .i64) (.sym (.ld (.int .i64) (.clx .nil)) .nil)
theorem t71_15 (qa0 : Addr) (qa1 : Addr) (c14 : Int) (gg15 : Nat → Value) : pieceT Tryz.prog (at_ Tryz.f71 [1,0,0,1,0,1,0]) 83 (fx71_15 qa0 qa1 c14) gg15 (mx71_15.map (·.1)) [] [] s71_15 = .load (qa1.add 3) (.int .i64) (fun x16 => .br (Decidable.decide (x16 > IntKind.i64.wrap ((IntKind.i64.wrap (9223372036854775807 - IntKind.i64.wrap (IntKind.u8.wrap (c14 - 48)))).tdiv 10))) (.load (qa1.add 1) (.int .i64) (fun x17 => .callx 18 #[.int .i64 32,.int .i64 x17] (fun ch18 => .done (.panicked ch18)))) (.fin .normal [])) := by kernel_rfl
def s71_1 : Script := .ct 1 [0,1] mx71_2 (.sym (.qt (.ld .str (.ld (.int .i64) (.ix (.ct 0 [0,1,4] mx71_15 (.ld (.int .i64) (.ld (.int .i64) .nil))))))) .nil)
theorem t71_1 (qa0 : Addr) (qa1 : Addr) (gg1 : Nat → Value) : pieceT Tryz.prog (at_ Tryz.f71 [1,0,0]) 83 (fx71_1 qa0 qa1 ++ mvals m71_1 (())) gg1 (m71_1.map (·.1)) (mx71_1.map (·.1)) (mr71_1.map (·.1)) s71_1 = .cut (at_ Tryz.f71 [1,0,0,0,0]) 83 (fx71_2 qa0 qa1) mx71_2 (fun u11 g11 => .br u11.1 (.drawn (.load qa0 .str (fun s12 => .load (qa0.add 1) (.int .i64) (fun x13 => .bidx s12 x13 (fun c14 => .undrawn (.cut (at_ Tryz.f71 [1,0,0,1,0,1,0]) 83 (fx71_15 qa0 qa1 c14) mx71_15 (fun u19 g19 => .load (qa1.add 3) (.int .i64) (fun x20 => .store (qa1.add 3) (.int .i64 (IntKind.i64.wrap (IntKind.i64.wrap (10 * x20) + IntKind.i64.wrap (IntKind.u8.wrap (c14 - 48))))) (.load (qa0.add 1) (.int .i64) (fun x21 => .store (qa0.add 1) (.int .i64 (IntKind.i64.wrap (x21 + 1))) (.fin .normal []))))))))))) (.fin (.exit 0) [])) := by kernel_rfl
def s71 : Script := .lp 0 [0,1] [] mx71_1 mr71_1 .nil .nil
theorem t71 (qa0 : Addr) (qa1 : Addr) : fnT Tryz.prog Tryz.f71 #[.pointer (some qa0),.pointer (some qa1)] s71 = .store qa1 (.int .i64 1) (.loop (at_ Tryz.f71 [1,0,0]) 83 (fx71_1 qa0 qa1) [] mx71_1 mr71_1 0 (fun u22 g22 => .done (.returned (.tuple #[]))) (fun u23 g23 => .stuck)) := by kernel_rfl
/-- A fault was thrown; it lies in new memory. -/
def Thrown (w w' : World) (e : Ending) (c a : Int) : Prop :=
 ∃ fb,w.heap.size ≤ fb ∧ e = .panicked [⟨.iface tFaultP (.pointer (some ⟨fb,0,none⟩)),false,false⟩] ∧ Blk w' fb [.int .i64 0,.int .i64 a,.iface tErrno (.int .i64 c)] tFault
theorem Thrown.from {w0 w w' : World} {e : Ending} {c a : Int} (h : Thrown w w' e c a) (hs : w0.heap.size ≤ w.heap.size) : Thrown w0 w' e c a := by
 obtain ⟨fb,h1,h2,h3⟩ := h
 exact ⟨fb,Nat.le_trans hs h1,h2,h3⟩
theorem giveUp_any (c a : Int) (w : World) : Calls Tryz.prog 18 #[.int .i64 c,.int .i64 a] w fun e w' => Ch No w w' ∧ Thrown w w' e c a := by
 refine calls_of_fnT mixed Tryz.func18 (s := s18) ?_
 rw [t18]
 exact nw fun w1 h1 z1 b1 => ⟨h1,_,Nat.le_refl _,rfl,b1⟩
/-- The cells behind a parser's text and place. -/
structure PQ where
 k : Int
 a : Int
 t : ByteArray
 n : Int
 hv : Bool
 op : Int
def PB (w : World) (b : Nat) (s : ByteArray) (i : Nat) (q : PQ) : Prop := Blk w b [.string s,.int .i64 (i : Nat),.int .i64 q.k,.int .i64 q.a,.string q.t,.int .i64 q.n,.bool q.hv,.int .i64 q.op] tPars
theorem PB.ch {S : Nat → Prop} {w w' : World} {b : Nat} {s : ByteArray} {i : Nat} {q : PQ} (h : PB w b s i q) (hc : Ch S w w') (hn : ¬ S b) : PB w' b s i q := Blk.ch h hc hn
theorem PB.c0 {w : World} {b : Nat} {s : ByteArray} {i : Nat} {q : PQ} (h : PB w b s i q) : w.cell? ⟨b,0,none⟩ = some (.string s) := Blk.cell h 0
theorem PB.c1 {w : World} {b : Nat} {s : ByteArray} {i : Nat} {q : PQ} (h : PB w b s i q) : w.cell? ⟨b,1,none⟩ = some (.int .i64 (i : Nat)) := Blk.cell h 1
def TB (w : World) (n : Nat) (k a : Int) (t : Txt) (x : Int) : Prop := Blk w n [.int .i64 k,.int .i64 a,.string (bytesL t),.int .i64 x] tTok
/-- The measure of a loop that goes through the parser's text. -/
def left_ (b : Nat) (s : ByteArray) (w : World) : Nat := match w.cell? ⟨b,1,none⟩ with
 | some (.int _ x) => s.size - x.toNat
 | _ => 0
theorem left_at {w : World} {b : Nat} {s : ByteArray} {i : Nat} {q : PQ} (h : PB w b s i q) : left_ b s w = s.size - i := by
 unfold left_
 rw [h.c1]
 rfl
section
variable {R : Ending → World → Prop} {Q : Exit → List (Tmp × Value) → World → Prop} {w : World}
/-- The place is one farther. -/
theorem st_next {b : Nat} {s : ByteArray} {i : Nat} {q : PQ} (hb : PB w b s i q) (hi : i < 1000) {k : T} (h : ∀ w1,Ch (· = b) w w1 → PB w1 b s (i + 1) q → wpT Tryz.prog R Q k .pl w1) :
  wpT Tryz.prog R Q (.store ⟨b,1,none⟩ (.int .i64 (IntKind.i64.wrap ((i : Int) + 1))) k) .pl w := by
 have hw : IntKind.i64.wrap ((i : Int) + 1) = ((i + 1 : Nat) : Int) := by rw [IntKind.wrap_i64]; omega
 rw [hw]
 exact st_blk hb (by simp) rfl fun w1 h1 z1 b1 => h w1 h1 b1
def hdP (lo hi : Int) : Txt → Bool
 | [] => false
 | c :: _ => decide (lo ≤ (c.toNat : Int)) && decide ((c.toNat : Int) ≤ hi)
theorem hdP_cons (lo up : Int) (c : UInt8) (r : Txt) : hdP lo up (c :: r) = (decide (lo ≤ (c.toNat : Int)) && decide ((c.toNat : Int) ≤ up)) := rfl
theorem dg_i {b : Nat} {s : ByteArray} {i : Nat} {q : PQ} (hb : PB w b s i q) (hi : i ≤ s.size) (lo up : Int) {K : Bool → T} (h : wpT Tryz.prog R Q (K (hdP lo up (rest s i))) .pl w.drew) :
  wpT Tryz.prog R Q (.drawn (.load ⟨b,1,none⟩ (.int .i64) (fun x3 => .load ⟨b,0,none⟩ .str (fun s4 => .br (Decidable.decide (x3 < (↑s4.size : Int)))
   (.load ⟨b,0,none⟩ .str (fun s5 => .load ⟨b,1,none⟩ (.int .i64) (fun x6 => .bidx s5 x6 (fun c7 => .br (Decidable.decide (c7 ≥ lo))
    (.load ⟨b,0,none⟩ .str (fun s8 => .load ⟨b,1,none⟩ (.int .i64) (fun x9 => .bidx s8 x9 (fun c10 => .undrawn (K (Decidable.decide (c10 ≤ up)))))))
    (.undrawn (K false))))))
   (.undrawn (K false)))))) .pl w := by
 have b1 : PB w.drew b s i q := hb.ch (Ch.refl No w).drew (fun h => h)
 refine dr_eq (lq_int b1.c1 (lq_str b1.c0 (br_both (fun e => ?_) fun e => ?_)))
 ·have e := lt_t e
  have hlt : i < s.size := by omega
  have hr := pk_rest hlt
  refine lq_str b1.c0 (lq_int b1.c1 (bi_i (by omega) hlt (br_both (fun e => ?_) fun e => ?_)))
  ·have e := ge_t e
   refine lq_str b1.c0 (lq_int b1.c1 (bi_i (by omega) hlt (un_eq ?_)))
   have hv : hdP lo up (rest s i) = decide ((((s[i]'hlt).toNat : Nat) : Int) ≤ up) := by
    rw [hr,hdP_cons,decide_eq_true (show lo ≤ (((s[i]'hlt).toNat : Nat) : Int) from e),Bool.true_and]
   rw [hv] at h
   exact h
  ·have e := ge_f e
   have hv : hdP lo up (rest s i) = false := by
    rw [hr,hdP_cons,decide_eq_false (show ¬ lo ≤ (((s[i]'hlt).toNat : Nat) : Int) from by have e' : (((s[i]'hlt).toNat : Nat) : Int) < lo := e; omega),Bool.false_and]
   rw [hv] at h
   exact un_eq h
 ·have e := lt_f e
  rcases rest_cases s i hi with ⟨hr,_⟩ | ⟨hlt,_⟩
  ·rw [hr] at h
   exact un_eq h
  ·omega
end
theorem hdP_dig (c : UInt8) (r : Txt) : hdP 48 57 (c :: r) = isD c := by
 rw [hdP_cons,isD,decide_eq_decide.2 (show (48 : Int) ≤ (c.toNat : Int) ↔ 48 ≤ c.toNat by omega),decide_eq_decide.2 (show (c.toNat : Int) ≤ 57 ↔ c.toNat ≤ 57 by omega)]
theorem hdP_low (c : UInt8) (r : Txt) : hdP 97 122 (c :: r) = isL c := by
 rw [hdP_cons,isL,decide_eq_decide.2 (show (97 : Int) ≤ (c.toNat : Int) ↔ 97 ≤ c.toNat by omega),decide_eq_decide.2 (show (c.toNat : Int) ≤ 122 ↔ c.toNat ≤ 122 by omega)]
theorem numB_dig {c : UInt8} (h : isD c = true) (x : Nat) (r : Txt) : numB x (c :: r) = if (9223372036854775807 - (c.toNat - 48)) / 10 < x then none else numB (10 * x + (c.toNat - 48)) r := by
 rw [numB,if_pos h]
theorem numB_end {c : UInt8} (h : isD c = false) (x : Nat) (r : Txt) : numB x (c :: r) = some (x,c :: r) := by
 rw [numB,if_neg (by rw [h]; exact Bool.false_ne_true)]
theorem isD_iff {c : UInt8} : isD c = true ↔ 48 ≤ c.toNat ∧ c.toNat ≤ 57 := by
 rw [isD,Bool.and_eq_true,decide_eq_true_eq,decide_eq_true_eq]
theorem num_le {x d : Nat} (h : ¬ (9223372036854775807 - d) / 10 < x) (hd : d ≤ 9) : 10 * x + d ≤ 9223372036854775807 := by omega
theorem num_step {x d : Nat} (h : ¬ (9223372036854775807 - d) / 10 < x) (hd : d ≤ 9) : IntKind.i64.wrap (IntKind.i64.wrap (10 * ((x : Nat) : Int)) + ((d : Nat) : Int)) = ((10 * x + d : Nat) : Int) := by
 have h1 := num_le h hd
 have h2 : 10 * (x : Int) + (d : Int) ≤ 9223372036854775807 := by omega
 rw [wrap_in (x := 10 * (x : Int)) (by omega) (by omega),wrap_in (by omega) (by omega)]
 omega
theorem number_any (w : World) (b n : Nat) (s : ByteArray) (i : Nat) (q : PQ) (at_ : Int) (hb : PB w b s i q) (hn : TB w n 0 at_ [] 0) (hne : b ≠ n) (hi : i ≤ s.size) (hs : s.size ≤ 100) :
  Calls Tryz.prog 71 #[.pointer (some ⟨b,0,none⟩),.pointer (some ⟨n,0,none⟩)] w fun e w' => Ch (fun k => k = b ∨ k = n) w w' ∧ match numB 0 (rest s i) with
   | none => Thrown w w' e 32 at_
   | some (x,r) => e = .returned (.tuple #[]) ∧ ∃ j,i ≤ j ∧ j ≤ s.size ∧ r = rest s j ∧ PB w' b s j q ∧ TB w' n 1 at_ [] (x : Nat) := by
 refine calls_of_fnT mixed Tryz.func71 (s := s71) ?_
 rw [t71]
 refine st_blk hn (by simp) rfl fun w1 h1 z1 n1 => ?_
 have b1 := hb.ch h1 (fun e => hne e)
 refine loop_i mixed m71_1 s71_1 (by kernel_rfl) (by kernel_rfl)
  (fun (_ : Unit) w' => ∃ j x : Nat,i ≤ j ∧ j ≤ s.size ∧ x ≤ 9223372036854775807 ∧ PB w' b s j q ∧ TB w' n 1 at_ [] (x : Nat) ∧ Ch (fun k => k = b ∨ k = n) w w' ∧ numB 0 (rest s i) = numB x (rest s j))
  (fun (_ : Unit) w' => left_ b s w') () rfl ⟨i,0,Nat.le_refl _,hi,by omega,b1,n1,h1.mono fun k h => .inr h,rfl⟩ ?_
 rintro ⟨⟩ g w2 ⟨j,x,hij,hj,hx,b2,n2,h2,hm⟩
 rw [t71_1]
 simp only [addr_add,Nat.zero_add]
 refine cut_i mixed s71_2 (fun (v : Bool × Unit) w' => w' = w2.drew ∧ v.1 = hdP 48 57 (rest s j)) (by kernel_rfl) (fun g => ?_) ?_
 ·rw [t71_2]
  simp only [addr_add,Nat.zero_add]
  exact dg_i b2 hj 48 57 (K := fun v => .fin .normal [(_,.bool v)]) ⟨rfl,(_,()),rfl,rfl,rfl⟩
 rintro ⟨u,⟨⟩⟩ g w3 ⟨rfl,hu⟩
 dsimp only at hu
 subst hu
 have hd := (Ch.refl No w2).drew
 have b3 := b2.ch hd (fun h => h)
 have n3 : TB w2.drew n 1 at_ [] (x : Nat) := Blk.ch n2 hd (fun h => h)
 have h3 := h2.trans hd.no
 have l3 : left_ b s w2 = s.size - j := left_at b2
 generalize w2.drew = w3 at *
 refine br_both (fun e => ?_) fun e => ?_
 ·rcases rest_cases s j hj with ⟨hr,_⟩ | ⟨hlt,hr⟩
  ·rw [hr] at e; cases e
  obtain ⟨c,hc⟩ : ∃ c,c = s[j]'hlt := ⟨_,rfl⟩
  rw [hr,← hc,hdP_dig] at e
  rw [hr,← hc] at hm
  have e0 := isD_iff.1 e
  have hnum := numB_dig e x (rest s (j + 1))
  have hd3 := (Ch.refl No w3).drew
  have b4 := b3.ch hd3 (fun h => h)
  have n4 : TB w3.drew n 1 at_ [] (x : Nat) := Blk.ch n3 hd3 (fun h => h)
  have h4 := h3.trans hd3.no
  refine dr_eq (lq_str b4.c0 (lq_int b4.c1 (bi_i (by omega) hlt (un_eq ?_))))
  generalize w3.drew = w4 at *
  rw [show s[((j : Nat) : Int).toNat]'hlt = c from hc.symm]
  clear hc hr
  have hD : IntKind.i64.wrap (IntKind.u8.wrap ((c.toNat : Int) - 48)) = ((c.toNat - 48 : Nat) : Int) := by
   rw [show IntKind.u8.wrap ((c.toNat : Int) - 48) = ((c.toNat - 48 : Nat) : Int) by rw [IntKind.wrap_u8']; omega,IntKind.wrap_i64]
   omega
  have hT : IntKind.i64.wrap ((IntKind.i64.wrap (9223372036854775807 - ((c.toNat - 48 : Nat) : Int))).tdiv 10) = (((9223372036854775807 - (c.toNat - 48)) / 10 : Nat) : Int) := by
   rw [IntKind.wrap_i64,IntKind.wrap_i64,Int.tdiv_eq_ediv_of_nonneg (by omega)]
   omega
  refine cut_i mixed s71_15 (fun (_ : Unit) w' => w' = w4 ∧ ¬ (9223372036854775807 - (c.toNat - 48)) / 10 < x) (by kernel_rfl) (fun g => ?_) ?_
  ·rw [t71_15]
   simp only [addr_add,Nat.zero_add]
   rw [hD,hT]
   refine ld_int (Blk.cell n4 3) (br_both (fun e => ?_) fun e => ?_)
   ·have e := gt_t e
    refine ld_int (Blk.cell n4 1) (cx_i (giveUp_any _ _ w4) ?_)
    rintro r w5 ⟨h5,ht⟩
    obtain ⟨fb,f1,rfl,f3⟩ := ht
    refine ⟨_,rfl,h4.trans h5.no,?_⟩
    rw [hm,hnum,if_pos (by omega)]
    exact ⟨fb,Nat.le_trans h4.size f1,rfl,f3⟩
   ·have e := gt_f e
    exact ⟨rfl,(),rfl,rfl,by omega⟩
  rintro ⟨⟩ g w5 ⟨rfl,hle⟩
  rw [hnum,if_neg hle] at hm
  rw [hD]
  have hw : IntKind.i64.wrap (IntKind.i64.wrap (10 * ((x : Nat) : Int)) + ((c.toNat - 48 : Nat) : Int)) = ((10 * x + (c.toNat - 48) : Nat) : Int) := num_step hle (by omega)
  refine ld_int (Blk.cell n4 3) ?_
  rw [hw]
  refine st_blk n4 (by simp) rfl fun w6 h6 z6 n6 => ?_
  have b6 := b4.ch h6 (fun e => hne e)
  refine ld_int b6.c1 (st_next b6 (by omega) fun w7 h7 b7 => ?_)
  refine ⟨(),rfl,⟨j + 1,10 * x + (c.toNat - 48),by omega,by omega,num_le hle (by omega),b7,Blk.ch n6 h7 (fun e => hne e.symm),h4.trans ((h6.mono fun k h => .inr h).trans (h7.mono fun k h => .inl h)),hm⟩,?_⟩
  show left_ b s w7 < left_ b s w2
  rw [left_at b7,l3]
  omega
 ·refine ⟨rfl,(),rfl,fun g => ⟨h3,?_⟩⟩
  rw [hm]
  rcases rest_cases s j hj with ⟨hr,hje⟩ | ⟨hlt,hr⟩
  ·rw [hr]
   exact ⟨rfl,j,hij,hj,hr.symm,b3,n3⟩
  ·rw [hr,hdP_dig] at e
   rw [hr,numB_end e]
   exact ⟨rfl,j,hij,hj,hr.symm,b3,n3⟩
end Go.Proofs.YtmdmomccibpjbaaGreatDoor.E
namespace Go.Proofs.YtmdmomccibpjbaaGreatDoor.E
open Go Tr
open V (rest rest_cases restL sizeB pk_rest cx_i cp_i extract_list)
set_option maxRecDepth 100000
set_option maxHeartbeats 1000000
/-! the tree of function 97 -/
def s97 : Script := .nil
theorem t97 : fnT Tryz.prog Tryz.f97 #[] s97 = .new (.cells #[.string (bytesL [108,101,110]),.int .i64 1,.func (.func 108) #[] #[],.string (bytesL [107,105,110,100]),.int .i64 1,.func (.func 109) #[] #[],.string (bytesL [105,110,116]),.int .i64 1,.func (.func 110) #[] #[],.string (bytesL [116,101,120,116]),.int .i64 1,.func (.func 111) #[] #[],.string (bytesL [115,117,109]),.int .i64 1,.func (.func 112) #[] #[],.string (bytesL [115,111,114,116]),.int .i64 1,.func (.func 113) #[] #[],.string (bytesL [114,101,118]),.int .i64 1,.func (.func 114) #[] #[],.string (bytesL [97,116]),.int .i64 2,.func (.func 115) #[] #[],.string (bytesL [116,97,107,101]),.int .i64 2,.func (.func 116) #[] #[],.string (bytesL [100,114,111,112]),.int .i64 2,.func (.func 117) #[] #[],.string (bytesL [109,105,110]),.int .i64 2,.func (.func 118) #[] #[],.string (bytesL [109,97,120]),.int .i64 2,.func (.func 119) #[] #[],.string (bytesL [104,97,115]),.int .i64 2,.func (.func 120) #[] #[],.string (bytesL [112,117,116]),.int .i64 3,.func (.func 121) #[] #[]] 118 (0,0)) (fun n1 => .done (.returned (.slice (some ⟨n1,0,none⟩) 14 14))) := by kernel_rfl
/-! the tree of function 84 -/
abbrev fx84_3 (qs0 : ByteArray) (n1 : Nat) (l2 : Option Addr × Nat × Nat) : List (Tmp × Value) := [(0,.string qs0),(2,.pointer (some ⟨n1,0,none⟩)),(6,.slice l2.1 l2.2.1 l2.2.2),(7,.int .i64 (↑l2.snd.fst : Int))]
abbrev m84_3 : List (Tmp × Comp) := [(8,.leaf (.int .i64))]
abbrev mx84_3 : List (Tmp × Comp) := []
abbrev mr84_3 : List (Tmp × Comp) := [(3,.leaf .bool)]
def s84_3 : Script := .sym (.ix (.ld .str (.ld (.int .i64) (.ld .any (.ld .str (.sym (.ld .str (.ld (.int .i64) (.ld .any .nil))) .nil)))))) .nil
theorem t84_3 (qs0 : ByteArray) (n1 : Nat) (l2 : Option Addr × Nat × Nat) (x_8 : Int) (gg3 : Nat → Value) : pieceT Tryz.prog (at_ Tryz.f84 [1,0,1,0,0]) 19 (fx84_3 qs0 n1 l2 ++ mvals m84_3 (x_8,())) gg3 (m84_3.map (·.1)) (mx84_3.map (·.1)) (mr84_3.map (·.1)) s84_3 = .br (Decidable.decide (x_8 < (↑l2.snd.fst : Int))) (.idx l2.1 x_8 l2.2.1 3 (fun a4 => .load a4 .str (fun s5 => .load (a4.add 1) (.int .i64) (fun x6 => .load (a4.add 2) .any (fun v7 => .new (.cells #[.string (bytesL []),.int .i64 0,.nilFunc] 118 (0,0)) (fun n8 => .store ⟨n8,0,none⟩ (.string s5) (.store ⟨n8,1,none⟩ (.int .i64 x6) (.store ⟨n8,2,none⟩ v7 (.load ⟨n8,0,none⟩ .str (fun s9 => .br (s9.toList == qs0.toList) (.load ⟨n8,0,none⟩ .str (fun s10 => .load ⟨n8,1,none⟩ (.int .i64) (fun x11 => .load ⟨n8,2,none⟩ .any (fun v12 => .store ⟨n1,0,none⟩ (.string s10) (.store ⟨n1,1,none⟩ (.int .i64 x11) (.store ⟨n1,2,none⟩ v12 (.fin .ret [(3,.bool true)]))))))) (.fin .normal [(8,.int .i64 (IntKind.i64.wrap (x_8 + 1)))]))))))))))) (.fin (.exit 0) []) := by kernel_rfl
def s84 : Script := .cl (.one (.leaf .sl)) (.lp 0 [0,2,6,7] [8] mx84_3 mr84_3 (.ld .str (.ld (.int .i64) (.ld .any .nil))) (.ld .str (.ld (.int .i64) (.ld .any .nil))))
theorem t84 (qs0 : ByteArray) : fnT Tryz.prog Tryz.f84 #[.string qs0] s84 = .new (.cells #[.string (bytesL []),.int .i64 0,.nilFunc] 118 (0,0)) (fun n1 => .call 97 #[] (.one (.leaf .sl)) (fun l2 => .loop (at_ Tryz.f84 [1,0,1,0,0]) 19 (fx84_3 qs0 n1 l2) [(8,.int .i64 0)] mx84_3 mr84_3 0 (fun u13 g13 => .store ⟨n1,0,none⟩ (.string (bytesL [])) (.store ⟨n1,1,none⟩ (.int .i64 0) (.store ⟨n1,2,none⟩ .nilFunc (.load ⟨n1,0,none⟩ .str (fun s14 => .load ⟨n1,1,none⟩ (.int .i64) (fun x15 => .load ⟨n1,2,none⟩ .any (fun v16 => .done (.returned (.tuple #[.agg #[.string s14,.int .i64 x15,v16],.bool false]))))))))) (fun u17 g17 => .load ⟨n1,0,none⟩ .str (fun s18 => .load ⟨n1,1,none⟩ (.int .i64) (fun x19 => .load ⟨n1,2,none⟩ .any (fun v20 => .done (.returned (.tuple #[.agg #[.string s18,.int .i64 x19,v20],.bool u17.1])))))))) := by kernel_rfl
theorem ba_eq {a b : ByteArray} (h : a.data.toList = b.data.toList) : a = b := by
 cases a with
 | mk a => cases b with
  | mk b => exact congrArg _ (Array.ext' h)
/-- What the package-level tables hold. -/
structure GlE (w : World) : Prop where
 words : ∀ (j : Nat) (t : Txt),wordsM[j]? = some t → w.cell? ⟨1,j,none⟩ = some (.string (bytesL t))
 signs : ∀ (j : Nat) (t : Txt),signsM[j]? = some t → w.cell? ⟨0,j,none⟩ = some (.string (bytesL t))
 tabs : Tabs w
 ev : V.Ev w
 big : 10 ≤ w.heap.size
theorem GlE.ch {w w' : World} {B : Nat} (h : GlE w) (hc : Ch (B ≤ ·) w w') (hB : 10 ≤ B) : GlE w' where
 words j t ht := hc.cellv (h.words j t ht) (fun (h : B ≤ 1) => by omega)
 signs j t ht := hc.cellv (h.signs j t ht) (fun (h : B ≤ 0) => by omega)
 tabs := h.tabs.ch hc hB
 ev := h.ev.ch hc (fun (h : B ≤ 9) => by omega)
 big := Nat.le_trans h.big hc.size
theorem GlE.no {w w' : World} (h : GlE w) (hc : Ch No w w') : GlE w' := h.ch (B := w.heap.size + 10) (hc.mono fun _ h => h.elim) (by omega)
/-! ### The calls -/
/-- What each call runs. -/
def doF : List FuncId := [108,109,110,111,112,113,114,115,116,117,118,119,120,121]
def doV (i : Nat) : Value := .func (.func ((doF[i]?).getD 0)) #[] #[]
def bltL (i : Nat) : List Value := [.string (bytesL (nameB i)),.int .i64 (takesB i : Nat),doV i]
def bltCells : List Value := (List.range 14).flatMap bltL
theorem bltCells_at {i r : Nat} (hi : i < 14) (hr : r < 3) : bltCells[i * 3 + r]? = (bltL i)[r]? := by
 have : ∀ i,i < 14 → ∀ r,r < 3 → bltCells[i * 3 + r]? = (bltL i)[r]? := by
  intro i hi r hr
  rcases (by omega : i = 0 ∨ i = 1 ∨ i = 2 ∨ i = 3 ∨ i = 4 ∨ i = 5 ∨ i = 6 ∨ i = 7 ∨ i = 8 ∨ i = 9 ∨ i = 10 ∨ i = 11 ∨ i = 12 ∨ i = 13) with rfl | rfl | rfl | rfl | rfl | rfl | rfl | rfl | rfl | rfl | rfl | rfl | rfl | rfl <;>
   rcases (by omega : r = 0 ∨ r = 1 ∨ r = 2) with rfl | rfl | rfl <;> rfl
 exact this i hi r hr
theorem callsM_get {i : Nat} (hi : i < 14) : ∃ p,callsM[i]? = some p ∧ nameB i = p.1 := by
 have hl : callsM.length = 14 := rfl
 exact ⟨callsM[i]'(by omega),List.getElem?_eq_getElem (by omega),by unfold nameB; rw [List.getElem?_eq_getElem (by omega)]; rfl⟩
theorem findB_some {k : Nat} {t : Txt} (hk : k < 14) (h : nameB k = t) (hl : ∀ j,j < k → nameB j ≠ t) : findB t = some k := by
 have hlen : callsM.length = 14 := rfl
 unfold findB
 rw [List.findIdx?_eq_some_iff_getElem]
 refine ⟨by omega,?_,fun j hj => ?_⟩
 ·obtain ⟨p,hp,hn⟩ := callsM_get hk
  rw [List.getElem?_eq_getElem (by omega)] at hp
  simp only [Option.some.injEq] at hp
  rw [hp,← h,hn]
  exact beq_self_eq_true _
 ·obtain ⟨p,hp,hn⟩ := callsM_get (i := j) (by omega)
  rw [List.getElem?_eq_getElem (by omega)] at hp
  simp only [Option.some.injEq] at hp
  rw [hp,← hn]
  have := hl j hj
  simpa using this
theorem findB_none {t : Txt} (hl : ∀ j,j < 14 → nameB j ≠ t) : findB t = none := by
 unfold findB
 rw [List.findIdx?_eq_none_iff]
 intro p hp
 obtain ⟨j,hj,e⟩ := List.getElem_of_mem hp
 have hlen : callsM.length = 14 := rfl
 obtain ⟨p',hp',hn⟩ := callsM_get (i := j) (by omega)
 rw [List.getElem?_eq_getElem hj,e] at hp'
 simp only [Option.some.injEq] at hp'
 have := hl j (by omega)
 rw [hn,← hp'] at this
 simpa using this
def bltV (i : Nat) : Value := .agg #[.string (bytesL (nameB i)),.int .i64 (takesB i : Nat),doV i]
theorem builtins_any (w : World) : Calls Tryz.prog 97 #[] w fun e w' => Ch No w w' ∧ ∃ g,w.heap.size ≤ g ∧ e = .returned (.slice (some ⟨g,0,none⟩) 14 14) ∧ Blk w' g bltCells tBlt := by
 refine calls_of_fnT mixed Tryz.func97 (s := s97) ?_
 rw [t97]
 exact nw fun w1 h1 z1 b1 => ⟨h1,_,Nat.le_refl _,rfl,b1⟩
theorem find_any (w : World) (s : ByteArray) : Calls Tryz.prog 84 #[.string s] w fun e w' => Ch No w w' ∧ match findB s.data.toList with
  | some i => i < 14 ∧ nameB i = s.data.toList ∧ e = .returned (.tuple #[bltV i,.bool true])
  | none => e = .returned (.tuple #[.agg #[.string (bytesL []),.int .i64 0,.nilFunc],.bool false]) := by
 refine calls_of_fnT mixed Tryz.func84 (s := s84) ?_
 rw [t84]
 refine nw fun w1 h1 z1 b1 => cl_i (builtins_any w1) ?_
 rintro e w2 ⟨h2,g,hg,rfl,g2⟩
 refine ⟨(some ⟨g,0,none⟩,14,14),rfl,?_⟩
 dsimp only
 have b2 := b1.ch h2 (fun h => h)
 generalize hn1 : w.heap.size = n1 at *
 refine loop_i mixed m84_3 s84_3 (by kernel_rfl) (by kernel_rfl)
  (fun (v : Int × Unit) w' => ∃ k : Nat,v.1 = k ∧ k ≤ 14 ∧ Ch No w w' ∧ Blk w' g bltCells tBlt ∧ Blk w' n1 [.string (bytesL []),.int .i64 0,.nilFunc] tBlt ∧ ∀ j,j < k → nameB j ≠ s.data.toList)
  (fun (v : Int × Unit) _ => 14 - v.1.toNat) (0,()) rfl ⟨0,rfl,by omega,h1.trans h2,g2,b2,fun j hj => by omega⟩ ?_
 rintro ⟨_,⟨⟩⟩ gg w3 ⟨k,rfl,hk,h3,g3,b3,hne⟩
 rw [t84_3]
 dsimp only
 refine br_both (fun e => ?_) fun e => ?_
 ·have e : (k : Int) < (14 : Nat) := lt_t e
  have hk' : k < 14 := by omega
  refine ix_i (by omega) (by omega) ?_
  rw [addr_add,Int.toNat_natCast,Nat.zero_add]
  have c0 : w3.cell? ⟨g,k * 3,none⟩ = some (.string (bytesL (nameB k))) := by rw [g3.cell]; exact bltCells_at hk' (r := 0) (by omega)
  have c1 : w3.cell? ⟨g,k * 3 + 1,none⟩ = some (.int .i64 (takesB k : Nat)) := by rw [g3.cell]; exact bltCells_at hk' (r := 1) (by omega)
  have c2 : w3.cell? ⟨g,k * 3 + 2,none⟩ = some (doV k) := by rw [g3.cell]; exact bltCells_at hk' (r := 2) (by omega)
  simp only [addr_add]
  refine ld_str c0 (ld_int c1 (ld_any c2 (nw fun w4 h4 z4 b4 => st_blk b4 (by simp) rfl fun w5 h5 z5 b5 => st_blk b5 (by simp) rfl fun w6 h6 z6 b6 => st_blk b6 (by simp) rfl fun w7 h7 z7 b7 => ?_)))
  have h57 := h5.trans (h6.trans h7)
  have hlt1 := b3.lt
  have hltg := g3.lt
  have b7' := (b3.ch h4 (fun h => h)).ch h57 (fun e : n1 = w3.heap.size => by omega)
  have g7 := (g3.ch h4 (fun h => h)).ch h57 (fun e : g = w3.heap.size => by omega)
  have H7 : Ch No w w7 := (h3.trans h4).then_ h57 (fun i hi (e : i = w3.heap.size) => by have := h3.size; omega)
  refine ld_str (b7.cell 0) (br_both (fun e => ?_) fun e => ?_)
  ·have e : nameB k = s.data.toList := by
    have e' : ((bytesL (nameB k)).toList == s.toList) = true := e
    rw [tb_list,ByteArray.toList_eq] at e'
    simpa using e'
   refine ld_str (b7.cell 0) (ld_int (b7.cell 1) (ld_any (b7.cell 2) ?_))
   refine st_blk b7' (by simp) rfl fun w8 h8 z8 b8 => st_blk b8 (by simp) rfl fun w9 h9 z9 b9 => st_blk b9 (by simp) rfl fun w10 h10 z10 b10 => ?_
   refine ⟨(true,()),rfl,fun g => ?_⟩
   refine ld_str (b10.cell 0) (ld_int (b10.cell 1) (ld_any (b10.cell 2) ⟨H7.then_ (h8.trans (h9.trans h10)) (fun i hi (e : i = n1) => by omega),?_⟩))
   rw [findB_some hk' e hne]
   exact ⟨hk',e,rfl⟩
  ·have e : nameB k ≠ s.data.toList := by
    have e' : ((bytesL (nameB k)).toList == s.toList) = false := e
    rw [tb_list,ByteArray.toList_eq] at e'
    simpa using e'
   refine ⟨((IntKind.i64.wrap ((k : Int) + 1)),()),rfl,⟨k + 1,wrap_succ (by omega) (by omega),by omega,H7,g7,b7',fun j hj => ?_⟩,?_⟩
   ·rcases (by omega : j < k ∨ j = k) with h | rfl
    ·exact hne j h
    ·exact e
   ·show 14 - (IntKind.i64.wrap ((k : Int) + 1)).toNat < 14 - ((k : Nat) : Int).toNat
    rw [wrap_succ (by omega) (by omega)]
    omega
 ·have e : ((14 : Nat) : Int) ≤ (k : Int) := lt_f e
  refine ⟨rfl,(),rfl,fun g => ?_⟩
  refine st_blk b3 (by simp) rfl fun w4 h4 z4 b4 => st_blk b4 (by simp) rfl fun w5 h5 z5 b5 => st_blk b5 (by simp) rfl fun w6 h6 z6 b6 => ?_
  refine ld_str (b6.cell 0) (ld_int (b6.cell 1) (ld_any (b6.cell 2) ⟨h3.then_ (h4.trans (h5.trans h6)) (fun i hi (e : i = n1) => by omega),?_⟩))
  rw [findB_none (fun j hj => hne j (by omega))]
end Go.Proofs.YtmdmomccibpjbaaGreatDoor.E
namespace Go.Proofs.YtmdmomccibpjbaaGreatDoor.E
open Go Tr
open V (rest rest_cases restL sizeB pk_rest cx_i cp_i extract_list)
set_option maxRecDepth 100000
set_option maxHeartbeats 1000000
/-! the tree of function 72 -/
abbrev fx72_1 (qa0 : Addr) (qa1 : Addr) : List (Tmp × Value) := [(0,.pointer (some qa0)),(1,.pointer (some qa1))]
abbrev m72_1 : List (Tmp × Comp) := []
abbrev mx72_1 : List (Tmp × Comp) := []
abbrev mr72_1 : List (Tmp × Comp) := []
abbrev fx72_2 (qa0 : Addr) (qa1 : Addr) : List (Tmp × Value) := [(0,.pointer (some qa0)),(1,.pointer (some qa1))]
abbrev mx72_2 : List (Tmp × Comp) := [(44,.leaf .bool)]
def s72_2 : Script := .qt (.ld (.int .i64) (.ld .str (.sym (.lit (.lit (.lit (.ld .str (.lit (.lit (.lit (.lit (.ld (.int .i64) (.lit (.ix (.lit (.lit (.sym (.lit (.lit (.lit (.ld .str (.lit (.lit (.lit (.lit (.ld (.int .i64) (.lit (.ix (.lit (.lit .nil))))))))))))) (.lit (.lit (.lit (.lit (.lit (.lit (.lit (.lit (.lit (.lit .nil)))))))))))))))))))))))) (.lit (.lit (.lit (.lit (.lit (.lit (.lit (.lit (.lit (.lit (.lit (.lit (.lit (.lit (.lit (.lit (.lit (.lit (.lit (.lit (.lit .nil))))))))))))))))))))))))
theorem t72_2 (qa0 : Addr) (qa1 : Addr) (gg2 : Nat → Value) : pieceT Tryz.prog (at_ Tryz.f72 [1,0,0,0,0,0]) 94 (fx72_2 qa0 qa1) gg2 (mx72_2.map (·.1)) [] [] s72_2 = .drawn (.load (qa0.add 1) (.int .i64) (fun x3 => .load qa0 .str (fun s4 => .br (Decidable.decide (x3 < (↑s4.size : Int))) (.load qa0 .str (fun s5 => .load (qa0.add 1) (.int .i64) (fun x6 => .bidx s5 x6 (fun c7 => .br (Decidable.decide (c7 ≥ 97)) (.load qa0 .str (fun s8 => .load (qa0.add 1) (.int .i64) (fun x9 => .bidx s8 x9 (fun c10 => .undrawn (.fin .normal [(44,.bool (Decidable.decide (c10 ≤ 122)))]))))) (.undrawn (.fin .normal [(44,.bool false)])))))) (.undrawn (.fin .normal [(44,.bool false)]))))) := by kernel_rfl
def s72_1 : Script := .ct 1 [0,1] mx72_2 (.sym (.ld (.int .i64) .nil) .nil)
theorem t72_1 (qa0 : Addr) (qa1 : Addr) (gg1 : Nat → Value) : pieceT Tryz.prog (at_ Tryz.f72 [1,0,0,0]) 94 (fx72_1 qa0 qa1 ++ mvals m72_1 (())) gg1 (m72_1.map (·.1)) (mx72_1.map (·.1)) (mr72_1.map (·.1)) s72_1 = .cut (at_ Tryz.f72 [1,0,0,0,0,0]) 94 (fx72_2 qa0 qa1) mx72_2 (fun u11 g11 => .br u11.1 (.load (qa0.add 1) (.int .i64) (fun x12 => .store (qa0.add 1) (.int .i64 (IntKind.i64.wrap (x12 + 1))) (.fin .normal []))) (.fin (.exit 0) [])) := by kernel_rfl
abbrev fx72_28 (qa1 : Addr) (s17 : ByteArray) (s18 : ByteArray) (s19 : ByteArray) (s20 : ByteArray) (s21 : ByteArray) (s22 : ByteArray) (s23 : ByteArray) (s24 : ByteArray) (s25 : ByteArray) (s26 : ByteArray) (s27 : ByteArray) : List (Tmp × Value) := [(1,.pointer (some qa1)),(68,.agg #[.string s17,.string s18,.string s19,.string s20,.string s21,.string s22,.string s23,.string s24,.string s25,.string s26,.string s27])]
abbrev m72_28 : List (Tmp × Comp) := [(69,.leaf (.int .i64))]
abbrev mx72_28 : List (Tmp × Comp) := []
abbrev mr72_28 : List (Tmp × Comp) := []
def s72_28 : Script := .sym (.rn (.one (.leaf .str)) (.ld .str (.sym .nil .nil))) .nil
theorem t72_28 (qa1 : Addr) (s17 : ByteArray) (s18 : ByteArray) (s19 : ByteArray) (s20 : ByteArray) (s21 : ByteArray) (s22 : ByteArray) (s23 : ByteArray) (s24 : ByteArray) (s25 : ByteArray) (s26 : ByteArray) (s27 : ByteArray) (x_69 : Int) (gg28 : Nat → Value) : pieceT Tryz.prog (at_ Tryz.f72 [1,1,1,0,1,0,0]) 94 (fx72_28 qa1 s17 s18 s19 s20 s21 s22 s23 s24 s25 s26 s27 ++ mvals m72_28 (x_69,())) gg28 (m72_28.map (·.1)) (mx72_28.map (·.1)) (mr72_28.map (·.1)) s72_28 = .br (Decidable.decide (x_69 < 11)) (.run (execOp (Act.eval ⟨#[gg28 0,.pointer (some qa1),gg28 2,gg28 3,gg28 4,gg28 5,gg28 6,gg28 7,gg28 8,gg28 9,gg28 10,gg28 11,gg28 12,gg28 13,gg28 14,gg28 15,gg28 16,gg28 17,gg28 18,gg28 19,gg28 20,gg28 21,gg28 22,gg28 23,gg28 24,gg28 25,gg28 26,gg28 27,gg28 28,gg28 29,gg28 30,gg28 31,gg28 32,gg28 33,gg28 34,gg28 35,gg28 36,gg28 37,gg28 38,gg28 39,gg28 40,gg28 41,gg28 42,gg28 43,gg28 44,gg28 45,gg28 46,gg28 47,gg28 48,gg28 49,gg28 50,gg28 51,gg28 52,gg28 53,gg28 54,gg28 55,gg28 56,gg28 57,gg28 58,gg28 59,gg28 60,gg28 61,gg28 62,gg28 63,gg28 64,gg28 65,gg28 66,gg28 67,.agg #[.string s17,.string s18,.string s19,.string s20,.string s21,.string s22,.string s23,.string s24,.string s25,.string s26,.string s27],.int .i64 x_69,.bool true,gg28 71,gg28 72,gg28 73,gg28 74,gg28 75,gg28 76,gg28 77,gg28 78,gg28 79,gg28 80,gg28 81,gg28 82,gg28 83,gg28 84,gg28 85,gg28 86,gg28 87,gg28 88,gg28 89,gg28 90,gg28 91,gg28 92,gg28 93],[]⟩) ({ dst := Option.some 71,op := Go.Op.index 163 (Go.Operand.tmp 68) (Go.Operand.tmp 69),type := 9,pos := "parse.go:134",after := #[],guard := Option.none })) (.one (.leaf .str)) (fun s29 => .load (qa1.add 2) .str (fun s30 => .br (s29.toList == s30.toList) (.fin .ret []) (.fin .normal [(69,.int .i64 (IntKind.i64.wrap (x_69 + 1)))])))) (.fin (.exit 2) []) := by kernel_rfl
def s72 : Script := .lp 0 [0,1] [] mx72_1 mr72_1 (.hd0 (.hq 0 (.hq 1 (.hq 2 (.hq 3 (.hq 4 (.ld .str (.hq 5 (.hq 6 (.hq 7 (.hq 8 (.ld (.int .i64) (.hq 9 (.hq 10 (.hq 11 (.hq 12 (.ld (.int .i64) (.hq 13 (.nd (.hq 14 (.hq 15 (.he 16 (.ld .str (.ld .str (.ld .str (.ld .str (.ld .str (.ld .str (.ld .str (.ld .str (.ld .str (.ld .str (.ld .str (.lp 2 [1,68] [69] mx72_28 mr72_28 (.ld .str (.cl (.tup [.agg [.str,.int .i64,.any],.leaf .bool]) (.sym (.ld (.int .i64) (.clx .nil)) .nil))) .nil)))))))))))))))))))))))))))))))))) .nil
theorem t72 (qa0 : Addr) (qa1 : Addr) : fnT Tryz.prog Tryz.f72 #[.pointer (some qa0),.pointer (some qa1)] s72 = .store qa1 (.int .i64 2) (.loop (at_ Tryz.f72 [1,0,0,0]) 94 (fx72_1 qa0 qa1) [] mx72_1 mr72_1 0 (fun u13 g13 => .hdrawn (.load qa0 .str (fun s14 => .load (qa1.add 1) (.int .i64) (fun x15 => .load (qa0.add 1) (.int .i64) (fun x16 => .need (Decidable.decide (0 ≤ x15 ∧ x15 ≤ x16 ∧ x16 ≤ (↑s14.size : Int))) (.eff (.store (qa1.add 2) (.string (s14.extract x15.toNat x16.toNat)) (.back (.undrawn (.load ⟨1,0,none⟩ .str (fun s17 => .load ⟨1,1,none⟩ .str (fun s18 => .load ⟨1,2,none⟩ .str (fun s19 => .load ⟨1,3,none⟩ .str (fun s20 => .load ⟨1,4,none⟩ .str (fun s21 => .load ⟨1,5,none⟩ .str (fun s22 => .load ⟨1,6,none⟩ .str (fun s23 => .load ⟨1,7,none⟩ .str (fun s24 => .load ⟨1,8,none⟩ .str (fun s25 => .load ⟨1,9,none⟩ .str (fun s26 => .load ⟨1,10,none⟩ .str (fun s27 => .loop (at_ Tryz.f72 [1,1,1,0,1,0,0]) 94 (fx72_28 qa1 s17 s18 s19 s20 s21 s22 s23 s24 s25 s26 s27) [(69,.int .i64 0)] mx72_28 mr72_28 2 (fun u31 g31 => .load (qa1.add 2) .str (fun s32 => .call 84 #[.string s32] (.tup [.agg [.str,.int .i64,.any],.leaf .bool]) (fun r33 => .new (.cells #[.string (bytesL []),.int .i64 0,.nilFunc] 118 (0,0)) (fun n34 => .store ⟨n34,0,none⟩ (.string r33.1.1) (.store ⟨n34,1,none⟩ (.int .i64 r33.1.2.1) (.store ⟨n34,2,none⟩ r33.fst.snd.snd.1 (.br (!r33.snd.fst) (.load (qa1.add 1) (.int .i64) (fun x35 => .callx 18 #[.int .i64 34,.int .i64 x35] (fun ch36 => .done (.panicked ch36)))) (.done (.returned (.tuple #[])))))))))) (fun u37 g37 => .done (.returned (.tuple #[])))))))))))))))))))))))) (fun u38 g38 => .stuck)) := by kernel_rfl
theorem rest_get {s : ByteArray} {i j : Nat} {c : UInt8} (hij : i ≤ j) (hr : rest s j = c :: rest s (j + 1)) : (rest s i)[j - i]? = some c := by
 have h : (rest s j)[0]? = some c := by rw [hr]; rfl
 show (List.drop i _)[j - i]? = _
 rw [List.getElem?_drop,show i + (j - i) = j by omega]
 have h' : (List.drop j s.data.toList)[0]? = some c := h
 rw [List.getElem?_drop] at h'
 exact h'
theorem take_next {s : ByteArray} {i j : Nat} {c : UInt8} (hij : i ≤ j) (hr : rest s j = c :: rest s (j + 1)) : (rest s i).take (j + 1 - i) = (rest s i).take (j - i) ++ [c] := by
 rw [show j + 1 - i = (j - i) + 1 by omega,List.take_add_one,rest_get hij hr]
 rfl
theorem word_any (w : World) (b n : Nat) (s : ByteArray) (i : Nat) (q : PQ) (hb : PB w b s i q) (hn : TB w n 0 (i : Nat) [] 0) (hG : GlE w) (hne : b ≠ n) (hbb : 10 ≤ b) (hnb : 10 ≤ n) (hi : i ≤ s.size) (hs : s.size ≤ 100) :
  Calls Tryz.prog 72 #[.pointer (some ⟨b,0,none⟩),.pointer (some ⟨n,0,none⟩)] w fun e w' => Ch (fun k => k = b ∨ k = n) w w' ∧
   if wordsM.contains ((rest s i).takeWhile isL) = true ∨ (findB ((rest s i).takeWhile isL)).isSome = true then e = .returned (.tuple #[]) ∧ ∃ j,i ≤ j ∧ j ≤ s.size ∧ (rest s i).dropWhile isL = rest s j ∧ PB w' b s j q ∧ TB w' n 2 (i : Nat) ((rest s i).takeWhile isL) 0
   else Thrown w w' e 34 (i : Nat) := by
 refine calls_of_fnT mixed Tryz.func72 (s := s72) ?_
 rw [t72]
 refine st_blk hn (by simp) rfl fun w1 h1 z1 n1 => ?_
 have b1 := hb.ch h1 (fun e => hne e)
 refine loop_i mixed m72_1 s72_1 (by kernel_rfl) (by kernel_rfl)
  (fun (_ : Unit) w' => ∃ j : Nat,i ≤ j ∧ j ≤ s.size ∧ PB w' b s j q ∧ TB w' n 2 (i : Nat) [] 0 ∧ Ch (fun k => k = b ∨ k = n) w w' ∧ (rest s i).takeWhile isL = (rest s i).take (j - i) ++ (rest s j).takeWhile isL ∧ (rest s i).dropWhile isL = (rest s j).dropWhile isL)
  (fun (_ : Unit) w' => left_ b s w') () rfl ⟨i,Nat.le_refl _,hi,b1,n1,h1.mono fun k h => .inr h,by rw [Nat.sub_self]; rfl,rfl⟩ ?_
 rintro ⟨⟩ g w2 ⟨j,hij,hj,b2,n2,h2,htk,hdr⟩
 rw [t72_1]
 simp only [addr_add,Nat.zero_add]
 refine cut_i mixed s72_2 (fun (v : Bool × Unit) w' => w' = w2.drew ∧ v.1 = hdP 97 122 (rest s j)) (by kernel_rfl) (fun g => ?_) ?_
 ·rw [t72_2]
  simp only [addr_add,Nat.zero_add]
  exact dg_i b2 hj 97 122 (K := fun v => .fin .normal [(_,.bool v)]) ⟨rfl,(_,()),rfl,rfl,rfl⟩
 rintro ⟨u,⟨⟩⟩ g w3 ⟨rfl,hu⟩
 dsimp only at hu
 subst hu
 have hd := (Ch.refl No w2).drew
 have b3 := b2.ch hd (fun h => h)
 have n3 : TB w2.drew n 2 (i : Nat) [] 0 := Blk.ch n2 hd (fun h => h)
 have h3 := h2.trans hd.no
 have l3 : left_ b s w2 = s.size - j := left_at b2
 generalize w2.drew = w3 at *
 refine br_both (fun e => ?_) fun e => ?_
 ·rcases rest_cases s j hj with ⟨hr,_⟩ | ⟨hlt,hr⟩
  ·rw [hr] at e; cases e
  rw [hr,hdP_low] at e
  refine ld_int b3.c1 (st_next b3 (by omega) fun w4 h4 b4 => ?_)
  refine ⟨(),rfl,⟨j + 1,by omega,by omega,b4,Blk.ch n3 h4 (fun e => hne e.symm),h3.trans (h4.mono fun k h => .inl h),?_,?_⟩,?_⟩
  ·rw [take_next hij hr,htk,hr,List.takeWhile_cons_of_pos (p := isL) e,List.append_assoc]
   rfl
  ·rw [hdr,hr,List.dropWhile_cons_of_pos (p := isL) e]
  ·show left_ b s w4 < left_ b s w2
   rw [left_at b4,l3]
   omega
 refine ⟨rfl,(),rfl,fun g => ?_⟩
 have hend : (rest s j).takeWhile isL = [] ∧ (rest s j).dropWhile isL = rest s j := by
  rcases rest_cases s j hj with ⟨hr,_⟩ | ⟨hlt,hr⟩
  ·rw [hr]; exact ⟨rfl,rfl⟩
  ·rw [hr,hdP_low] at e
   have e : isL (s[j]'hlt) = false := e
   rw [hr,List.takeWhile_cons_of_neg (p := isL) (by rw [e]; exact Bool.false_ne_true),List.dropWhile_cons_of_neg (p := isL) (by rw [e]; exact Bool.false_ne_true)]
   exact ⟨rfl,rfl⟩
 rw [hend.1,List.append_nil] at htk
 rw [hend.2] at hdr
 rw [hdr]
 generalize hT : (rest s i).takeWhile isL = tw at *
 simp only [addr_add,Nat.zero_add]
 have hd3 := (Ch.refl No w3).drew
 have b4 := b3.ch hd3 (fun h => h)
 have n4 : TB w3.drew n 2 (i : Nat) [] 0 := Blk.ch n3 hd3 (fun h => h)
 have h4 := h3.trans hd3.no
 refine hd_i (fun w' => PB w' b s j q ∧ w'.cell? ⟨n,1,none⟩ = some (.int .i64 (i : Nat))) ⟨b4,Blk.cell n4 1⟩ ?_
 generalize w3.drew = w4 at *
 have hex : s.extract ((i : Nat) : Int).toNat ((j : Nat) : Int).toNat = bytesL tw := ba_eq (by rw [Int.toNat_natCast,Int.toNat_natCast,extract_list,tb_data,htk])
 refine lh_str (fun w' h => h.1.c0) (lh_int (fun w' h => h.2) (lh_int (fun w' h => h.1.c1) (nd3 (by omega) (by omega) (by omega) (eff_i ?_))))
 rw [hex]
 refine st_blk n4 (by simp) rfl fun w5 h5 z5 n5 => ?_
 have b5 := b4.ch h5 (fun e => hne e)
 have h05 : Ch (fun k => k = b ∨ k = n) w w5 := h4.trans (h5.mono fun k h => .inr h)
 have G5 : GlE w5 := hG.ch (B := 10) (h05.mono fun k h => by rcases h with rfl | rfl <;> assumption) (Nat.le_refl _)
 replace n5 : TB w5 n 2 (i : Nat) tw 0 := n5
 refine bk ⟨b5,Blk.cell n5 1⟩ (un_h ?_)
 refine ld_str (G5.words 0 _ rfl) (ld_str (G5.words 1 _ rfl) (ld_str (G5.words 2 _ rfl) (ld_str (G5.words 3 _ rfl) (ld_str (G5.words 4 _ rfl) (ld_str (G5.words 5 _ rfl) (ld_str (G5.words 6 _ rfl) (ld_str (G5.words 7 _ rfl) (ld_str (G5.words 8 _ rfl) (ld_str (G5.words 9 _ rfl) (ld_str (G5.words 10 _ rfl) ?_))))))))))
 refine loop_i mixed m72_28 s72_28 (by kernel_rfl) (by kernel_rfl)
  (fun (v : Int × Unit) w' => ∃ k : Nat,v.1 = k ∧ k ≤ 11 ∧ w' = w5 ∧ ∀ m t,m < k → wordsM[m]? = some t → t ≠ tw)
  (fun (v : Int × Unit) _ => 11 - v.1.toNat) (0,()) rfl ⟨0,rfl,by omega,rfl,fun m t hm => by omega⟩ ?_
 rintro ⟨_,⟨⟩⟩ gg w6 ⟨k,rfl,hk,rfl,hno⟩
 rw [t72_28]
 refine br_both (fun e => ?_) fun e => ?_
 ·have e : (k : Int) < 11 := lt_t e
  have hk' : k < 11 := by omega
  have hlen : wordsM.length = 11 := rfl
  obtain ⟨t,ht⟩ : ∃ t,wordsM[k]? = some t := ⟨wordsM[k]'(by omega),List.getElem?_eq_getElem (by omega)⟩
  refine t_run (x := bytesL t) (w' := w6) ?_ ?_
  ·rcases (by omega : k = 0 ∨ k = 1 ∨ k = 2 ∨ k = 3 ∨ k = 4 ∨ k = 5 ∨ k = 6 ∨ k = 7 ∨ k = 8 ∨ k = 9 ∨ k = 10) with rfl | rfl | rfl | rfl | rfl | rfl | rfl | rfl | rfl | rfl | rfl <;>
    (obtain rfl := Option.some.inj ht; kernel_rfl)
  have hty : (bytesL t).toList = t := tb_list t
  refine ld_str (Blk.cell n5 2) (br_both (fun e => ?_) fun e => ?_)
  ·have e : t = tw := by
    rw [tb_list,tb_list] at e
    simpa using e
   subst e
   refine ⟨(),rfl,fun g => ⟨h05,?_⟩⟩
   rw [if_pos (.inl (List.contains_iff_mem.2 (List.mem_of_getElem? ht)))]
   exact ⟨rfl,j,hij,hj,rfl,b5,n5⟩
  ·have hne' : t ≠ tw := by
    rw [tb_list,tb_list] at e
    simpa using e
   refine ⟨((IntKind.i64.wrap ((k : Int) + 1)),()),rfl,⟨k + 1,wrap_succ (by omega) (by omega),by omega,rfl,fun m t' hm ht' => ?_⟩,?_⟩
   ·rcases (by omega : m < k ∨ m = k) with h | rfl
    ·exact hno m t' h ht'
    ·rw [ht] at ht'
     obtain rfl := Option.some.inj ht'
     exact hne'
   ·show 11 - (IntKind.i64.wrap ((k : Int) + 1)).toNat < 11 - ((k : Nat) : Int).toNat
    rw [wrap_succ (by omega) (by omega)]
    omega
 ·have e : (11 : Int) ≤ (k : Int) := lt_f e
  refine ⟨rfl,(),rfl,fun g => ?_⟩
  have hnw : ¬ wordsM.contains tw = true := fun h => by
   obtain ⟨m,hm,e⟩ := List.getElem_of_mem (List.contains_iff_mem.1 h)
   have hlen : wordsM.length = 11 := rfl
   exact hno m tw (by omega) (by rw [List.getElem?_eq_getElem hm,e]) rfl
  refine ld_str (Blk.cell n5 2) (cl_i (find_any w6 (bytesL tw)) ?_)
  rintro e w7 ⟨h7,hf⟩
  rw [tb_data] at hf
  have b7 := b5.ch h7 (fun h => h)
  have n7 : TB w7 n 2 (i : Nat) tw 0 := Blk.ch n5 h7 (fun h => h)
  have h07 := h05.trans h7.no
  have hnlt : n < w7.heap.size := Blk.lt n7
  have hblt : b < w7.heap.size := Blk.lt b7
  have fin : ∀ {x y z : Value} {t : TypeId} {w8 : World},Ch No w7 w8 → ∀ {w9 : World},Ch (· = w7.heap.size) w8 w9 → Ch (fun k => k = b ∨ k = n) w w9 ∧ PB w9 b s j q ∧ TB w9 n 2 (i : Nat) tw 0 := fun {x y z t w8} h8 {w9} h9 =>
   ⟨(h07.trans h8.no).then_ h9 (fun i hi (e : i = w7.heap.size) => by have := h07.size; omega),(b7.ch h8 (fun h => h)).ch h9 (fun e : b = w7.heap.size => by omega),Blk.ch (Blk.ch n7 h8 (fun h => h)) h9 (fun e : n = w7.heap.size => by omega)⟩
  cases hq : findB tw with
  | none =>
   rw [hq] at hf
   subst hf
   refine ⟨((bytesL [],0,.nilFunc,()),false,()),rfl,?_⟩
   refine nw fun w8 h8 z8 b8 => st_blk b8 (by simp) rfl fun w9 h9 z9 b9 => st_blk b9 (by simp) rfl fun w10 h10 z10 b10 => st_blk b10 (by simp) rfl fun w11 h11 z11 b11 => ?_
   obtain ⟨H,B,T⟩ := fin (x := .nilFunc) (y := .nilFunc) (z := .nilFunc) (t := 0) h8 (h9.trans (h10.trans h11))
   refine br_true rfl (ld_int (Blk.cell T 1) (cx_i (giveUp_any _ _ w11) ?_))
   rintro r w12 ⟨h12,ht⟩
   obtain ⟨fb,f1,rfl,f3⟩ := ht
   refine ⟨_,rfl,H.trans h12.no,?_⟩
   rw [if_neg (by rintro (h | h); exact hnw h; cases h)]
   exact ⟨fb,Nat.le_trans H.size f1,rfl,f3⟩
  | some m =>
   rw [hq] at hf
   obtain ⟨hm,hnm,rfl⟩ := hf
   refine ⟨((bytesL (nameB m),(takesB m : Nat),doV m,()),true,()),rfl,?_⟩
   refine nw fun w8 h8 z8 b8 => st_blk b8 (by simp) rfl fun w9 h9 z9 b9 => st_blk b9 (by simp) rfl fun w10 h10 z10 b10 => st_blk b10 (by simp) rfl fun w11 h11 z11 b11 => ?_
   obtain ⟨H,B,T⟩ := fin (x := .nilFunc) (y := .nilFunc) (z := .nilFunc) (t := 0) h8 (h9.trans (h10.trans h11))
   refine br_false rfl ⟨H,?_⟩
   rw [if_pos (.inr rfl)]
   exact ⟨rfl,j,hij,hj,rfl,B,T⟩
end Go.Proofs.YtmdmomccibpjbaaGreatDoor.E
namespace Go.Proofs.YtmdmomccibpjbaaGreatDoor.V
open Go Tr
set_option maxRecDepth 100000
def Ne0 {α : Type} : Except Flt α → Prop
 | .ok _ => True
 | .error f => f.1 ≠ 0
theorem escX_ne (l : List UInt8) : Ne0 (escX l) := by
 unfold escX
 repeat' split
 all_goals first | trivial | (show (28 : Int) ≠ 0; decide)
theorem readX_ne : ∀ (k : Nat) (acc l : List UInt8),Ne0 (readX k acc l)
 | 0,_,_ => by show (28 : Int) ≠ 0; decide
 | k + 1,acc,l => by
  unfold readX
  have he := escX_ne l.tail
  split
  ·trivial
  split
  ·split
   ·rename_i h; rw [h] at he; exact he
   ·exact readX_ne k _ _
  split
  ·exact readX_ne k _ _
  split
  ·show (28 : Int) ≠ 0; decide
  ·exact readX_ne k _ _
theorem rtextX_ne (l : List UInt8) : Ne0 (rtextX l) := by
 unfold rtextX
 have h := readX_ne (l.tail.length + 1) [] l.tail
 split
 ·rename_i e he; rw [he] at h; exact h
 ·split
  ·show (21 : Int) ≠ 0; decide
  ·trivial
theorem rdigX_ne (f : Nat) (neg : Bool) (l : List UInt8) : Ne0 (rdigX f neg l) := by
 unfold rdigX
 repeat' split
 all_goals first | trivial | (show (28 : Int) ≠ 0; decide) | (show (29 : Int) ≠ 0; decide)
theorem rintX_ne (l : List UInt8) : Ne0 (rintX l) := by
 unfold rintX
 split <;> exact rdigX_ne _ _ _
theorem wantX_ne : ∀ (w l : List UInt8),Ne0 (wantX w l)
 | [],_ => trivial
 | c :: w,l => by
  unfold wantX
  split
  ·exact wantX_ne w _
  ·show (28 : Int) ≠ 0; decide
theorem ritemsX_ne (f : List UInt8 → Int → Except Flt (VT × List UInt8 × Int)) (hf : ∀ l n,Ne0 (f l n)) : ∀ (m : Nat) (acc : List VT) (l : List UInt8) (n : Int),Ne0 (ritemsX f m acc l n)
 | 0,_,_,_ => by show (22 : Int) ≠ 0; decide
 | m + 1,acc,l,n => by
  unfold ritemsX
  have h := hf l n
  split
  ·rename_i e he; rw [he] at h; exact h
  ·split
   ·trivial
   ·split
    ·split
     ·show (22 : Int) ≠ 0; decide
     ·exact ritemsX_ne f hf m _ _ _
    ·show (28 : Int) ≠ 0; decide
theorem rlistX_ne (f : List UInt8 → Int → Except Flt (VT × List UInt8 × Int)) (hf : ∀ l n,Ne0 (f l n)) (d : Int) (l : List UInt8) (n : Int) : Ne0 (rlistX f d l n) := by
 unfold rlistX
 have h := ritemsX_ne f hf 6 [] (blanksM l.tail) n
 split
 ·show (23 : Int) ≠ 0; decide
 split
 ·trivial
 split
 ·rename_i e he; rw [he] at h; exact h
 ·trivial
theorem rdX_ne : ∀ (k : Nat) (d : Int) (l : List UInt8) (n : Int),Ne0 (rdX k d l n)
 | 0,_,_,_ => by show (28 : Int) ≠ 0; decide
 | k + 1,d,l,n => by
  rw [rdX_succ]
  have h1 := wantX_ne [110,111,110,101] l
  have h2 := rtextX_ne l
  have h3 := rintX_ne l
  split
  ·show (28 : Int) ≠ 0; decide
  split
  ·show (22 : Int) ≠ 0; decide
  split
  ·split
   ·rename_i e he; rw [he] at h1; exact h1
   ·trivial
  split
  ·split
   ·rename_i e he; rw [he] at h2; exact h2
   ·trivial
  split
  ·exact rlistX_ne _ (fun l n => rdX_ne k _ l n) _ _ _
  split
  ·rename_i e he; rw [he] at h3; exact h3
  ·trivial
theorem parseX_ne (l : List UInt8) : Ne0 (parseX l) := by
 unfold parseX
 have h := rdX_ne 4 0 (blanksM l) 0
 split
 ·rename_i e he; rw [he] at h; exact h
 ·split
  ·trivial
  ·show (28 : Int) ≠ 0; decide
theorem parseX_er {l : List UInt8} {f : Flt} (h : parseX l = .error f) : f.1 ≠ 0 := by
 have := parseX_ne l
 rw [h] at this
 exact this
end Go.Proofs.YtmdmomccibpjbaaGreatDoor.V
