/- The document's reader: a whole text. -/
import Derived.Test.YtmdmomccibpjbaaGreatDoorRxe
import Derived.Test.YtmdmomccibpjbaaGreatDoorRmd
namespace Go.Proofs.YtmdmomccibpjbaaGreatDoor.E
open Go Tr
open V (rest rest_cases restL sizeB pk_rest cx_i cp_i extract_list pk hexP)
set_option maxRecDepth 100000
set_option maxHeartbeats 4000000
/-! the tree of function 11 -/
abbrev fx11_1 (qs0 : ByteArray) : List (Tmp × Value) := [(0,.string qs0)]
abbrev L11_1 : List (Tmp × Value) := []
abbrev mx11_1 : List (Tmp × Comp) := []
abbrev mr11_1 : List (Tmp × Comp) := [(2,.leaf .sl),(3,.leaf (.int .i64)),(4,.leaf (.int .i64))]
def s11_1 : Script := .sym .nil .nil
theorem t11_1 (qs0 : ByteArray) (gg1 : Nat → Value) : pieceT Tryz.prog (at_ Tryz.f11 [1,0]) 82 (fx11_1 qs0 ++ L11_1) gg1 (mx11_1.map (·.1)) [] (mr11_1.map (·.1)) s11_1 = .br (Decidable.decide ((↑qs0.size : Int) > 100)) (.fin .ret [(2,.slice none 0 0),(3,.int .i64 30),(4,.int .i64 0)]) (.fin .normal []) := by kernel_rfl
abbrev fx11_4 (n3 : Nat) : List (Tmp × Value) := [(5,.pointer (some ⟨n3,0,none⟩))]
abbrev m11_4 : List (Tmp × Comp) := [(6,.leaf .bool)]
abbrev mx11_4 : List (Tmp × Comp) := []
abbrev mr11_4 : List (Tmp × Comp) := [(2,.leaf .sl),(3,.leaf (.int .i64)),(4,.leaf (.int .i64))]
abbrev fx11_7 (n3 : Nat) (b_6 : Bool) (r5 : (Int × Int × Int × ByteArray × Unit) × Int × Unit) (n6 : Nat) : List (Tmp × Value) := [(5,.pointer (some ⟨n3,0,none⟩)),(6,.bool b_6),(7,.pointer (some ⟨n6,0,none⟩)),(8,.int .i64 r5.2.1)]
abbrev L11_7 : List (Tmp × Value) := []
abbrev mx11_7 : List (Tmp × Comp) := []
abbrev mr11_7 : List (Tmp × Comp) := [(2,.leaf .sl),(3,.leaf (.int .i64)),(4,.leaf (.int .i64))]
def s11_7 : Script := .sym (.qt (.ld (.int .i64) .nil)) .nil
theorem t11_7 (n3 : Nat) (b_6 : Bool) (r5 : (Int × Int × Int × ByteArray × Unit) × Int × Unit) (n6 : Nat) (gg7 : Nat → Value) : pieceT Tryz.prog (at_ Tryz.f11 [1,1,1,1,0,0,0,1,0]) 82 (fx11_7 n3 b_6 r5 n6 ++ L11_7) gg7 (mx11_7.map (·.1)) [] (mr11_7.map (·.1)) s11_7 = .br (r5.snd.fst != 0) (.drawn (.load ⟨n6,1,none⟩ (.int .i64) (fun x8 => .undrawn (.fin .ret [(2,.slice none 0 0),(3,.int .i64 r5.2.1),(4,.int .i64 x8)])))) (.fin .normal []) := by kernel_rfl
abbrev fx11_10 (n3 : Nat) (b_6 : Bool) (n6 : Nat) : List (Tmp × Value) := [(5,.pointer (some ⟨n3,0,none⟩)),(6,.bool b_6),(7,.pointer (some ⟨n6,0,none⟩))]
abbrev L11_10 : List (Tmp × Value) := []
abbrev mx11_10 : List (Tmp × Comp) := []
abbrev mr11_10 : List (Tmp × Comp) := [(2,.leaf .sl),(3,.leaf (.int .i64)),(4,.leaf (.int .i64))]
abbrev fx11_12 (n3 : Nat) (b_6 : Bool) (n6 : Nat) : List (Tmp × Value) := [(5,.pointer (some ⟨n3,0,none⟩)),(6,.bool b_6),(7,.pointer (some ⟨n6,0,none⟩))]
abbrev L11_12 : List (Tmp × Value) := []
abbrev mx11_12 : List (Tmp × Comp) := []
abbrev mr11_12 : List (Tmp × Comp) := [(2,.leaf .sl),(3,.leaf (.int .i64)),(4,.leaf (.int .i64))]
def s11_12 : Script := .sym (.qt (.ld (.int .i64) .nil)) .nil
theorem t11_12 (n3 : Nat) (b_6 : Bool) (n6 : Nat) (gg12 : Nat → Value) : pieceT Tryz.prog (at_ Tryz.f11 [1,1,1,1,0,0,0,1,1,0,1,0,0]) 82 (fx11_12 n3 b_6 n6 ++ L11_12) gg12 (mx11_12.map (·.1)) [] (mr11_12.map (·.1)) s11_12 = .br b_6 (.drawn (.load ⟨n6,1,none⟩ (.int .i64) (fun x13 => .undrawn (.fin .ret [(2,.slice none 0 0),(3,.int .i64 36),(4,.int .i64 x13)])))) (.fin .normal []) := by kernel_rfl
def s11_10 : Script := .ld (.int .u8) (.sym (.cr 0 [5,6,7] [] mx11_12 mr11_12 (.cl (.one (.agg [.str,.int .i64,.int .i64])) (.ld .str (.sym (.qt (.ld (.int .i64) .nil)) (.ld .sl .nil)))) .nil) .nil)
theorem t11_10 (n3 : Nat) (b_6 : Bool) (n6 : Nat) (gg10 : Nat → Value) : pieceT Tryz.prog (at_ Tryz.f11 [1,1,1,1,0,0,0,1,1,0]) 82 (fx11_10 n3 b_6 n6 ++ L11_10) gg10 (mx11_10.map (·.1)) [] (mr11_10.map (·.1)) s11_10 = .load ⟨n6,0,none⟩ (.int .u8) (fun x11 => .br (x11 == 101) (.cutr (at_ Tryz.f11 [1,1,1,1,0,0,0,1,1,0,1,0,0]) 82 (fx11_12 n3 b_6 n6) L11_12 mx11_12 mr11_12 (fun u14 g14 => .call 22 #[.pointer (some ⟨n3,0,none⟩)] (.one (.agg [.str,.int .i64,.int .i64])) (fun r15 => .new (.cells #[.string (bytesL []),.int .i64 0,.int .i64 0] 68 (0,0)) (fun n16 => .store ⟨n16,0,none⟩ (.string r15.1) (.store ⟨n16,1,none⟩ (.int .i64 r15.2.1) (.store ⟨n16,2,none⟩ (.int .i64 r15.2.2.1) (.load ⟨n16,0,none⟩ .str (fun s17 => .br (!s17.toList == (bytesL []).toList) (.drawn (.load ⟨n6,1,none⟩ (.int .i64) (fun x18 => .undrawn (.fin .ret [(2,.slice none 0 0),(3,.int .i64 36),(4,.int .i64 x18)])))) (.load ⟨n3,2,none⟩ .sl (fun l19 => .fin .ret [(2,.slice l19.1 l19.2.1 l19.2.2),(3,.int .i64 0),(4,.int .i64 0)]))))))))) (fun u20 g20 => .fin .ret [(2,.slice u20.1.1 u20.1.2.1 u20.1.2.2),(3,.int .i64 u20.2.1),(4,.int .i64 u20.2.2.1)])) (.fin .normal [])) := by kernel_rfl
abbrev fx11_23 (n3 : Nat) (n6 : Nat) (x22 : Int) : List (Tmp × Value) := [(5,.pointer (some ⟨n3,0,none⟩)),(7,.pointer (some ⟨n6,0,none⟩)),(10,.int .i64 x22)]
abbrev mx11_23 : List (Tmp × Comp) := [(11,.leaf .bool)]
def s11_23 : Script := .ld (.int .u8) (.sym (.lit (.ld .str (.lit (.cl (.one (.leaf (.int .i64))) (.lit (.lit .nil)))))) (.lit (.lit (.lit (.lit .nil)))))
theorem t11_23 (n3 : Nat) (n6 : Nat) (x22 : Int) (gg23 : Nat → Value) : pieceT Tryz.prog (at_ Tryz.f11 [1,1,1,1,0,0,0,1,1,1,1,0,1,0,0]) 82 (fx11_23 n3 n6 x22) gg23 (mx11_23.map (·.1)) [] [] s11_23 = .load ⟨n6,0,none⟩ (.int .u8) (fun x24 => .br (x24 == 119) (.load ⟨n6,3,none⟩ .str (fun s25 => .call 23 #[.string s25] (.one (.leaf (.int .i64))) (fun x26 => .fin .normal [(11,.bool (Decidable.decide (x26 > 0)))]))) (.fin .normal [(11,.bool false)])) := by kernel_rfl
abbrev fx11_33 (n3 : Nat) (x22 : Int) (u27 : Bool × Unit) (r32 : Int × Bool × Unit) : List (Tmp × Value) := [(5,.pointer (some ⟨n3,0,none⟩)),(6,.bool r32.2.1),(8,.int .i64 r32.1),(10,.int .i64 x22),(11,.bool u27.1)]
abbrev mx11_33 : List (Tmp × Comp) := [(67,.leaf .bool)]
def s11_33 : Script := .sym (.lit (.lit .nil)) (.lit (.lit .nil))
theorem t11_33 (n3 : Nat) (x22 : Int) (u27 : Bool × Unit) (r32 : Int × Bool × Unit) (gg33 : Nat → Value) : pieceT Tryz.prog (at_ Tryz.f11 [1,1,1,1,0,0,0,1,1,1,1,0,1,0,1,1,0]) 82 (fx11_33 n3 x22 u27 r32) gg33 (mx11_33.map (·.1)) [] [] s11_33 = .br u27.1 (.fin .normal [(67,.bool (r32.fst != 0))]) (.fin .normal [(67,.bool false)]) := by kernel_rfl
def s11_4 : Script := .cl (.tup [.agg [.int .u8,.int .i64,.int .i64,.str],.leaf (.int .i64)]) (.cr 0 [5,6,7,8] [] mx11_7 mr11_7 (.cr 0 [5,6,7] [] mx11_10 mr11_10 (.ld (.int .i64) (.sym (.ct 0 [5,7,10] mx11_23 (.ld (.int .u8) (.ld (.int .i64) (.ld (.int .i64) (.ld .str (.cl (.tup [.leaf (.int .i64),.leaf .bool]) (.ct 0 [5,6,8,10,11] mx11_33 (.sym (.ld (.int .i64) (.sym .nil .nil)) (.sym .nil .nil))))))))) (.ld (.int .u8) (.ld (.int .i64) (.ld (.int .i64) (.ld .str (.cl (.tup [.leaf (.int .i64),.leaf .bool]) (.sym .nil .nil)))))))) .nil) .nil)
theorem t11_4 (n3 : Nat) (b_6 : Bool) (gg4 : Nat → Value) : pieceT Tryz.prog (at_ Tryz.f11 [1,1,1,1,0,0]) 82 (fx11_4 n3 ++ mvals m11_4 (b_6,())) gg4 (m11_4.map (·.1)) (mx11_4.map (·.1)) (mr11_4.map (·.1)) s11_4 = .call 21 #[.pointer (some ⟨n3,0,none⟩)] (.tup [.agg [.int .u8,.int .i64,.int .i64,.str],.leaf (.int .i64)]) (fun r5 => .new (.cells #[.int .u8 0,.int .i64 0,.int .i64 0,.string (bytesL [])] 64 (0,0)) (fun n6 => .store ⟨n6,0,none⟩ (.int .u8 r5.1.1) (.store ⟨n6,1,none⟩ (.int .i64 r5.1.2.1) (.store ⟨n6,2,none⟩ (.int .i64 r5.1.2.2.1) (.store ⟨n6,3,none⟩ (.string r5.1.2.2.2.1) (.cutr (at_ Tryz.f11 [1,1,1,1,0,0,0,1,0]) 82 (fx11_7 n3 b_6 r5 n6) L11_7 mx11_7 mr11_7 (fun u9 g9 => .cutr (at_ Tryz.f11 [1,1,1,1,0,0,0,1,1,0]) 82 (fx11_10 n3 b_6 n6) L11_10 mx11_10 mr11_10 (fun u21 g21 => .load ⟨n6,1,none⟩ (.int .i64) (fun x22 => .br b_6 (.cut (at_ Tryz.f11 [1,1,1,1,0,0,0,1,1,1,1,0,1,0,0]) 82 (fx11_23 n3 n6 x22) mx11_23 (fun u27 g27 => .load ⟨n6,0,none⟩ (.int .u8) (fun x28 => .load ⟨n6,1,none⟩ (.int .i64) (fun x29 => .load ⟨n6,2,none⟩ (.int .i64) (fun x30 => .load ⟨n6,3,none⟩ .str (fun s31 => .call 24 #[.pointer (some ⟨n3,0,none⟩),.agg #[.int .u8 x28,.int .i64 x29,.int .i64 x30,.string s31]] (.tup [.leaf (.int .i64),.leaf .bool]) (fun r32 => .cut (at_ Tryz.f11 [1,1,1,1,0,0,0,1,1,1,1,0,1,0,1,1,0]) 82 (fx11_33 n3 x22 u27 r32) mx11_33 (fun u34 g34 => .br u34.1 (.load ⟨n3,1,none⟩ (.int .i64) (fun x35 => .br (r32.fst != 0) (.fin .ret [(2,.slice none 0 0),(3,.int .i64 r32.1),(4,.int .i64 x35)]) (.fin .normal [(6,.bool r32.2.1)]))) (.br (r32.fst != 0) (.fin .ret [(2,.slice none 0 0),(3,.int .i64 r32.1),(4,.int .i64 x22)]) (.fin .normal [(6,.bool r32.2.1)])))))))))) (.load ⟨n6,0,none⟩ (.int .u8) (fun x36 => .load ⟨n6,1,none⟩ (.int .i64) (fun x37 => .load ⟨n6,2,none⟩ (.int .i64) (fun x38 => .load ⟨n6,3,none⟩ .str (fun s39 => .call 25 #[.pointer (some ⟨n3,0,none⟩),.agg #[.int .u8 x36,.int .i64 x37,.int .i64 x38,.string s39]] (.tup [.leaf (.int .i64),.leaf .bool]) (fun r40 => .br (r40.fst != 0) (.fin .ret [(2,.slice none 0 0),(3,.int .i64 r40.1),(4,.int .i64 x22)]) (.fin .normal [(6,.bool r40.2.1)]))))))))) (fun u41 g41 => .fin .ret [(2,.slice u41.1.1 u41.1.2.1 u41.1.2.2),(3,.int .i64 u41.2.1),(4,.int .i64 u41.2.2.1)])) (fun u42 g42 => .fin .ret [(2,.slice u42.1.1 u42.1.2.1 u42.1.2.2),(3,.int .i64 u42.2.1),(4,.int .i64 u42.2.2.1)]))))))) := by kernel_rfl
def s11 : Script := .cr 1 [0] [] mx11_1 mr11_1 (.lp 0 [5] [6] mx11_4 mr11_4 .nil .nil) .nil
theorem t11 (qs0 : ByteArray) : fnT Tryz.prog Tryz.f11 #[.string qs0] s11 = .cutr (at_ Tryz.f11 [1,0]) 82 (fx11_1 qs0) L11_1 mx11_1 mr11_1 (fun u2 g2 => .new (.cells #[.string qs0,.int .i64 0,.slice none 0 0,.slice none 0 0,.int .i64 0] 62 (0,0)) (fun n3 => .loop (at_ Tryz.f11 [1,1,1,1,0,0]) 82 (fx11_4 n3) [(6,.bool true)] mx11_4 mr11_4 0 (fun u43 g43 => .done (.returned (.tuple #[g43 2,g43 3,g43 4]))) (fun u44 g44 => .done (.returned (.tuple #[.slice u44.1.1 u44.1.2.1 u44.1.2.2,.int .i64 u44.2.1,.int .i64 u44.2.2.1]))))) (fun u45 g45 => .done (.returned (.tuple #[.slice u45.1.1 u45.1.2.1 u45.1.2.2,.int .i64 u45.2.1,.int .i64 u45.2.2.1]))) := by kernel_rfl
/-! the tree of function 6 -/
def s6 : Script := .cl (.tup [.leaf .sl,.leaf (.int .i64),.leaf (.int .i64)]) .nil
theorem t6 (qs0 : ByteArray) : fnT Tryz.prog Tryz.f6 #[.string qs0] s6 = .call 11 #[.string qs0] (.tup [.leaf .sl,.leaf (.int .i64),.leaf (.int .i64)]) (fun r1 => .done (.returned (.tuple #[.int .i64 0,.int .i64 r1.2.2.1,.int .i64 r1.2.1]))) := by kernel_rfl
/-- What the document reads. -/
def readM (l : Txt) : Except Er (List SM) := match parseE l with
 | .error c => .error c
 | .ok n => .ok (flat n)
theorem out_e {L : Nat} {m : MS} {r : Except Er (List SM)} {e : Er} (h : stepM L m = .error e) (o : Out L m r) : r = .error e := by
 cases o with
 | err h' => rw [h] at h'; cases h'; rfl
 | fin h' => rw [h] at h'; cases h'
 | go h' o' => rw [h] at h'; cases h'
theorem out_f {L : Nat} {m : MS} {r : Except Er (List SM)} {l : List SM} (h : stepM L m = .ok (.inl l)) (o : Out L m r) : r = .ok l := by
 cases o with
 | err h' => rw [h] at h'; cases h'
 | fin h' => rw [h] at h'; cases h'; rfl
 | go h' o' => rw [h] at h'; cases h'
theorem out_g {L : Nat} {m m' : MS} {r : Except Er (List SM)} (h : stepM L m = .ok (.inr m')) (o : Out L m r) : Out L m' r := by
 cases o with
 | err h' => rw [h] at h'; cases h'
 | fin h' => rw [h] at h'; cases h'
 | go h' o' => rw [h] at h'; cases h'; exact o'
theorem lexB_kind {L : Nat} {l r : Txt} {t : Tk} (h : lexB L l = .ok (t,r)) : t.kind ≤ 4 := by
 unfold lexB at h
 split at h
 ·cases h; exact Nat.zero_le _
 ·split at h
  ·split at h
   ·cases h
   ·cases h; show 1 ≤ 4; omega
  ·split at h
   ·split at h
    ·cases h; show 2 ≤ 4; omega
    ·cases h
   ·split at h
    ·split at h
     ·cases h
     ·cases h; show 3 ≤ 4; omega
    ·split at h
     ·cases h; exact Nat.le_refl _
     ·cases h
theorem kd_0 {k : Nat} (hk : k ≤ 4) : kd3 k = 101 ↔ k = 0 := by
 unfold kd3
 by_cases h1 : k = 1
 ·rw [if_pos h1]; omega
 by_cases h2 : k = 2
 ·rw [if_neg h1,if_pos h2]; omega
 by_cases h3 : k = 3
 ·rw [if_neg h1,if_neg h2,if_pos h3]; omega
 by_cases h4 : k = 4
 ·rw [if_neg h1,if_neg h2,if_neg h3,if_pos h4]; omega
 ·rw [if_neg h1,if_neg h2,if_neg h3,if_neg h4]; omega
/-- The reader's place, by memory. -/
def placeR (b : Nat) (w : World) : Nat := match w.cell? ⟨b,1,none⟩ with
 | some (.int _ n) => n.toNat
 | _ => 0
theorem Rd.place {B : Nat → Prop} {base : Nat} {w : World} {b : Nat} {s : ByteArray} {i : Nat} {σ : List OM} {ω : List SM} {d : Nat} (h : Rd B base w b s i σ ω d) : placeR b w = i := by
 obtain ⟨pS,nS,cS,pO,nO,cO,h1,h2,h3,h4,h5⟩ := h.mem
 unfold placeR
 rw [Blk.cell h3 1]
 show ((i : Nat) : Int).toNat = i
 omega
theorem Rd.from_ {B B' : Nat → Prop} {base : Nat} {w0 w w' : World} {b : Nat} {s : ByteArray} {i : Nat} {σ : List OM} {ω : List SM} {d : Nat} (h : Rd B base w b s i σ ω d) (hb : base = w0.heap.size) (h0 : Ch No w0 w) (T : Turn B B' w w') : Ch No w0 w' :=
 h0.then_ T.ch fun k hk hB => by have := (h.bnd k hB).1; omega
abbrev RV := (Option Addr × Nat × Nat) × Int × Int × Unit
def RdOut (res : Except Er (List SM)) (w0 : World) (v : RV) (w' : World) : Prop := Ch No w0 w' ∧ match res with
 | .error c => v = ((none,0,0),(c.1 : Int),(c.2 : Int),()) ∧ c.1 ≠ 0
 | .ok x => v.2 = (0,0,()) ∧ Row w' w0.heap.size tStep3 4 v.1.1 v.1.2.1 v.1.2.2 (x.flatMap cellsS)
def RdRes (l : Txt) (w0 : World) (v : RV) (w' : World) : Prop := RdOut (readM l) w0 v w'
def ReadP (l : Txt) (w0 : World) (e : Ending) (w' : World) : Prop := ∃ v : RV,e = .returned (.tuple #[.slice v.1.1 v.1.2.1 v.1.2.2,.int .i64 v.2.1,.int .i64 v.2.2.1]) ∧ RdRes l w0 v w'
theorem read_all (w : World) (s : ByteArray) : Calls Tryz.prog 11 #[.string s] w (ReadP s.data.toList w) := by
 refine calls_of_fnT mixed Tryz.func11 (s := s11) ?_
 rw [t11]
 have hlen : s.data.toList.length = s.size := sizeB s
 refine cutr_i mixed s11_1 (fun _ w' => w' = w ∧ s.size ≤ 100) (fun v w' => RdRes s.data.toList w v w') (by kernel_rfl) (by kernel_rfl) (fun g => ?_) ?_ (fun v g w' h => ⟨v,rfl,h⟩)
 ·rw [t11_1]
  refine br_both (fun e => ?_) fun e => ?_
  ·have e := gt_t e
   refine ⟨((none,0,0),30,0,()),rfl,Ch.refl _ _,?_⟩
   have : readM s.data.toList = .error (30,0) := by
    unfold readM parseE
    rw [if_pos (by omega)]
   rw [this]
   exact ⟨rfl,by decide⟩
  ·have e := gt_f e
   exact ⟨(),rfl,rfl,by omega⟩
 rintro ⟨⟩ g w0 ⟨rfl,hs⟩
 have hO : Out s.size ⟨true,⟨s.data.toList,none,0⟩,[],[]⟩ (readM s.data.toList) := by
  have := read_out s.data.toList (by omega)
  rw [hlen] at this
  exact this
 generalize hres : readM s.data.toList = res at *
 refine nw fun w1 h1 z1 b1 => ?_
 generalize hb : w0.heap.size = b at *
 have R1 : Rd (· = b) b w1 b s 0 [] [] 0 := ⟨rfl,fun k (e : k = b) => by omega,none,0,0,none,0,0,(fun k hk => by unfold rowS Value.ownBlock at hk; cases hk),(fun k hk => by unfold rowS Value.ownBlock at hk; cases hk),b1,Row.nil _ _ _ _,Row.nil _ _ _ _⟩
 have fin : ∀ (v : RV) (w' : World),RdOut res w0 v w' → RdRes s.data.toList w0 v w' := fun v w' h => by
  unfold RdRes
  rw [hres]
  exact h
 have bad : ∀ (c a : Nat) (w' : World),Ch No w0 w' → res = .error (c,a) → c ≠ 0 → RdRes s.data.toList w0 ((none,0,0),(c : Int),(a : Int),()) w' := fun c a w' hc hr hc0 => fin _ _ ⟨hc,by rw [hr]; exact ⟨rfl,hc0⟩⟩
 refine loop_i mixed m11_4 s11_4 (by kernel_rfl) (by kernel_rfl)
  (fun (v : Bool × Unit) w' => ∃ B i σ ω d,Ch No w0 w' ∧ Rd B b w' b s i σ ω d ∧ OkO σ d ∧ i ≤ s.size ∧ σ.length + ω.length ≤ i ∧ Out s.size ⟨v.1,⟨rest s i,none,d⟩,σ,ω⟩ res)
  (fun (v : Bool × Unit) w' => s.size - placeR b w') (true,()) rfl ⟨_,0,[],[],0,h1,R1,⟨by omega,rfl,fun o h => nomatch h⟩,by omega,by simp,hO⟩ ?_
 rintro ⟨want,⟨⟩⟩ g w2 ⟨B,i,σ,ω,d,h2,R2,hok,hi,hm,hO⟩
 rw [t11_4]
 dsimp only at hO ⊢
 refine cl_i (next_rd R2 hi hs) ?_
 rintro e w3 ⟨T3,hx⟩
 have h3 : Ch No w0 w3 := R2.from_ hb.symm h2 T3
 cases hl : lexB s.size (rest s i) with
 | error c =>
  rw [hl] at hx
  have hpos := lexB_pos hl
  have hst : stepM s.size ⟨want,⟨rest s i,none,d⟩,σ,ω⟩ = .error c := by
   unfold stepM peekB
   dsimp only
   rw [hl]
  have hr := out_e hst hO
  obtain ⟨c,a⟩ := c
  have hpos : c ≠ 0 := hpos
  obtain ⟨⟨k,n,t,rfl⟩,j,R3⟩ := hx
  refine ⟨((k,(a : Int),n,t,()),(c : Int),()),rfl,tk_new fun n6 w4 h4 hn n6b => ?_⟩
  refine cutr_i mixed s11_7 (fun _ _ => False) (fun v w' => RdRes s.data.toList w0 v w') (by kernel_rfl) (by kernel_rfl) (fun g => ?_) (fun v g w' h => h.elim) (fun v g w' h => ⟨v,rfl,fun g => ⟨v,rfl,h⟩⟩)
  rw [t11_7]
  refine br_true (bne_iff_ne.2 (fun h => hpos (by have h : (c : Int) = 0 := h; omega))) (dr_eq (lq_int ((n6b.ch (Ch.refl No w4).drew (fun h => h)).cell 1) (un_eq ?_)))
  exact ⟨((none,0,0),(c : Int),(a : Int),()),rfl,bad c a _ ((h3.trans h4).trans (Ch.refl No w4).drew) hr hpos⟩
 | ok z =>
  rw [hl] at hx
  obtain ⟨t,r⟩ := z
  obtain ⟨rfl,htk,j,hj,hrj,R3⟩ := hx
  have hk4 := lexB_kind hl
  have hll := lexB_len hl
  refine ⟨((kd3 t.kind,(t.at_ : Int),(t.num : Int),bytesL t.text,()),0,()),rfl,tk_new fun n6 w4 h4 hn n6b => ?_⟩
  have R4 := R3.no h4
  have hz3 := T3.ch.size
  have hnB : ¬ B n6 := fun h => by have := (R3.bnd n6 h).2; omega
  have h04 := h3.trans h4
  refine cutr_i mixed s11_7 (fun _ w' => w' = w4) (fun v w' => False) (by kernel_rfl) (by kernel_rfl) (fun g => ?_) ?_ (fun v g w' h => h.elim)
  ·rw [t11_7]
   exact br_false rfl ⟨(),rfl,rfl⟩
  rintro ⟨⟩ g w5 rfl
  have hst : stepM s.size ⟨want,⟨rest s i,none,d⟩,σ,ω⟩ = if t.kind = 0 then (if want = true then .error (36,t.at_) else match backM σ ω with
     | ([],ω) => .ok (.inl ω)
     | _ => .error (36,t.at_))
    else if want = true then operandM s.size t ⟨rest s j,none,d⟩ σ ω
    else behindM t ⟨rest s j,none,d⟩ σ ω := by
   unfold stepM peekB
   dsimp only
   rw [hl,hrj]
   rfl
  refine cutr_i mixed s11_10 (fun _ w' => w' = w5 ∧ t.kind ≠ 0) (fun v w' => RdRes s.data.toList w0 v w') (by kernel_rfl) (by kernel_rfl) (fun g => ?_) ?_ (fun v g w' h => ⟨v,rfl,fun g => ⟨v,rfl,h⟩⟩)
  ·rw [t11_10]
   refine ld_int (n6b.cell 0) (br_both (fun e => ?_) fun e => ⟨(),rfl,rfl,fun h => eq_f e ((kd_0 hk4).2 h)⟩)
   have hk0 : t.kind = 0 := (kd_0 hk4).1 (eq_t e)
   rw [if_pos hk0] at hst
   refine cutr_i mixed s11_12 (fun _ w' => w' = w5 ∧ want = false) (fun v w' => RdRes s.data.toList w0 v w') (by kernel_rfl) (by kernel_rfl) (fun g => ?_) ?_ (fun v g w' h => ⟨v,rfl,h⟩)
   ·rw [t11_12]
    refine br_both (fun e => ?_) fun e => ⟨(),rfl,rfl,e⟩
    have e : want = true := e
    rw [if_pos e] at hst
    refine dr_eq (lq_int ((n6b.ch (Ch.refl No w5).drew (fun h => h)).cell 1) (un_eq ?_))
    exact ⟨((none,0,0),((36 : Nat) : Int),(t.at_ : Int),()),rfl,bad 36 t.at_ _ (h04.trans (Ch.refl No w5).drew) (out_e hst hO) (by decide)⟩
   rintro ⟨⟩ g w6 ⟨rfl,hwf⟩
   rw [if_neg (by rw [hwf]; decide)] at hst
   refine cl_i (back_any w6 B b b s j σ ω d R4 (by omega)) ?_
   rintro e w7 ⟨rfl,B7,T7,R7⟩
   have hlow := back_low σ ω
   have hK := ok_back σ ω hok
   generalize backM σ ω = z at *
   obtain ⟨σ1,ω1⟩ := z
   dsimp only at R7 hlow hst hK
   have h07 : Ch No w0 w7 := R4.from_ hb.symm h04 T7
   refine ⟨(bytesL (topM σ1).op,(topM σ1).lv,((topM σ1).cnt : Int),()),rfl,op_new fun n16 w8 h8 hn8 n16b => ?_⟩
   have R8 := R7.no h8
   have h08 := h07.trans h8
   have n6c := (n6b.ch T7.ch hnB).ch h8 (fun h => h)
   refine ld_str (n16b.cell 0) ?_
   simp only [tb_list]
   refine br_both (fun e => ?_) fun e => ?_
   ·have e : ¬ (topM σ1).op = [] := by simpa using e
    have hst2 : stepM s.size ⟨want,⟨rest s i,none,d⟩,σ,ω⟩ = .error (36,t.at_) := by
     rw [hst]
     cases σ1 with
     | nil => exact absurd rfl e
     | cons o σ2 => rfl
    refine dr_eq (lq_int ((n6c.ch (Ch.refl No w8).drew (fun h => h)).cell 1) (un_eq ?_))
    exact ⟨((none,0,0),((36 : Nat) : Int),(t.at_ : Int),()),rfl,bad 36 t.at_ _ (h08.trans (Ch.refl No w8).drew) (out_e hst2 hO) (by decide)⟩
   ·have e : (topM σ1).op = [] := by simpa using e
    cases σ1 with
    | cons o σ2 => exact absurd e (hK.each o (.head _)).2.2.2
    | nil =>
     have hr := out_f hst hO
     obtain ⟨pS,nS,cS,pO,nO,cO,hS',hO',hB8,rS,rO⟩ := R8.mem
     refine ld_sl (Blk.cell hB8 2) ⟨((pS,nS,cS),0,0,()),rfl,fin _ _ ⟨h08,?_⟩⟩
     rw [hr]
     exact ⟨rfl,by rw [hb]; exact rS⟩
  rintro ⟨⟩ g w6 ⟨rfl,hk0⟩
  rw [if_neg hk0] at hst
  have hij : i < j := by
   rcases hll with ⟨h,-⟩ | ⟨-,h⟩
   ·exact absurd h hk0
   ·rw [hrj,restL,restL] at h
    omega
  -- one round more
  have again : ∀ (r : Res) (cl : Bool) (x : Int) (wn : Bool) (w' : World),stepM s.size ⟨want,⟨rest s i,none,d⟩,σ,ω⟩ = r → PostM B b b s j (σ.length + ω.length) cl t w6 r (.returned (.tuple #[.int .i64 x,.bool wn])) w' →
    (x = 0 ∧ (∃ B i σ ω d,Ch No w0 w' ∧ Rd B b w' b s i σ ω d ∧ OkO σ d ∧ i ≤ s.size ∧ σ.length + ω.length ≤ i ∧ Out s.size ⟨wn,⟨rest s i,none,d⟩,σ,ω⟩ res) ∧ s.size - placeR b w' < s.size - placeR b w2) ∨
    (x ≠ 0 ∧ Ch No w0 w' ∧ ∃ c a : Nat,x = (c : Int) ∧ res = .error (c,a) ∧ (if cl = true then ∃ B σ ω d,Rd B b w' b s a σ ω d else a = t.at_)) := fun r cl x wn w' hs' hp => by
   obtain ⟨B',T',hx⟩ := hp
   have h0' : Ch No w0 w' := R4.from_ hb.symm h04 T'
   cases r with
   | error c =>
    obtain ⟨⟨wn',he⟩,hc,hcl⟩ := hx
    simp only [Ending.returned.injEq,Value.tuple.injEq,Array.mk.injEq,List.cons.injEq,Value.int.injEq,true_and] at he
    refine .inr ⟨by omega,h0',c.1,c.2,he.1,out_e hs' hO,?_⟩
    cases cl
    ·rw [if_neg (by decide)] at hcl ⊢
     exact hcl
    ·rw [if_pos rfl] at hcl ⊢
     obtain ⟨σ',ω',d',h⟩ := hcl
     exact ⟨B',σ',ω',d',h⟩
   | ok z =>
    cases z with
    | inl l => exact hx.elim
    | inr ms =>
     obtain ⟨wn',⟨l',tok',op'⟩,σ',ω'⟩ := ms
     obtain ⟨he,k1,k2,k3,j',k4,k5,k6,k7⟩ := hx
     dsimp only at he k1 k2 k3 k6 k7
     simp only [Ending.returned.injEq,Value.tuple.injEq,Array.mk.injEq,List.cons.injEq,Value.int.injEq,Value.bool.injEq,true_and,and_true] at he
     obtain ⟨rfl,rfl⟩ := he
     subst k1 k6
     refine .inl ⟨rfl,⟨B',j',σ',ω',op',h0',k7,k2,k5,by omega,out_g hs' hO⟩,?_⟩
     rw [k7.place,R2.place]
     omega
  refine ld_int (n6b.cell 1) (br_both (fun e => ?_) fun e => ?_)
  ·have e : want = true := e
   rw [if_pos e] at hst
   refine cut_i mixed s11_23 (fun (v : Bool × Unit) w' => w' = w6 ∧ v.1 = isCall t) (by kernel_rfl) (fun g => ?_) ?_
   ·rw [t11_23]
    refine ld_int (n6b.cell 0) (br_both (fun e => ?_) fun e => ⟨rfl,(false,()),rfl,rfl,?_⟩)
    ·have e : t.kind = 2 := (kd_2 _).1 (eq_t e)
     refine ld_str (n6b.cell 3) (cl_i (takes_any w6 _) ?_)
     rintro e' w7 ⟨rfl,rfl⟩
     refine ⟨_,rfl,rfl,(_,()),rfl,rfl,?_⟩
     rw [tb_data]
     unfold isCall
     rw [decide_eq_true e,Bool.true_and]
     show decide (((takesM t.text : Nat) : Int) > 0) = _
     rw [Bool.eq_iff_iff,decide_eq_true_eq,← takes_pos]
     omega
    ·have e : ¬ t.kind = 2 := fun h => eq_f e ((kd_2 _).2 h)
     exact (call_no (.inl e)).symm
   rintro ⟨cl,⟨⟩⟩ g w7 ⟨rfl,hcl⟩
   dsimp only at hcl
   subst hcl
   refine ld_int (n6b.cell 0) (ld_int (n6b.cell 1) (ld_int (n6b.cell 2) (ld_str (n6b.cell 3) (cl_i (operand_any w7 B b b s j σ ω d t R4 hj hs hok (by omega) hk0 hk4) ?_))))
   rintro e' w8 hp
   obtain ⟨x,wn,rfl⟩ : ∃ x wn,e' = .returned (.tuple #[.int .i64 x,.bool wn]) := by
    obtain ⟨B',T',hx⟩ := hp
    generalize operandM s.size t ⟨rest s j,none,d⟩ σ ω = rr at hx
    cases rr with
    | error c => obtain ⟨⟨wn,he⟩,_⟩ := hx; exact ⟨_,_,he⟩
    | ok z =>
     cases z with
     | inl l => exact hx.elim
     | inr ms => exact ⟨_,_,hx.1⟩
   refine ⟨(x,wn,()),rfl,?_⟩
   rcases again _ _ x wn w8 hst hp with ⟨hx0,hinv,hmeas⟩ | ⟨hx0,h08,c,a,hxc,hres',hpl⟩
   ·subst hx0
    refine cut_i mixed s11_33 (fun (v : Bool × Unit) w' => w' = w8 ∧ v.1 = false) (by kernel_rfl) (fun g => ?_) ?_
    ·rw [t11_33]
     exact br_both (fun e => ⟨rfl,((0 : Int) != 0,()),rfl,rfl,rfl⟩) fun e => ⟨rfl,(false,()),rfl,rfl,rfl⟩
    rintro ⟨u,⟨⟩⟩ g w9 ⟨rfl,hu⟩
    dsimp only at hu
    subst hu
    refine br_false rfl (br_false rfl ⟨(wn,()),rfl,hinv,hmeas⟩)
   ·refine cut_i mixed s11_33 (fun (v : Bool × Unit) w' => w' = w8 ∧ v.1 = isCall t) (by kernel_rfl) (fun g => ?_) ?_
    ·rw [t11_33]
     refine br_both (fun e => ⟨rfl,(x != 0,()),rfl,rfl,?_⟩) fun e => ⟨rfl,(false,()),rfl,rfl,?_⟩
     ·have e : isCall t = true := e
      rw [e]
      exact bne_iff_ne.2 hx0
     ·exact (show isCall t = false from e).symm
    rintro ⟨u,⟨⟩⟩ g w9 ⟨rfl,hu⟩
    dsimp only at hu
    subst hu
    refine br_both (fun e => ?_) fun e => ?_
    ·have e : isCall t = true := e
     rw [if_pos e] at hpl
     obtain ⟨B9,σ9,ω9,d9,R9⟩ := hpl
     obtain ⟨pS,nS,cS,pO,nO,cO,hS',hO',hB9,rS,rO⟩ := R9.mem
     refine ld_int (Blk.cell hB9 1) (br_true (bne_iff_ne.2 hx0) ?_)
     exact ⟨((none,0,0),x,(a : Int),()),rfl,fun g => ⟨_,rfl,by rw [hxc]; exact bad c a _ h08 hres' (by omega)⟩⟩
    ·have e : isCall t = false := e
     rw [if_neg (by rw [e]; decide)] at hpl
     subst hpl
     refine br_true (bne_iff_ne.2 hx0) ?_
     exact ⟨((none,0,0),x,(t.at_ : Int),()),rfl,fun g => ⟨_,rfl,by rw [hxc]; exact bad c t.at_ _ h08 hres' (by omega)⟩⟩
  ·have e : want = false := e
   rw [if_neg (by rw [e]; decide)] at hst
   refine ld_int (n6b.cell 0) (ld_int (n6b.cell 1) (ld_int (n6b.cell 2) (ld_str (n6b.cell 3) (cl_i (behind_any w6 B b b s j σ ω d t htk R4 hj hok (by omega)) ?_))))
   rintro e' w8 hp
   obtain ⟨x,wn,rfl⟩ : ∃ x wn,e' = .returned (.tuple #[.int .i64 x,.bool wn]) := by
    obtain ⟨B',T',hx⟩ := hp
    generalize behindM t ⟨rest s j,none,d⟩ σ ω = rr at hx
    cases rr with
    | error c => obtain ⟨⟨wn,he⟩,_⟩ := hx; exact ⟨_,_,he⟩
    | ok z =>
     cases z with
     | inl l => exact hx.elim
     | inr ms => exact ⟨_,_,hx.1⟩
   refine ⟨(x,wn,()),rfl,?_⟩
   rcases again _ _ x wn w8 hst hp with ⟨hx0,hinv,hmeas⟩ | ⟨hx0,h08,c,a,hxc,hres',hpl⟩
   ·subst hx0
    exact br_false rfl ⟨(wn,()),rfl,hinv,hmeas⟩
   ·rw [if_neg (by decide)] at hpl
    subst hpl
    refine br_true (bne_iff_ne.2 hx0) ?_
    exact ⟨((none,0,0),x,(t.at_ : Int),()),rfl,fun g => ⟨_,rfl,by rw [hxc]; exact bad c t.at_ _ h08 hres' (by omega)⟩⟩
/-- Check, as the document has it. -/
theorem check3_any (w : World) (s : ByteArray) : Calls Tryz.prog 6 #[.string s] w fun e w' => Ch No w w' ∧ match readM s.data.toList with
  | .error c => e = .returned (.tuple #[.int .i64 0,.int .i64 (c.2 : Nat),.int .i64 (c.1 : Nat)]) ∧ c.1 ≠ 0
  | .ok _ => e = .returned (.tuple #[.int .i64 0,.int .i64 0,.int .i64 0]) := by
 refine calls_of_fnT mixed Tryz.func6 (s := s6) ?_
 rw [t6]
 refine cl_i (read_all w s) ?_
 rintro e w1 ⟨v,rfl,h1,hx⟩
 refine ⟨v,rfl,h1,?_⟩
 cases hr : readM s.data.toList with
 | error c => rw [hr] at hx; rw [hx.1]; exact ⟨rfl,hx.2⟩
 | ok x => rw [hr] at hx; rw [hx.1]
end Go.Proofs.YtmdmomccibpjbaaGreatDoor.E
