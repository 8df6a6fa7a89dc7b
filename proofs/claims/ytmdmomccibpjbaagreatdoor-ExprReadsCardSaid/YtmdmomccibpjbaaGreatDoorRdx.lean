/- Print: a value's text. What reads a value's text, plainly: numerals and quoted texts told again; the reader as a model on lists of bytes, its faults and all. -/
import Derived.Test.YtmdmomccibpjbaaGreatDoorFit
import Derived.Lib.ItoaLen
import Derived.Lib.AppendIntMem
import Derived.Lib.MapLaws
import Derived.Lib.QuoteLoop
namespace Go.Proofs.YtmdmomccibpjbaaGreatDoor
open Go Tr
open Go.Lib (byteCells strCells)
open Go.RowKit (Below)
set_option maxRecDepth 100000
/-! ### The tables -/
def Tabs (w : World) : Prop := Lib.Utf8Tabs 5 6 w ∧ Lib.TabIs Tryz.prog w "internal/strconv.uint64pow10" .u64 Lib.pow10Tab
theorem few_globals : (Tryz.prog.globalNamed "internal/strconv.uint64pow10").any (fun g => decide (g < 10)) = true := by kernel_rfl
theorem Tabs.ch {w w' : World} {base : Nat} (h : Tabs w) (hc : Ch (base ≤ ·) w w') (hb : 10 ≤ base) : Tabs w' := by
 refine ⟨Tabs_ch h.1 hc (by omega),?_⟩
 have h2 := h.2
 have hf := few_globals
 unfold Lib.TabIs World.var? at h2 ⊢
 cases hg : Tryz.prog.globalNamed "internal/strconv.uint64pow10" with
 | none => rw [hg] at h2; cases h2
 | some g =>
  rw [hg] at h2 hf
  simp only [Option.any_some,decide_eq_true_eq] at hf
  simp only [Option.bind_some] at h2 ⊢
  have hlt : g < w.heap.size := by
   rcases Nat.lt_or_ge g w.heap.size with h' | h'
   ·exact h'
   ·rw [Array.getElem?_eq_none h'] at h2; cases h2
  rw [hc.block g hlt (fun (h : base ≤ g) => by omega)]
  exact h2
theorem Tabs.no {w w' : World} (h : Tabs w) (hc : Ch No w w') : Tabs w' := h.ch (base := w.heap.size + 10) (hc.mono fun _ h => h.elim) (by omega)
/-! the tree of function 31 -/
def s31 : Script := .cl (.one (.leaf .str)) .nil
theorem t31 (qx0 : Int) (qx1 : Int) : fnT Tryz.prog Tryz.f31 #[.int .i64 qx0,.int .i64 qx1] s31 = .call 61 #[.int .i64 qx0,.int .i64 qx1] (.one (.leaf .str)) (fun s1 => .done (.returned (.string s1))) := by kernel_rfl
/-! the tree of function 62 -/
abbrev fx62_11 (qa0 : Addr) (l10 : Option Addr × Nat × Nat) : List (Tmp × Value) := [(0,.pointer (some qa0)),(30,.slice l10.1 l10.2.1 l10.2.2),(31,.int .i64 (↑l10.snd.fst : Int))]
abbrev m62_11 : List (Tmp × Comp) := [(32,.leaf (.int .i64))]
abbrev mx62_11 : List (Tmp × Comp) := []
abbrev mr62_11 : List (Tmp × Comp) := []
def s62_11 : Script := .sym (.ix (.ld (.int .i64) (.ld (.int .i64) (.ld .str (.ld .sl (.sym (.cl (.tup [.leaf (.int .i64),.leaf .any]) (.ld (.int .i64) (.ld (.int .i64) (.ld .str (.ld .sl (.cl (.tup []) .nil)))))) (.ld (.int .i64) (.ld (.int .i64) (.ld .str (.ld .sl (.cl (.tup []) .nil))))))))))) .nil
theorem t62_11 (qa0 : Addr) (l10 : Option Addr × Nat × Nat) (x_32 : Int) (gg11 : Nat → Value) : pieceT Tryz.prog (at_ Tryz.f62 [1,1,0,1,1,1,1,1,1,1,0,1,0,1,0,0]) 47 (fx62_11 qa0 l10 ++ mvals m62_11 (x_32,())) gg11 (m62_11.map (·.1)) (mx62_11.map (·.1)) (mr62_11.map (·.1)) s62_11 = .br (Decidable.decide (x_32 < (↑l10.snd.fst : Int))) (.idx l10.1 x_32 l10.2.1 4 (fun a12 => .load a12 (.int .i64) (fun x13 => .load (a12.add 1) (.int .i64) (fun x14 => .load (a12.add 2) .str (fun s15 => .load (a12.add 3) .sl (fun l16 => .new (.cells #[.int .i64 0,.int .i64 0,.string (bytesL []),.slice none 0 0] 94 (0,0)) (fun n17 => .store ⟨n17,0,none⟩ (.int .i64 x13) (.store ⟨n17,1,none⟩ (.int .i64 x14) (.store ⟨n17,2,none⟩ (.string s15) (.store ⟨n17,3,none⟩ (.slice l16.1 l16.2.1 l16.2.2) (.br (Decidable.decide (x_32 > 0)) (.call 28 #[.pointer (some qa0),.string (bytesL [44,32])] (.tup [.leaf (.int .i64),.leaf .any]) (fun r18 => .load ⟨n17,0,none⟩ (.int .i64) (fun x19 => .load ⟨n17,1,none⟩ (.int .i64) (fun x20 => .load ⟨n17,2,none⟩ .str (fun s21 => .load ⟨n17,3,none⟩ .sl (fun l22 => .call 62 #[.pointer (some qa0),.agg #[.int .i64 x19,.int .i64 x20,.string s21,.slice l22.1 l22.2.1 l22.2.2]] (.tup []) (fun r23 => .fin .normal [(32,.int .i64 (IntKind.i64.wrap (x_32 + 1)))]))))))) (.load ⟨n17,0,none⟩ (.int .i64) (fun x24 => .load ⟨n17,1,none⟩ (.int .i64) (fun x25 => .load ⟨n17,2,none⟩ .str (fun s26 => .load ⟨n17,3,none⟩ .sl (fun l27 => .call 62 #[.pointer (some qa0),.agg #[.int .i64 x24,.int .i64 x25,.string s26,.slice l27.1 l27.2.1 l27.2.2]] (.tup []) (fun r28 => .fin .normal [(32,.int .i64 (IntKind.i64.wrap (x_32 + 1)))]))))))))))))))))) (.fin (.exit 1) []) := by kernel_rfl
def s62 : Script := .ld (.int .i64) (.sym (.cl (.tup [.leaf (.int .i64),.leaf .any]) .nil) (.sym (.ld (.int .i64) (.cl (.one (.leaf .str)) (.cl (.tup [.leaf (.int .i64),.leaf .any]) .nil))) (.sym (.ld .str (.cl (.tup []) .nil)) (.sym (.cl (.one (.leaf .any)) (.ld .sl (.lp 1 [0,30,31] [32] mx62_11 mr62_11 (.cl (.one (.leaf .any)) .nil) .nil))) .nil))))
theorem t62 (qa0 : Addr) (qx1_0 : Int) (qx1_1 : Int) (qs1_2 : ByteArray) (qa1_3 : Option Addr) (qn1_3 : Nat) (qc1_3 : Nat) : fnT Tryz.prog Tryz.f62 #[.pointer (some qa0),.agg #[.int .i64 qx1_0,.int .i64 qx1_1,.string qs1_2,.slice qa1_3 qn1_3 qc1_3]] s62 = .new (.cells #[.int .i64 qx1_0,.int .i64 qx1_1,.string qs1_2,.slice qa1_3 qn1_3 qc1_3] 94 (0,0)) (fun n1 => .load ⟨n1,0,none⟩ (.int .i64) (fun x2 => .br (x2 == 0) (.call 28 #[.pointer (some qa0),.string (bytesL [110,111,110,101])] (.tup [.leaf (.int .i64),.leaf .any]) (fun r3 => .done (.returned (.tuple #[])))) (.br (x2 == 1) (.load ⟨n1,1,none⟩ (.int .i64) (fun x4 => .call 31 #[.int .i64 x4,.int .i64 10] (.one (.leaf .str)) (fun s5 => .call 28 #[.pointer (some qa0),.string s5] (.tup [.leaf (.int .i64),.leaf .any]) (fun r6 => .done (.returned (.tuple #[])))))) (.br (x2 == 2) (.load ⟨n1,2,none⟩ .str (fun s7 => .call 81 #[.pointer (some qa0),.string s7] (.tup []) (fun r8 => .done (.returned (.tuple #[]))))) (.br (x2 == 3) (.call 27 #[.pointer (some qa0),.int .u8 91] (.one (.leaf .any)) (fun v9 => .load ⟨n1,3,none⟩ .sl (fun l10 => .loop (at_ Tryz.f62 [1,1,0,1,1,1,1,1,1,1,0,1,0,1,0,0]) 47 (fx62_11 qa0 l10) [(32,.int .i64 0)] mx62_11 mr62_11 1 (fun u29 g29 => .call 27 #[.pointer (some qa0),.int .u8 93] (.one (.leaf .any)) (fun v30 => .done (.returned (.tuple #[])))) (fun u31 g31 => .stuck)))) (.done (.returned (.tuple #[])))))))) := by kernel_rfl
/-! the tree of function 33 -/
def s33 : Script := .ld (.int .i64) (.ld (.int .i64) (.ld .str (.ld .sl (.cl (.one (.agg [.int .i64,.int .i64,.str,.sl])) (.cl (.tup []) (.cl (.one (.leaf .str)) .nil))))))
theorem t33 (qx0_0 : Int) (qx0_1 : Int) (qs0_2 : ByteArray) (qa0_3 : Option Addr) (qn0_3 : Nat) (qc0_3 : Nat) : fnT Tryz.prog Tryz.f33 #[.agg #[.int .i64 qx0_0,.int .i64 qx0_1,.string qs0_2,.slice qa0_3 qn0_3 qc0_3]] s33 = .new (.cells #[.int .i64 qx0_0,.int .i64 qx0_1,.string qs0_2,.slice qa0_3 qn0_3 qc0_3] 94 (0,0)) (fun n1 => .new (.cells #[.pointer none,.slice none 0 0] 78 (0,0)) (fun n2 => .load ⟨n1,0,none⟩ (.int .i64) (fun x3 => .load ⟨n1,1,none⟩ (.int .i64) (fun x4 => .load ⟨n1,2,none⟩ .str (fun s5 => .load ⟨n1,3,none⟩ .sl (fun l6 => .call 63 #[.agg #[.int .i64 x3,.int .i64 x4,.string s5,.slice l6.1 l6.2.1 l6.2.2]] (.one (.agg [.int .i64,.int .i64,.str,.sl])) (fun r7 => .call 62 #[.pointer (some ⟨n2,0,none⟩),.agg #[.int .i64 r7.1,.int .i64 r7.2.1,.string r7.2.2.1,.slice r7.2.2.2.1.1 r7.2.2.2.1.2.1 r7.2.2.2.1.2.2]] (.tup []) (fun r8 => .call 29 #[.pointer (some ⟨n2,0,none⟩)] (.one (.leaf .str)) (fun s9 => .done (.returned (.string s9))))))))))) := by kernel_rfl
theorem format_any (i : Int) (h : Rng i) (w : World) (hT : Tabs w) : Calls Tryz.prog 31 #[.int .i64 i,.int .i64 10] w fun e w' => e = .returned (.string ⟨(Lib.itoa i).toArray⟩) ∧ Ch No w w' := by
 refine calls_of_fnT mixed Tryz.func31 (s := s31) ?_
 rw [t31]
 refine cl_i (Tryz.internal_strconv_FormatInt_10 i h.1 h.2 w hT.2) ?_
 rintro e w' ⟨rfl,k,os,rfl⟩
 exact ⟨_,rfl,rfl,Ch.of_below (Lib.below_grow w.heap.size w (Nat.le_refl _) k os)⟩
/-! ### What is printed -/
mutual
def printV : VT → List UInt8
 | .mk k i s l => if k = 0 then [110,111,110,101] else if k = 1 then Lib.itoa i else if k = 2 then quoteB s else if k = 3 then 91 :: (printL l ++ [93]) else []
def printL : List VT → List UInt8
 | [] => []
 | x :: r => printV x ++ printT r
def printT : List VT → List UInt8
 | [] => []
 | x :: r => [44,32] ++ printV x ++ printT r
end
theorem printV_def (x : VT) : printV x = (if x.kind = 0 then [110,111,110,101] else if x.kind = 1 then Lib.itoa x.int else if x.kind = 2 then quoteB x.text else if x.kind = 3 then 91 :: (printL x.items ++ [93]) else []) := by cases x; simp only [printV]; rfl
theorem printT_app (a b : List VT) : printT (a ++ b) = printT a ++ printT b := by
 induction a with
 | nil => simp [printT]
 | cons x r ih => simp [printT,ih,List.append_assoc]
theorem printL_take {l : List VT} {i : Nat} {x : VT} (hx : l[i]? = some x) : printL (l.take (i + 1)) = printL (l.take i) ++ (if i > 0 then [44,32] else []) ++ printV x := by
 cases l with
 | nil => simp at hx
 | cons y r =>
  cases i with
  | zero => simp at hx; subst hx; simp [printL,printT]
  | succ i =>
   have hx' : r[i]? = some x := by simpa using hx
   rw [List.take_succ_cons,List.take_succ_cons]
   simp only [printL]
   rw [List.take_add_one,printT_app,hx']
   simp [printT,List.append_assoc]
mutual
/-- No more than so many bytes are written. -/
def costV : VT → Nat
 | .mk _ _ s l => 4 * s.size + 30 + costL l
def costL : List VT → Nat
 | [] => 0
 | x :: r => costV x + 2 + costL r
end
theorem costV_def (x : VT) : costV x = 4 * x.text.size + 30 + costL x.items := by cases x; simp only [costV]; rfl
theorem quoteF_len (s : ByteArray) : ∀ (k pos : Nat),(quoteF s k pos).length ≤ 4 * (s.size - pos)
 | 0,_ => by simp [quoteF]
 | k + 1,pos => by
  simp only [quoteF]
  by_cases hp : pos < s.size
  ·rw [if_pos hp,List.length_append]
   have h1 := Lib.decode_width_pos s pos hp
   have h2 := (decode_in s pos hp).2
   have h3 := quoteF_len s k (pos + (Utf8.decode s pos).2)
   have h4 := pieceQ_len s pos (Utf8.decode s pos).1 (Utf8.decode s pos).2 h1
   omega
  ·rw [if_neg hp]; simp
theorem quoteB_len (s : ByteArray) : (quoteB s).length ≤ 4 * s.size + 2 := by
 have := quoteF_len s s.size 0
 simp only [quoteB,List.length_cons,List.length_append,List.length_nil]
 omega
theorem print_len (k : Nat) : ∀ (x : VT),SizeOf.sizeOf x < k → Fit x → (printV x).length ≤ costV x := by
 induction k with
 | zero => intro x h; omega
 | succ k ih =>
  intro x hk hf
  have hT : ∀ (l : List VT),(∀ z ∈ l,SizeOf.sizeOf z < k) → FitL l → (printT l).length ≤ costL l := by
   intro l
   induction l with
   | nil => intro _ _; simp [printT,costL]
   | cons z r ihl =>
    intro hz hf
    simp only [FitL] at hf
    have h1 := ih z (hz z (.head _)) hf.1
    have h2 := ihl (fun u hu => hz u (.tail _ hu)) hf.2
    simp only [printT,costL,List.length_append,List.length_cons,List.length_nil]
    omega
  have hz : ∀ z ∈ x.items,SizeOf.sizeOf z < k := fun z hz => by
   obtain ⟨i,hi⟩ := List.getElem?_of_mem hz
   have := VT.size_lt hi
   omega
  rw [Fit_def] at hf
  rw [printV_def,costV_def]
  split
  ·simp; omega
  split
  ·have := Lib.itoa_length_le x.int hf.2.1.1 hf.2.1.2
   omega
  split
  ·have := quoteB_len x.text
   omega
  split
  ·have hL : (printL x.items).length ≤ costL x.items := by
    cases hi : x.items with
    | nil => simp [printL]
    | cons z r =>
     rw [hi] at hf hz
     have h1 := ih z (hz z (.head _)) (by have := hf.2.2.2; simp only [FitL] at this; exact this.1)
     have h2 := hT r (fun u hu => hz u (.tail _ hu)) (by have := hf.2.2.2; simp only [FitL] at this; exact this.2)
     simp only [printL,costL,List.length_append]
     omega
   simp only [List.length_cons,List.length_append,List.length_nil]
   omega
  ·simp
theorem costL_take {l : List VT} {i : Nat} {x : VT} (hx : l[i]? = some x) : costL (l.take (i + 1)) = costL (l.take i) + costV x + 2 := by
 have key : ∀ (a b : List VT),costL (a ++ b) = costL a + costL b := fun a b => by
  induction a with
  | nil => simp [costL]
  | cons y r ih => simp [costL,ih]; omega
 rw [List.take_add_one,key,hx]
 simp [costL]; omega
theorem costL_le {l : List VT} (i : Nat) : costL (l.take i) ≤ costL l := by
 have key : ∀ (a b : List VT),costL (a ++ b) = costL a + costL b := fun a b => by
  induction a with
  | nil => simp [costL]
  | cons y r ih => simp [costL,ih]; omega
 conv => rhs; rw [← List.take_append_drop i l]
 rw [key]; omega
set_option maxHeartbeats 1000000 in
theorem print1_any (k : Nat) : ∀ (x : VT) (p : Option Addr) (m c : Nat) (w0 w : World) (base b : Nat) (q : Option Addr) (n d : Nat) (bs : List UInt8),SizeOf.sizeOf x < k → IsV w0 x p m c → Fit x → Ch No w0 w → w0.heap.size ≤ base → 10 ≤ base → Bld base w b q n d bs → base ≤ w.heap.size → Tabs w → n + costV x + 6 ≤ 140737488355328 →
  Calls Tryz.prog 62 #[.pointer (some ⟨b,0,none⟩),valV x p m c] w fun e w' => e = .returned (.tuple #[]) ∧ ∃ q' n' d',GrewW base b w q n d w' q' n' d' (bs ++ printV x) := by
 induction k with
 | zero => intro x p m c w0 w base b q n d bs h; omega
 | succ k ih =>
  intro x p m c w0 w base b q n d bs hk hx hf h0w hlo h7g hb hbw hT hsz
  refine calls_of_fnT mixed Tryz.func62 (s := s62) ?_
  unfold valV
  rw [t62]
  rw [Fit_def] at hf
  rw [costV_def] at hsz
  refine nw fun w1 h1 z1 b1 => ?_
  have B1 := hb.no h1
  have hb1 : base ≤ w1.heap.size := by omega
  have T1 := hT.no h1
  refine ld_int (b1.cell 0) (br_both (fun e => ?_) fun e => ?_)
  ·have e : x.kind = 0 := by simpa using e
   refine cl_i (writeString_any base b w1 q n d bs (bytesL [110,111,110,101]) B1 hb1 (by show n + 4 ≤ _; omega)) ?_
   rintro e' w2 ⟨rfl,q2,n2,d2,g2⟩
   refine ⟨((4 : Int),.nilIface,()),rfl,rfl,q2,n2,d2,?_⟩
   rw [printV_def,if_pos e]
   exact GrewW.after h1 g2
  have e0 : ¬ x.kind = 0 := by simpa using e
  refine br_both (fun e => ?_) fun e => ?_
  ·have e : x.kind = 1 := by simpa using e
   refine ld_int (b1.cell 1) (cl_i (format_any x.int hf.2.1 w1 T1) ?_)
   rintro e' w2 ⟨rfl,h2⟩
   have hl := Lib.itoa_length_le x.int hf.2.1.1 hf.2.1.2
   refine ⟨_,rfl,cl_i (writeString_any base b w2 q n d bs ⟨(Lib.itoa x.int).toArray⟩ (B1.no h2) (Nat.le_trans hb1 h2.size) (by show n + (Lib.itoa x.int).toArray.size ≤ _; rw [List.size_toArray]; omega)) ?_⟩
   rintro e' w3 ⟨rfl,q3,n3,d3,g3⟩
   refine ⟨(_,.nilIface,()),rfl,rfl,q3,n3,d3,?_⟩
   rw [printV_def,if_neg e0,if_pos e]
   exact GrewW.after (h1.trans h2) g3
  have e1 : ¬ x.kind = 1 := by simpa using e
  refine br_both (fun e => ?_) fun e => ?_
  ·have e : x.kind = 2 := by simpa using e
   refine ld_str (b1.cell 2) (cl_i (quote_any base b w1 q n d bs x.text B1 hb1 (by omega) T1.1 (by omega)) ?_)
   rintro e' w2 ⟨rfl,q2,n2,d2,g2⟩
   refine ⟨(),rfl,rfl,q2,n2,d2,?_⟩
   rw [printV_def,if_neg e0,if_neg e1,if_pos e]
   exact GrewW.after h1 g2
  have e2 : ¬ x.kind = 2 := by simpa using e
  refine br_both (fun e => ?_) fun e => ⟨rfl,q,n,d,?_⟩
  ·have e3 : x.kind = 3 := by simpa using e
   refine cl_i (writeByte_any base b w1 q n d bs 91 B1 hb1 (by omega)) ?_
   rintro e' w2 ⟨rfl,q2,n2,d2,g2⟩
   refine ⟨.nilIface,rfl,?_⟩
   have b2 := g2.blk B1 b1 (by decide) (by decide)
   have G2 := GrewW.after h1 g2
   refine ld_sl (b2.cell 3) ?_
   have hlen := RIt_len hx.its
   have hcap := hx.cap
   have hbig := hx.big
   refine loop_i mixed m62_11 s62_11 (by kernel_rfl) (by kernel_rfl)
    (fun (v : Int × Unit) w' => 0 ≤ v.1 ∧ v.1 ≤ m ∧ ∃ q' n' d',GrewW base b w q n d w' q' n' d' (bs ++ 91 :: printL (x.items.take v.1.toNat)) ∧ n' ≤ n + 1 + costL (x.items.take v.1.toNat)) (fun (v : Int × Unit) _ => m - v.1.toNat) (0,()) rfl
    ⟨by simp,by simp,q2,n2,d2,by simpa [printL] using G2,by
     have := g2.bld.len
     have := hb.len
     simp only [List.length_append,List.length_cons,List.length_nil] at *
     omega⟩ ?_
   rintro ⟨(i : Int),⟨⟩⟩ g w3 ⟨(i0 : 0 ≤ i),(i1 : i ≤ m),q3,n3,d3,g3,hn3⟩
   rw [t62_11]
   dsimp only at g3 hn3 ⊢
   have hb3 : base ≤ w3.heap.size := Nat.le_trans hbw g3.ch.size
   refine br_both (fun e => ?_) fun e => ?_
   ·have hi : i < m := of_decide_eq_true e
    obtain ⟨y,hy⟩ : ∃ u,x.items[i.toNat]? = some u := ⟨_,List.getElem?_eq_getElem (by omega)⟩
    obtain ⟨ad,r,my,cy,rfl,cv,vy⟩ := hx.get hy
    have h03 : Ch No w0 w3 := h0w.then_ (g3.below hb) (fun i hi (h : base ≤ i) => by omega)
    have C := cv.ch (w' := w3) (fun a v ha => h03.cellv ha (fun h => h))
    have hct := costL_take hy
    have hcl := costL_le (l := x.items) (i.toNat + 1)
    refine ix_i i0 hi (ld_int C.c0 (ld_int C.c1 (ld_str C.c2 (ld_sl C.c3 ?_))))
    refine nw fun w4 h4 z4 b4 => ?_
    refine st_blk b4 (by simp) rfl fun w5 h5 z5 b5 => st_blk b5 (by simp) rfl fun w6 h6 z6 b6 => st_blk b6 (by simp) rfl fun w7 h7 z7 b7 => st_blk b7 (by simp) rfl fun w8 h8 z8 b8 => ?_
    have h38 : Ch No w3 w8 := h4.then_ (h5.trans (h6.trans (h7.trans h8))) (fun i hi (e : i = _) => by omega)
    have g8 := g3.then_no h38
    have hb8 : base ≤ w8.heap.size := Nat.le_trans hb3 h38.size
    have hsz2 := VT.size_lt hy
    have hfy := FitL_get hf.2.2.2 hy
    have hpl := print_len _ y (Nat.lt_succ_self _) hfy
    have T8 : Tabs w8 := (hT.ch (g8.below hb) h7g)
    -- behind the item
    have item : ∀ w9 q9 n9 d9 (sep : List UInt8),GrewW base b w q n d w9 q9 n9 d9 (bs ++ 91 :: printL (x.items.take i.toNat) ++ sep) → n9 ≤ n3 + sep.length → sep = (if i.toNat > 0 then [44,32] else []) → base ≤ w9.heap.size → Blk w9 w3.heap.size (cellsV y r my cy) 94 →
      wpT Tryz.prog (fun e w' => e = .returned (.tuple #[]) ∧ ∃ q' n' d',GrewW base b w q n d w' q' n' d' (bs ++ printV x)) (after Tryz.prog (fun e w' => e = .returned (.tuple #[]) ∧ ∃ q' n' d',GrewW base b w q n d w' q' n' d' (bs ++ printV x)) (fun x x_1 x_2 => False) m62_11 mx62_11 mr62_11 1 (fun u29 g29 => .call 27 #[.pointer (some ⟨b,0,none⟩),.int .u8 93] (.one (.leaf .any)) (fun v30 => .done (.returned (.tuple #[])))) (fun u31 g31 => .stuck) fun (v' : Int × Unit) w' => (0 ≤ v'.1 ∧ v'.1 ≤ (m : Int) ∧ ∃ q' n' d',GrewW base b w q n d w' q' n' d' (bs ++ 91 :: printL (x.items.take v'.1.toNat)) ∧ n' ≤ n + 1 + costL (x.items.take v'.1.toNat)) ∧ m - v'.1.toNat < m - i.toNat)
       (.load ⟨w3.heap.size,0,none⟩ (.int .i64) (fun x24 => .load ⟨w3.heap.size,1,none⟩ (.int .i64) (fun x25 => .load ⟨w3.heap.size,2,none⟩ .str (fun s26 => .load ⟨w3.heap.size,3,none⟩ .sl (fun l27 => .call 62 #[.pointer (some ⟨b,0,none⟩),.agg #[.int .i64 x24,.int .i64 x25,.string s26,.slice l27.1 l27.2.1 l27.2.2]] (.tup []) (fun r28 => .fin .normal [(32,.int .i64 (IntKind.i64.wrap (i + 1)))])))))) .pl w9 := by
     intro w9 q9 n9 d9 sep g9 hn9 hsep hb9 b9
     have hsl : sep.length ≤ 2 := by rw [hsep]; split <;> simp
     refine ld_int (b9.cell 0) (ld_int (b9.cell 1) (ld_str (b9.cell 2) (ld_sl (b9.cell 3) ?_)))
     have h09 : Ch No w0 w9 := h0w.then_ (g9.below hb) (fun i hi (h : base ≤ i) => by omega)
     refine cl_i (ih y r my cy w0 w9 base b q9 n9 d9 _ (by omega) vy hfy h09 hlo h7g g9.bld hb9 (hT.ch (g9.below hb) h7g) (by omega)) ?_
     rintro e' w10 ⟨rfl,q10,n10,d10,g10⟩
     have hn10 := g10.bld.len
     have hn9' := g9.bld.len
     rw [List.length_append,hn9'] at hn10
     refine ⟨(),rfl,(i + 1,()),?_,⟨by dsimp only; omega,by dsimp only; omega,q10,n10,d10,?_,?_⟩,by dsimp only; omega⟩
     ·rw [wrap_succ i0 (by omega)]; rfl
     ·dsimp only
      rw [show (i + 1).toNat = i.toNat + 1 by omega,printL_take hy,← hsep]
      have := GrewW.trans hb g9 g10
      simpa using this
     ·dsimp only
      rw [show (i + 1).toNat = i.toNat + 1 by omega,hct]
      omega
    refine br_both (fun e' => ?_) fun e' => ?_
    ·have e' : i > 0 := of_decide_eq_true e'
     refine cl_i (writeString_any base b w8 q3 n3 d3 _ (bytesL [44,32]) g8.bld hb8 (by show n3 + 2 ≤ _; omega)) ?_
     rintro e'' w9 ⟨rfl,q9,n9,d9,g9⟩
     have hn9 := g9.bld.len
     have hn8 := g8.bld.len
     rw [List.length_append,hn8] at hn9
     have e44 : (bytesL [44,32]).data.toList.length = 2 := rfl
     have hn9' : n9 ≤ n3 + ([44,32] : List UInt8).length := by
      simp only [List.length_cons,List.length_nil]
      omega
     exact ⟨((2 : Int),.nilIface,()),rfl,item w9 q9 n9 d9 [44,32] (GrewW.trans hb g8 g9) hn9' (by rw [if_pos (by omega)]) (Nat.le_trans hb8 g9.ch.size) (g9.blk g8.bld b8 (by decide) (by decide))⟩
    ·have e' : ¬ i > 0 := of_decide_eq_false e'
     exact item w8 q3 n3 d3 [] (by simpa using g8) (by simp) (by rw [if_neg (by omega)]) hb8 b8
   ·have hi : ¬ i < m := of_decide_eq_false e
    refine ⟨rfl,(),rfl,fun g' => ?_⟩
    rw [List.take_of_length_le (by omega)] at g3 hn3
    refine cl_i (writeByte_any base b w3 q3 n3 d3 _ 93 g3.bld hb3 (by omega)) ?_
    rintro e' w4 ⟨rfl,q4,n4,d4,g4⟩
    refine ⟨.nilIface,rfl,rfl,q4,n4,d4,?_⟩
    rw [printV_def,if_neg e0,if_neg e1,if_neg e2,if_pos e3]
    have := GrewW.trans hb g3 g4
    simpa using this
  ·have e3 : ¬ x.kind = 3 := by simpa using e
   rw [printV_def,if_neg e0,if_neg e1,if_neg e2,if_neg e3]
   simpa using GrewW.after h1 (GrewW.refl B1)
theorem string_any (base b : Nat) (w : World) (p : Option Addr) (n c : Nat) (bs : List UInt8) (h : Bld base w b p n c bs) (hw : base ≤ w.heap.size) :
  Calls Tryz.prog 29 #[.pointer (some ⟨b,0,none⟩)] w fun e w' => e = .returned (.string ⟨bs.toArray⟩) ∧ Below base w w' := by
 refine Tryz.Builder_String_any base b bs w ?_ hw
 obtain ⟨a,ha,hb⟩ := h.blk
 have key : Lib.BuilderAt 78 5 base b (.pointer a) (byteCells bs) w := by
  refine ⟨h.lo,.slice p n c,hb,?_,fun e => h.row.ne hb (by decide) e⟩
  have := h.row
  rw [Lib.byteCells_length,h.len]
  exact this
 rcases ha with rfl | rfl
 ·exact .inl key
 ·exact .inr key
/-- Every part of a valid value costs little. -/
theorem cost_valid (k : Nat) : ∀ (x : VT) (n depth : Int),SizeOf.sizeOf x < k → (partV n depth x).1 = 0 → (costV x : Int) ≤ 140 * ((partV n depth x).2 - n) := by
 induction k with
 | zero => intro x n depth h; omega
 | succ k ih =>
  intro x n depth hk
  have key : ∀ (l : List VT) (n : Int),(∀ z ∈ l,SizeOf.sizeOf z < k) → (partL n depth l).1 = 0 → (costL l : Int) ≤ 140 * ((partL n depth l).2 - n) + 2 * l.length := by
   intro l
   induction l with
   | nil => intro n _ _; simp [partL,costL]
   | cons z r ihl =>
    intro n hz
    simp only [partL,costL,List.length_cons]
    by_cases he : (partV n (depth + 1) z).1 = 0
    ·rw [if_neg (fun h => h he)]
     intro h
     have h1 := ih z n (depth + 1) (hz z (.head _)) he
     have h2 := ihl _ (fun u hu => hz u (.tail _ hu)) h
     omega
    ·rw [if_pos he]; exact fun h => absurd h he
  rw [partV_def,costV_def]
  by_cases h12 : n + 1 > 12
  ·rw [if_pos h12]; intro h; simp at h
  rw [if_neg h12]
  by_cases c1 : x.kind < 0 ∨ x.kind > 3
  ·rw [if_pos c1]; intro h; simp at h
  rw [if_neg c1]
  by_cases c2 : (x.int ≠ 0 ∧ x.kind ≠ 1) ∨ (x.text.toList ≠ [] ∧ x.kind ≠ 2) ∨ (0 < x.items.length ∧ x.kind ≠ 3)
  ·rw [if_pos c2]; intro h; simp at h
  rw [if_neg c2]
  by_cases c3 : x.kind = 3 ∧ depth ≥ 3
  ·rw [if_pos c3]; intro h; simp at h
  rw [if_neg c3]
  by_cases c4 : x.text.size > 24
  ·rw [if_pos c4]; intro h; simp at h
  rw [if_neg c4]
  by_cases c5 : x.items.length > 6
  ·rw [if_pos c5]; intro h; simp at h
  rw [if_neg c5]
  intro h
  have hl := key x.items (n + 1) (fun z hz => by
   obtain ⟨i,hi⟩ := List.getElem?_of_mem hz
   have := VT.size_lt hi
   omega) h
  by_cases c6 : 0 < x.items.length
  ·have hk3 : x.kind = 3 := Decidable.byContradiction fun h' => c2 (.inr (.inr ⟨c6,h'⟩))
   have ht : x.text.toList = [] := Decidable.byContradiction fun h' => c2 (.inr (.inl ⟨h',by omega⟩))
   have hs : x.text.size = 0 := by
    rw [ByteArray.toList_eq] at ht
    have := congrArg List.length ht
    simpa using this
   omega
  ·have h0 : x.items = [] := List.eq_nil_of_length_eq_zero (by omega)
   rw [h0] at hl ⊢
   simp only [partL,costL,List.length_nil] at hl ⊢
   omega
/-- Print's text. -/
def printTxt (x : VT) : List UInt8 := printV (validV x)
theorem cost_le (x : VT) : costV (validV x) ≤ 2000 := by
 unfold validV
 by_cases hc : checkV x = 0
 ·rw [if_pos hc]
  have h1 := cost_valid _ x 0 0 (Nat.lt_succ_self _) hc
  have h2 := (partV_bound x 0 0 (by omega) (by omega)).2.2 hc
  omega
 ·rw [if_neg hc]
  have : costV noneV = 30 := by rw [costV_def]; rfl
  omega
theorem Print_any (x : VT) (p : Option Addr) (m c : Nat) (w : World) (hx : IsV w x p m c) (hf : Fit x) (hT : Tabs w) (h7g : 10 ≤ w.heap.size) :
  Calls Tryz.prog 33 #[valV x p m c] w fun e w' => e = .returned (.string ⟨(printTxt x).toArray⟩) ∧ Ch No w w' := by
 refine calls_of_fnT mixed Tryz.func33 (s := s33) ?_
 unfold valV
 rw [t33]
 refine nw fun w1 h1 z1 b1 => nw fun w2 h2 z2 b2 => ?_
 have B := b1.ch h2 (fun h => h)
 have H : Ch No w w2 := h1.trans h2
 refine ld_int (B.cell 0) (ld_int (B.cell 1) (ld_str (B.cell 2) (ld_sl (B.cell 3) ?_)))
 obtain ⟨px,mx,cx,hv,ev⟩ := valid_is hx
 refine cl_i (valid_any x p m c w2 (hx.no H)) ?_
 rintro e w3 ⟨rfl,h3⟩
 rw [ev]
 refine ⟨((validV x).kind,(validV x).int,(validV x).text,(px,mx,cx),()),rfl,?_⟩
 have H3 := H.trans h3
 have Bd : Bld w1.heap.size w3 w1.heap.size none 0 0 [] := ⟨⟨none,.inl rfl,b2.ch h3 (fun h => h)⟩,Row.nil _ _ _ _,Nat.le_refl _⟩
 have hc := cost_le x
 have hs3 := h3.size
 refine cl_i (print1_any _ (validV x) px mx cx w w3 w1.heap.size w1.heap.size none 0 0 [] (Nat.lt_succ_self _) (hv w (Ch.refl _ _)) (validV_fit hf) H3 (by omega) (by omega) Bd (by omega) (hT.no H3) (by omega)) ?_
 rintro e w4 ⟨rfl,q,n,d,g⟩
 refine ⟨(),rfl,cl_i (string_any w1.heap.size w1.heap.size w4 q n d _ g.bld (Nat.le_trans (by omega) g.ch.size)) ?_⟩
 rintro e w5 ⟨rfl,hbel⟩
 refine ⟨_,rfl,by simp [printTxt],?_⟩
 have h5 : Ch (w1.heap.size ≤ ·) w4 w5 := ⟨hbel.os,hbel.tape,hbel.output,hbel.size,fun k hk hn => hbel.block k (by omega)⟩
 exact (H3.then_ (g.below Bd) (fun i hi (h : _ ≤ i) => by omega)).then_ h5 (fun i hi (h : _ ≤ i) => by omega)
end Go.Proofs.YtmdmomccibpjbaaGreatDoor
namespace Go.Proofs.YtmdmomccibpjbaaGreatDoor.V
open Go
def dval (l : List UInt8) : Nat := l.foldl (fun a c => a * 10 + (c.toNat - 48)) 0
theorem dec_digit : ∀ (k u : Nat),u < k → ∀ c ∈ Lib.decDigits u,48 ≤ c.toNat ∧ c.toNat ≤ 57 := by
 intro k
 induction k with
 | zero => intro u h; omega
 | succ k ih =>
  intro u hk c hc
  rw [Lib.decDigits] at hc
  by_cases h : u < 10
  ·rw [dif_pos h] at hc
   have : (UInt8.ofNat (48 + u)).toNat = 48 + u := by rw [UInt8.toNat_ofNat']; omega
   simp only [List.mem_singleton] at hc
   subst hc
   omega
  ·rw [dif_neg h] at hc
   rcases List.mem_append.1 hc with hc | hc
   ·exact ih (u / 10) (by omega) c hc
   ·have : (UInt8.ofNat (48 + u % 10)).toNat = 48 + u % 10 := by rw [UInt8.toNat_ofNat']; omega
    simp only [List.mem_singleton] at hc
    subst hc
    omega
end Go.Proofs.YtmdmomccibpjbaaGreatDoor.V
namespace Go.Proofs.YtmdmomccibpjbaaGreatDoor.V
open Go
open Go.Lib (decodeL decodeN)
/-- A hex digit's worth. -/
def hexV (c : UInt8) : Option Nat :=
 if 48 ≤ c.toNat ∧ c.toNat ≤ 57 then some (c.toNat - 48)
 else if 97 ≤ c.toNat ∧ c.toNat ≤ 102 then some (c.toNat - 87)
 else if 65 ≤ c.toNat ∧ c.toNat ≤ 70 then some (c.toNat - 55)
 else none
/-- What a quoted text's body stands for, and what follows the closing quote. -/
def readQ : Nat → List UInt8 → List UInt8 → Option (List UInt8 × List UInt8)
 | 0,_,_ => none
 | _ + 1,_,[] => none
 | k + 1,acc,c :: t =>
  if c = 34 then some (acc,t)
  else if c = 92 then
   match t with
   | [] => none
   | e :: t => if e = 34 ∨ e = 92 then readQ k (acc ++ [e]) t
    else if e = 110 then readQ k (acc ++ [10]) t
    else if e = 116 then readQ k (acc ++ [9]) t
    else if e = 120 then
     match t with
     | a :: b :: t => match hexV a,hexV b with
      | some x,some y => readQ k (acc ++ [UInt8.ofNat (x * 16 + y)]) t
      | _,_ => none
     | _ => none
    else none
  else if 32 ≤ c.toNat ∧ c.toNat ≤ 126 then readQ k (acc ++ [c]) t
  else if c.toNat < 128 ∨ (decodeL (c :: t)).2 < 2 then none
  else readQ k (acc ++ (c :: t).take (decodeL (c :: t)).2) ((c :: t).drop (decodeL (c :: t)).2)
theorem drop_decode (s : ByteArray) (pos : Nat) : Utf8.decode s pos = decodeL (s.data.toList.drop pos) := by
 rw [Lib.decode_N,Lib.decodeL_N]
 simp [List.getD_eq_getElem?_getD,List.getElem?_drop]
end Go.Proofs.YtmdmomccibpjbaaGreatDoor.V
namespace Go.Proofs.YtmdmomccibpjbaaGreatDoor.V
open Go Tr
set_option maxRecDepth 100000
def pk : List UInt8 → Nat
 | [] => 0
 | c :: _ => c.toNat
def isBl (c : UInt8) : Bool := decide (c.toNat = 32) || decide (c.toNat = 9)
def isDig (c : UInt8) : Bool := decide (48 ≤ c.toNat) && decide (c.toNat ≤ 57)
def blanksM (l : List UInt8) : List UInt8 := l.dropWhile isBl
def numM (neg : Bool) (ds : List UInt8) : Option Int :=
 if neg = true then (if dval ds ≤ 9223372036854775808 then some (-(dval ds : Int)) else none) else (if dval ds < 9223372036854775808 then some (dval ds : Int) else none)
/-- A numeral without its sign. -/
def rdigM (neg : Bool) (l : List UInt8) : Option (Int × List UInt8) :=
 if pk l = 48 then (if neg = true then none else some (0,l.tail))
 else if l.takeWhile isDig = [] then none
 else match numM neg (l.takeWhile isDig) with
  | none => none
  | some v => some (v,l.dropWhile isDig)
def rintM (l : List UInt8) : Option (Int × List UInt8) := if pk l = 45 then rdigM true l.tail else rdigM false l
def rtextM (l : List UInt8) : Option (ByteArray × List UInt8) :=
 match readQ (l.length + 1) [] l with
 | none => none
 | some (b,r) => if b.length > 24 then none else some (⟨b.toArray⟩,r)
def ritems (f : List UInt8 → Int → Option (VT × List UInt8 × Int)) : Nat → List VT → List UInt8 → Int → Option (List VT × List UInt8 × Int)
 | 0,_,_,_ => none
 | m + 1,acc,l,n => match f l n with
  | none => none
  | some (x,l1,n1) => if pk (blanksM l1) = 93 then some (acc ++ [x],(blanksM l1).tail,n1)
   else if pk (blanksM l1) = 44 then ritems f m (acc ++ [x]) (blanksM (blanksM l1).tail) n1
   else none
def rlistM (f : List UInt8 → Int → Option (VT × List UInt8 × Int)) (depth : Int) (l : List UInt8) (n : Int) : Option (VT × List UInt8 × Int) :=
 if depth ≥ 3 then none
 else if pk (blanksM l.tail) = 93 then some (.mk 3 0 (bytesL []) [],(blanksM l.tail).tail,n)
 else match ritems f 6 [] (blanksM l.tail) n with
  | none => none
  | some (xs,l2,n2) => some (.mk 3 0 (bytesL []) xs,l2,n2)
def begs (c : Nat) : Bool := decide (c = 110 ∨ c = 45 ∨ c = 34 ∨ c = 91 ∨ (48 ≤ c ∧ c ≤ 57))
/-- What the reader reads. -/
def rdV : Nat → Int → List UInt8 → Int → Option (VT × List UInt8 × Int)
 | 0,_,_,_ => none
 | k + 1,depth,l,n =>
  if begs (pk l) = false then none
  else if n + 1 > 12 then none
  else if pk l = 110 then (if l.take 4 = [110,111,110,101] then some (noneV,l.drop 4,n + 1) else none)
  else if pk l = 34 then match rtextM l.tail with
   | none => none
   | some (s,r) => some (.mk 2 0 s [],r,n + 1)
  else if pk l = 91 then rlistM (rdV k (depth + 1)) depth l (n + 1)
  else match rintM l with
   | none => none
   | some (v,r) => some (.mk 1 v (bytesL []) [],r,n + 1)
theorem rdV_succ (k : Nat) (depth : Int) (l : List UInt8) (n : Int) : rdV (k + 1) depth l n = (if begs (pk l) = false then none
  else if n + 1 > 12 then none
  else if pk l = 110 then (if l.take 4 = [110,111,110,101] then some (noneV,l.drop 4,n + 1) else none)
  else if pk l = 34 then match rtextM l.tail with
   | none => none
   | some (s,r) => some (.mk 2 0 s [],r,n + 1)
  else if pk l = 91 then rlistM (rdV k (depth + 1)) depth l (n + 1)
  else match rintM l with
   | none => none
   | some (v,r) => some (.mk 1 v (bytesL []) [],r,n + 1)) := rfl
end Go.Proofs.YtmdmomccibpjbaaGreatDoor.V
namespace Go.Proofs.YtmdmomccibpjbaaGreatDoor.V
open Go Tr
open Go.Lib (decodeL)
set_option maxRecDepth 100000
/-- A hex digit's worth, of what peek tells. -/
def hexP (c : Nat) : Option Nat :=
 if 48 ≤ c ∧ c ≤ 57 then some (c - 48)
 else if 97 ≤ c ∧ c ≤ 102 then some (c - 87)
 else if 65 ≤ c ∧ c ≤ 70 then some (c - 55)
 else none
theorem hexP_lt {c x : Nat} (h : hexP c = some x) : x < 16 := by
 unfold hexP at h
 split at h
 ·cases h; omega
 split at h
 ·cases h; omega
 split at h
 ·cases h; omega
 ·cases h
/-- A fault: its number, how many bytes stand from its place on. -/
abbrev Flt := Int × Nat
def wantX : List UInt8 → List UInt8 → Except Flt (List UInt8)
 | [],l => .ok l
 | c :: w,l => if pk l = c.toNat then wantX w l.tail else .error (28,l.length)
def escX (l : List UInt8) : Except Flt (UInt8 × List UInt8) :=
 if pk l = 34 then .ok (34,l.tail) else if pk l = 92 then .ok (92,l.tail) else if pk l = 110 then .ok (10,l.tail) else if pk l = 116 then .ok (9,l.tail)
 else if pk l = 120 then match hexP (pk l.tail) with
  | none => .error (28,l.tail.length)
  | some x => match hexP (pk l.tail.tail) with
   | none => .error (28,l.tail.tail.length)
   | some y => .ok (UInt8.ofNat (x * 16 + y),l.tail.tail.tail)
 else .error (28,l.length)
def readX : Nat → List UInt8 → List UInt8 → Except Flt (List UInt8 × List UInt8)
 | 0,_,l => .error (28,l.length)
 | k + 1,acc,l =>
  if pk l = 34 then .ok (acc,l.tail)
  else if pk l = 92 then match escX l.tail with
   | .error e => .error e
   | .ok (b,r) => readX k (acc ++ [b]) r
  else if 32 ≤ pk l ∧ pk l ≤ 126 then readX k (acc ++ [UInt8.ofNat (pk l)]) l.tail
  else if pk l < 128 ∨ (decodeL l).2 < 2 then .error (28,l.length)
  else readX k (acc ++ l.take (decodeL l).2) (l.drop (decodeL l).2)
/-- Of a text from its first quote on. -/
def rtextX (l : List UInt8) : Except Flt (ByteArray × List UInt8) :=
 match readX (l.tail.length + 1) [] l.tail with
 | .error e => .error e
 | .ok (b,r) => if b.length > 24 then .error (21,l.length) else .ok (⟨b.toArray⟩,r)
def rdigX (from_ : Nat) (neg : Bool) (l : List UInt8) : Except Flt (Int × List UInt8) :=
 if pk l = 48 then (if neg = true then .error (28,l.length) else .ok (0,l.tail))
 else if l.takeWhile isDig = [] then .error (28,l.length)
 else match numM neg (l.takeWhile isDig) with
  | none => .error (29,from_)
  | some v => .ok (v,l.dropWhile isDig)
def rintX (l : List UInt8) : Except Flt (Int × List UInt8) := if pk l = 45 then rdigX l.length true l.tail else rdigX l.length false l
def ritemsX (f : List UInt8 → Int → Except Flt (VT × List UInt8 × Int)) : Nat → List VT → List UInt8 → Int → Except Flt (List VT × List UInt8 × Int)
 | 0,_,l,_ => .error (22,l.length)
 | m + 1,acc,l,n => match f l n with
  | .error e => .error e
  | .ok (x,l1,n1) => if pk (blanksM l1) = 93 then .ok (acc ++ [x],(blanksM l1).tail,n1)
   else if pk (blanksM l1) = 44 then (if m = 0 then .error (22,(blanksM l1).length) else ritemsX f m (acc ++ [x]) (blanksM (blanksM l1).tail) n1)
   else .error (28,(blanksM l1).length)
def rlistX (f : List UInt8 → Int → Except Flt (VT × List UInt8 × Int)) (depth : Int) (l : List UInt8) (n : Int) : Except Flt (VT × List UInt8 × Int) :=
 if depth ≥ 3 then .error (23,l.length)
 else if pk (blanksM l.tail) = 93 then .ok (.mk 3 0 (bytesL []) [],(blanksM l.tail).tail,n)
 else match ritemsX f 6 [] (blanksM l.tail) n with
  | .error e => .error e
  | .ok (xs,l2,n2) => .ok (.mk 3 0 (bytesL []) xs,l2,n2)
/-- What the reader reads, or its fault. -/
def rdX : Nat → Int → List UInt8 → Int → Except Flt (VT × List UInt8 × Int)
 | 0,_,l,_ => .error (28,l.length)
 | k + 1,depth,l,n =>
  if begs (pk l) = false then .error (28,l.length)
  else if n + 1 > 12 then .error (22,l.length)
  else if pk l = 110 then match wantX [110,111,110,101] l with
   | .error e => .error e
   | .ok r => .ok (noneV,r,n + 1)
  else if pk l = 34 then match rtextX l with
   | .error e => .error e
   | .ok (s,r) => .ok (.mk 2 0 s [],r,n + 1)
  else if pk l = 91 then rlistX (rdX k (depth + 1)) depth l (n + 1)
  else match rintX l with
   | .error e => .error e
   | .ok (v,r) => .ok (.mk 1 v (bytesL []) [],r,n + 1)
theorem rdX_succ (k : Nat) (depth : Int) (l : List UInt8) (n : Int) : rdX (k + 1) depth l n = (if begs (pk l) = false then .error (28,l.length)
  else if n + 1 > 12 then .error (22,l.length)
  else if pk l = 110 then match wantX [110,111,110,101] l with
   | .error e => .error e
   | .ok r => .ok (noneV,r,n + 1)
  else if pk l = 34 then match rtextX l with
   | .error e => .error e
   | .ok (s,r) => .ok (.mk 2 0 s [],r,n + 1)
  else if pk l = 91 then rlistX (rdX k (depth + 1)) depth l (n + 1)
  else match rintX l with
   | .error e => .error e
   | .ok (v,r) => .ok (.mk 1 v (bytesL []) [],r,n + 1)) := rfl
/-- A text that is one value, blanks around it. -/
def parseX (l : List UInt8) : Except Flt (VT × Int) :=
 match rdX 4 0 (blanksM l) 0 with
 | .error e => .error e
 | .ok (x,l1,n) => if blanksM l1 = [] then .ok (x,n) else .error (28,(blanksM l1).length)
theorem readX_back (k : Nat) (acc l : List UInt8) (h : pk l = 92) : readX (k + 1) acc l = (match escX l.tail with
  | .error e => .error e
  | .ok (b,r) => readX k (acc ++ [b]) r) := by
 conv => lhs; unfold readX
 rw [if_neg (by omega),if_pos h]
theorem readX_end (k : Nat) (acc l : List UInt8) (h : pk l = 34) : readX (k + 1) acc l = .ok (acc,l.tail) := by
 conv => lhs; unfold readX
 rw [if_pos h]
theorem readX_plain (k : Nat) (acc l : List UInt8) (h1 : pk l ≠ 34) (h2 : pk l ≠ 92) (h3 : 32 ≤ pk l ∧ pk l ≤ 126) : readX (k + 1) acc l = readX k (acc ++ [UInt8.ofNat (pk l)]) l.tail := by
 conv => lhs; unfold readX
 rw [if_neg h1,if_neg h2,if_pos h3]
theorem readX_rune (k : Nat) (acc l : List UInt8) (h1 : pk l ≠ 34) (h2 : pk l ≠ 92) (h3 : ¬ (32 ≤ pk l ∧ pk l ≤ 126)) : readX (k + 1) acc l = (if pk l < 128 ∨ (decodeL l).2 < 2 then .error (28,l.length) else readX k (acc ++ l.take (decodeL l).2) (l.drop (decodeL l).2)) := by
 conv => lhs; unfold readX
 rw [if_neg h1,if_neg h2,if_neg h3]
end Go.Proofs.YtmdmomccibpjbaaGreatDoor.V
