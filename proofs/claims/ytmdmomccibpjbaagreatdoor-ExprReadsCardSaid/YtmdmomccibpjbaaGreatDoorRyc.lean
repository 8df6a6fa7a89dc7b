/- The document's writer: a whole text of steps; its Canon. -/
import Derived.Test.YtmdmomccibpjbaaGreatDoorRyb
import Derived.Lib.ItoaLen
namespace Go.Proofs.YtmdmomccibpjbaaGreatDoor.E
open Go Tr
open V (rest rest_cases restL sizeB pk_rest cx_i cp_i extract_list pk hexP)
set_option maxRecDepth 100000
set_option maxHeartbeats 4000000
/-! the tree of function 16 -/
abbrev fx16_1 (qa0 : Option Addr) (qn0 : Nat) (qc0 : Nat) : List (Tmp × Value) := [(0,.slice qa0 qn0 qc0)]
abbrev m16_1 : List (Tmp × Comp) := [(3,.leaf .sl),(4,.leaf (.int .i64))]
abbrev mx16_1 : List (Tmp × Comp) := [(3,.leaf .sl)]
abbrev mr16_1 : List (Tmp × Comp) := [(2,.leaf .str)]
abbrev fx16_4 (qa0 : Option Addr) (qn0 : Nat) (qc0 : Nat) (l_3 : Option Addr × Nat × Nat) (x_4 : Int) (x3 : Int) : List (Tmp × Value) := [(0,.slice qa0 qn0 qc0),(3,.slice l_3.1 l_3.2.1 l_3.2.2),(4,.int .i64 x_4),(5,.int .i64 (IntKind.i64.wrap ((↑l_3.snd.fst : Int) - x3)))]
abbrev mx16_4 : List (Tmp × Comp) := [(6,.leaf .blk)]
def s16_4 : Script := .hd0 (.hq 0 (.hq 1 (.hq 2 (.ix (.hq 3 (.ld .str (.ld (.int .i64) (.ld (.int .i64) (.ld .str (.hq 4 (.hq 5 (.hq 6 (.nd (.hl 7 (.cl (.one (.agg [.str,.int .i64])) (.he 8 (.he 9 .nil))) (.hl 8 (.he 7 (.cl (.one (.agg [.str,.int .i64])) (.he 9 .nil))) .nil)))))))))))))))
theorem t16_4 (qa0 : Option Addr) (qn0 : Nat) (qc0 : Nat) (l_3 : Option Addr × Nat × Nat) (x_4 : Int) (x3 : Int) (gg4 : Nat → Value) : pieceT Tryz.prog (at_ Tryz.f16 [1,1,0,1,0,0,1,0,0,1,1,0]) 49 (fx16_4 qa0 qn0 qc0 l_3 x_4 x3) gg4 (mx16_4.map (·.1)) [] [] s16_4 = .hdrawn (.idx qa0 x_4 qn0 4 (fun a5 => .load a5 .str (fun s6 => .load (a5.add 1) (.int .i64) (fun x7 => .load (a5.add 2) (.int .i64) (fun x8 => .load (a5.add 3) .str (fun s9 => .need (Decidable.decide (0 ≤ IntKind.i64.wrap ((↑l_3.snd.fst : Int) - x3) ∧ IntKind.i64.wrap ((↑l_3.snd.fst : Int) - x3) ≤ (↑l_3.snd.fst : Int) ∧ (↑l_3.snd.fst : Int) ≤ (↑l_3.snd.snd : Int))) (.both (.eff (.call 36 #[.agg #[.string s6,.int .i64 x7,.int .i64 x8,.string s9],.slice (if l_3.snd.snd = (IntKind.i64.wrap ((↑l_3.snd.fst : Int) - x3)).toNat then l_3.fst else Option.map (fun q ↦ q.add ((IntKind.i64.wrap ((↑l_3.snd.fst : Int) - x3)).toNat * 2)) l_3.fst) (l_3.snd.fst - (IntKind.i64.wrap ((↑l_3.snd.fst : Int) - x3)).toNat) (l_3.snd.snd - (IntKind.i64.wrap ((↑l_3.snd.fst : Int) - x3)).toNat)] (.one (.agg [.str,.int .i64])) (fun r10 => .back (.eff (.new (.cells #[.string (bytesL []),.int .i64 0] 125 (0,0)) (fun n11 => .back (.eff (.store ⟨n11,0,none⟩ (.string r10.1) (.store ⟨n11,1,none⟩ (.int .i64 r10.2.1) (.back (.undrawn (.fin .normal [(6,.pointer (some ⟨n11,0,none⟩))])))))))))))) (.both (.eff (.new (.cells #[.string (bytesL []),.int .i64 0] 125 (0,0)) (fun n12 => .back (.eff (.call 36 #[.agg #[.string s6,.int .i64 x7,.int .i64 x8,.string s9],.slice (if l_3.snd.snd = (IntKind.i64.wrap ((↑l_3.snd.fst : Int) - x3)).toNat then l_3.fst else Option.map (fun q ↦ q.add ((IntKind.i64.wrap ((↑l_3.snd.fst : Int) - x3)).toNat * 2)) l_3.fst) (l_3.snd.fst - (IntKind.i64.wrap ((↑l_3.snd.fst : Int) - x3)).toNat) (l_3.snd.snd - (IntKind.i64.wrap ((↑l_3.snd.fst : Int) - x3)).toNat)] (.one (.agg [.str,.int .i64])) (fun r13 => .back (.eff (.store ⟨n12,0,none⟩ (.string r13.1) (.store ⟨n12,1,none⟩ (.int .i64 r13.2.1) (.back (.undrawn (.fin .normal [(6,.pointer (some ⟨n12,0,none⟩))])))))))))))) (.triv))))))))) := by kernel_rfl
def s16_1 : Script := .sym (.ix (.ld (.int .i64) (.sym .nil (.ct 0 [0,3,4,5] mx16_4 (.nd (.rn (.one (.leaf .sl)) (.ld .str (.ld (.int .i64) (.nop (.rn (.one (.leaf .sl)) .nil)))))))))) .nil
theorem t16_1 (qa0 : Option Addr) (qn0 : Nat) (qc0 : Nat) (l_3 : Option Addr × Nat × Nat) (x_4 : Int) (gg1 : Nat → Value) : pieceT Tryz.prog (at_ Tryz.f16 [1,1,0,1,0,0]) 49 (fx16_1 qa0 qn0 qc0 ++ mvals m16_1 (l_3,x_4,())) gg1 (m16_1.map (·.1)) (mx16_1.map (·.1)) (mr16_1.map (·.1)) s16_1 = .br (Decidable.decide (x_4 < (↑qn0 : Int))) (.idx qa0 x_4 qn0 4 (fun a2 => .load (a2.add 1) (.int .i64) (fun x3 => .br (Decidable.decide (IntKind.i64.wrap ((↑l_3.snd.fst : Int) - x3) < 0)) (.fin .ret [(2,.string (bytesL []))]) (.cut (at_ Tryz.f16 [1,1,0,1,0,0,1,0,0,1,1,0]) 49 (fx16_4 qa0 qn0 qc0 l_3 x_4 x3) mx16_4 (fun u14 g14 => .need (Decidable.decide (Int.ofNat 0 ≤ 0 ∧ 0 ≤ IntKind.i64.wrap ((↑l_3.snd.fst : Int) - x3) ∧ IntKind.i64.wrap ((↑l_3.snd.fst : Int) - x3) ≤ (↑l_3.snd.snd : Int))) (.run (builtin .append #[121,121] 121 #[false,false] #[.slice none 0 0,.slice (if l_3.snd.snd = 0 then l_3.fst else Option.map (fun q ↦ q.add (0 * 2)) l_3.fst) ((IntKind.i64.wrap ((↑l_3.snd.fst : Int) - x3)).toNat - 0) (l_3.snd.snd - 0)]) (.one (.leaf .sl)) (fun l15 => .load ⟨u14.1,0,none⟩ .str (fun s16 => .load ⟨u14.1,1,none⟩ (.int .i64) (fun x17 => .new (.cells #[.string s16,.int .i64 x17] 125 (0,0)) (fun n18 => .run (builtin .append #[121,121] 121 #[false,false] #[.slice l15.1 l15.2.1 l15.2.2,.slice (some ⟨n18,0,none⟩) 1 1]) (.one (.leaf .sl)) (fun l19 => .fin .normal [(3,.slice l19.1 l19.2.1 l19.2.2),(4,.int .i64 (IntKind.i64.wrap (x_4 + 1)))]))))))))))) (.fin (.exit 0) [(3,.slice l_3.1 l_3.2.1 l_3.2.2)]) := by kernel_rfl
def s16 : Script := .lp 0 [0] [3,4] mx16_1 mr16_1 (.sym .nil (.ix (.ld .str .nil))) .nil
theorem t16 (qa0 : Option Addr) (qn0 : Nat) (qc0 : Nat) : fnT Tryz.prog Tryz.f16 #[.slice qa0 qn0 qc0] s16 = .loop (at_ Tryz.f16 [1,1,0,1,0,0]) 49 (fx16_1 qa0 qn0 qc0) [(3,.slice none 0 0),(4,.int .i64 0)] mx16_1 mr16_1 0 (fun u20 g20 => .br ((↑u20.fst.snd.fst : Int) != 1) (.done (.returned (.string (bytesL [])))) (.idx u20.1.1 0 u20.1.2.1 2 (fun a21 => .load a21 .str (fun s22 => .done (.returned (.string s22)))))) (fun u23 g23 => .done (.returned (.string u23.1))) := by kernel_rfl
/-! the tree of function 9 -/
def s9 : Script := .cl (.tup [.leaf .sl,.leaf (.int .i64),.leaf (.int .i64)]) (.sym .nil (.cl (.one (.leaf .str)) .nil))
theorem t9 (qs0 : ByteArray) : fnT Tryz.prog Tryz.f9 #[.string qs0] s9 = .call 11 #[.string qs0] (.tup [.leaf .sl,.leaf (.int .i64),.leaf (.int .i64)]) (fun r1 => .br (r1.snd.fst != 0) (.done (.returned (.tuple #[.string (bytesL []),.int .i64 0,.int .i64 r1.2.2.1,.int .i64 r1.2.1]))) (.call 16 #[.slice r1.1.1 r1.1.2.1 r1.1.2.2] (.one (.leaf .str)) (fun s2 => .done (.returned (.tuple #[.string s2,.int .i64 0,.int .i64 0,.int .i64 0]))))) := by kernel_rfl
abbrev tPieces : TypeId := 121
theorem infoPiece : (Tryz.prog.info? tPiece).map (fun i => (i.zero,i.size,i.bytes)) = some (some (.agg #[.string (bytesL []),.int .i64 0]),2,24) := by kernel_rfl
theorem cellsP_one (x : List PM) : ∀ u ∈ x.flatMap cellsP,u.oneCell' = true := fun u hu => by
 obtain ⟨p,_,hu⟩ := List.mem_flatMap.1 hu
 simp only [cellsP,List.mem_cons,List.not_mem_nil,or_false] at hu
 rcases hu with rfl | rfl <;> rfl
/-- A step as it may stand in a text's steps. -/
structure SmOk (x : SM) : Prop where
 op : x.op.length ≤ 20
 text : x.text.length ≤ 24
 num : Rng x.num
 n : x.n ≤ 1000
theorem quoM_len (s : Txt) : (quoM s).length ≤ 4 * s.length + 2 := by
 have := quos_len s
 unfold quoM
 rw [List.length_cons,List.length_append,List.length_singleton]
 omega
theorem pieceM_len (x : SM) (a : List PM) (hx : SmOk x) : (pieceM x a).1.length + 4 ≤ sumP a + 160 := by
 have ho := hx.op
 have ht := hx.text
 have sz : ∀ i,i < a.length → (a.getD i ([],0)).1.length + 4 ≤ sumP a := fun i hi => sumP_mem (getD_at hi)
 unfold pieceM
 split
 ·rename_i hc
  have f0 := from_len (a.getD 0 ([],0)) (opL x.op)
  have f1 := from_len (a.getD 1 ([],0)) (opR x.op)
  have g1 := glued_len (fromM (a.getD 0 ([],0)) (opL x.op)) x.op
  have g2 := glued_len (gluedB (fromM (a.getD 0 ([],0)) (opL x.op)) x.op) (fromM (a.getD 1 ([],0)) (opR x.op))
  have s2 : (a.getD 0 ([],0)).1.length + (a.getD 1 ([],0)).1.length + 8 ≤ sumP a := by
   match a,hc.2 with
   | [u,v],_ =>
    rw [sumP_cons,sumP_cons]
    simp only [List.getD_cons_zero,List.getD_cons_succ]
    omega
  dsimp only
  omega
 split
 ·rename_i hc
  have f0 := from_len (a.getD 0 ([],0)) 7
  have := sz 0 (by omega)
  rw [List.length_cons]
  omega
 split
 ·rename_i hc
  have f0 := from_len (a.getD 0 ([],0)) 3
  have g1 := glued_len tNot (fromM (a.getD 0 ([],0)) 3)
  have := sz 0 (by omega)
  have : tNot.length = 3 := rfl
  dsimp only
  omega
 split
 ·rename_i hc
  have L1 : tIf.length = 2 ∧ tThen.length = 4 ∧ tElse.length = 4 := ⟨rfl,rfl,rfl⟩
  have g1 := glued_len tIf (a.getD 0 ([],0)).1
  have g2 := glued_len (gluedB tIf (a.getD 0 ([],0)).1) tThen
  have g3 := glued_len (gluedB (gluedB tIf (a.getD 0 ([],0)).1) tThen) (a.getD 1 ([],0)).1
  have g4 := glued_len (gluedB (gluedB (gluedB tIf (a.getD 0 ([],0)).1) tThen) (a.getD 1 ([],0)).1) tElse
  have g5 := glued_len (gluedB (gluedB (gluedB (gluedB tIf (a.getD 0 ([],0)).1) tThen) (a.getD 1 ([],0)).1) tElse) (a.getD 2 ([],0)).1
  have s3 : (a.getD 0 ([],0)).1.length + (a.getD 1 ([],0)).1.length + (a.getD 2 ([],0)).1.length + 12 ≤ sumP a := by
   match a,hc.2 with
   | [u,v,q],_ =>
    rw [sumP_cons,sumP_cons,sumP_cons]
    simp only [List.getD_cons_zero,List.getD_cons_succ]
    omega
  dsimp only
  omega
 have hr := rowF_len true a
 split
 ·rw [List.length_cons,List.length_append,List.length_singleton]
  omega
 split
 ·have := Lib.itoa_length_le x.num hx.num.1 hx.num.2
  dsimp only
  omega
 split
 ·have := quoM_len x.text
  dsimp only
  omega
 split
 ·dsimp only
  omega
 ·rw [List.length_append,List.length_cons,List.length_append,List.length_singleton]
  omega
theorem sumP_take (a : List PM) (k : Nat) : sumP (a.take k) + sumP (a.drop k) = sumP a := by
 have := sumP_app (a.take k) (a.drop k)
 rw [List.take_append_drop] at this
 exact this.symm
theorem sumP_four (a : List PM) : 4 * a.length ≤ sumP a := by
 induction a with
 | nil => exact Nat.zero_le _
 | cons p r ih => rw [sumP_cons,List.length_cons]; omega
/-- Steps that stand somewhere. -/
def AtS (w : World) (p : Option Addr) (n : Nat) (l : List SM) : Prop := l.length = n ∧ (0 < n → ∃ g,p = some ⟨g,0,none⟩ ∧ ∀ (j : Nat) (u : Value),(l.flatMap cellsS)[j]? = some u → w.cell? ⟨g,j,none⟩ = some u)
theorem AtS.no {w w' : World} {p : Option Addr} {n : Nat} {a : List SM} (h : AtS w p n a) (hc : Ch No w w') : AtS w' p n a := ⟨h.1,fun hn => by
 obtain ⟨g,e,hj⟩ := h.2 hn
 exact ⟨g,e,fun j u hu => hc.cellv (hj j u hu) (fun h => h)⟩⟩
theorem cellsS_get : ∀ {l : List SM} {i : Nat} {p : SM} {j : Nat},l[i]? = some p → j < 4 → (l.flatMap cellsS)[i * 4 + j]? = (cellsS p)[j]?
 | a :: r,0,p,j,h,hj => by
  obtain rfl : a = p := by simpa using h
  rw [List.flatMap_cons,List.getElem?_append_left (by show _ < 4; omega),Nat.zero_mul,Nat.zero_add]
 | a :: r,i + 1,p,j,h,hj => by
  rw [List.flatMap_cons,List.getElem?_append_right (by show 4 ≤ _; omega),show (i + 1) * 4 + j - (cellsS a).length = i * 4 + j by show (i + 1) * 4 + j - 4 = _; omega]
  exact cellsS_get (by simpa using h) hj
theorem AtS.get {w : World} {p : Option Addr} {n i : Nat} {l : List SM} {x : SM} (h : AtS w p n l) (hx : l[i]? = some x) : ∃ g,p = some ⟨g,0,none⟩ ∧ ∀ j u,j < 4 → (cellsS x)[j]? = some u → w.cell? ⟨g,i * 4 + j,none⟩ = some u := by
 have hi := (List.getElem?_eq_some_iff.1 hx).1
 obtain ⟨g,e,hj⟩ := h.2 (by rw [← h.1]; omega)
 exact ⟨g,e,fun j u h4 hu => hj _ _ (by rw [cellsS_get hx h4]; exact hu)⟩
theorem written_any (w : World) (p : Option Addr) (n c : Nat) (l : List SM) (h : AtS w p n l) (hl : l.length ≤ 1000) (hok : ∀ x ∈ l,SmOk x) (hT : Tabs w) :
  Calls Tryz.prog 16 #[.slice p n c] w fun e w' => Ch No w w' ∧ e = .returned (.string (bytesL (writtenM l))) := by
 refine calls_of_fnT mixed Tryz.func16 (s := s16) ?_
 rw [t16]
 have hn := h.1
 refine loop_i mixed m16_1 s16_1 (by kernel_rfl) (by kernel_rfl)
  (fun (v : (Option Addr × Nat × Nat) × Int × Unit) w' => ∃ (i : Nat) (st : List PM),v.2.1 = (i : Nat) ∧ i ≤ n ∧ Ch No w w' ∧ Row w' w.heap.size tPiece 2 v.1.1 v.1.2.1 v.1.2.2 (st.flatMap cellsP) ∧ runM (l.drop i) st = runM l [] ∧ sumP st ≤ 170 * i)
  (fun (v : (Option Addr × Nat × Nat) × Int × Unit) _ => n - v.2.1.toNat) ((none,0,0),0,()) rfl ⟨0,[],rfl,by omega,Ch.refl _ _,Row.nil _ _ _ _,rfl,Nat.le_refl _⟩ ?_
 rintro ⟨⟨q,m,cc⟩,_,⟨⟩⟩ g w2 ⟨i,st,rfl,hi,h2,r2,hrun,hsum⟩
 rw [t16_1]
 dsimp only at r2 ⊢
 have hm := r2.len
 rw [cellsP_len] at hm
 have hst : st.length = m := by omega
 have hcap := r2.cap
 have h4 := sumP_four st
 have hz2 := h2.size
 refine br_both (fun e => ?_) fun e => ?_
 ·have e := lt_t e
  obtain ⟨x,hx⟩ : ∃ x,l[i]? = some x := ⟨_,List.getElem?_eq_getElem (by omega)⟩
  have hxk := hok x (List.mem_of_getElem? hx)
  have hxn := hxk.n
  have hdrop : l.drop i = x :: l.drop (i + 1) := by
   obtain ⟨hlt,rfl⟩ := List.getElem?_eq_some_iff.1 hx
   exact List.drop_eq_getElem_cons hlt
  obtain ⟨gs,rfl,hcs⟩ := (h.no h2).get hx
  refine ix_i (by omega) (by omega) ?_
  rw [Int.toNat_natCast,addr_add,addr_add,Nat.zero_add]
  refine ld_int (hcs 1 _ (by omega) rfl) ?_
  have hw : IntKind.i64.wrap ((m : Int) - (x.n : Int)) = (m : Int) - (x.n : Int) := wrap_in (by omega) (by omega)
  rw [hw]
  rw [hdrop,runM] at hrun
  refine br_both (fun e2 => ?_) fun e2 => ?_
  ·have e2 := lt_t e2
   rw [if_pos (by omega)] at hrun
   refine ⟨(bytesL [],()),rfl,fun g => ⟨h2,?_⟩⟩
   unfold writtenM
   rw [← hrun]
  ·have e2 := lt_f e2
   rw [if_neg (by omega)] at hrun
   obtain ⟨k,hk⟩ : ∃ k : Nat,k = st.length - x.n := ⟨_,rfl⟩
   rw [← hk] at hrun
   have hki : (m : Int) - (x.n : Int) = ((k : Nat) : Int) := by omega
   rw [hki]
   have hkm : k ≤ m := by omega
   have hd := (Ch.refl No w2).drew
   have hsub : AtP w2.drew (if cc = ((k : Nat) : Int).toNat then q else Option.map (fun a : Addr => a.add (((k : Nat) : Int).toNat * 2)) q) (m - ((k : Nat) : Int).toNat) (st.drop k) := by
    rw [Int.toNat_natCast]
    refine ⟨by rw [List.length_drop]; omega,fun hpos => ?_⟩
    obtain ⟨gp,rfl,hgp,hcp⟩ := r2.get (by omega)
    rw [if_neg (by omega)]
    refine ⟨gp,k * 2,by simp only [Option.map_some,addr_add,Nat.zero_add],fun j u hu => hd.cellv (hcp _ _ ?_) (fun h => h)⟩
    have hsplit : st.flatMap cellsP = (st.take k).flatMap cellsP ++ (st.drop k).flatMap cellsP := by rw [← List.flatMap_append,List.take_append_drop]
    rw [hsplit,List.getElem?_append_right (by rw [cellsP_len,List.length_take]; omega),cellsP_len,List.length_take,show k * 2 + j - 2 * min k st.length = j by omega]
    exact hu
   have hsd : sumP (st.take k) + sumP (st.drop k) = sumP st := sumP_take st k
   have hpl := pieceM_len x (st.drop k) hxk
   refine cut_i mixed s16_4 (fun (v : Nat × Unit) w' => Ch No w2 w' ∧ Blk w' v.1 (cellsP (pieceM x (st.drop k))) tPiece) (by kernel_rfl) (fun g => ?_) ?_
   ·rw [t16_4]
    dsimp only
    rw [hw,hki]
    have ld : ∀ w',Ch No w2.drew w' → ∀ j u,j < 4 → (cellsS x)[j]? = some u → w'.cell? ⟨gs,i * 4 + j,none⟩ = some u := fun w' hw' j u hj hu => hw'.cellv (hd.cellv (hcs j u hj hu) (fun h => h)) (fun h => h)
    refine hd_i (fun w' => Ch No w2.drew w') (Ch.refl _ _) (ix_i (by omega) (by omega) ?_)
    rw [Int.toNat_natCast i,addr_add,addr_add,addr_add,addr_add,Nat.zero_add]
    refine lh_str (fun w' h => ld w' h 0 _ (by omega) rfl) (lh_int (fun w' h => ld w' h 1 _ (by omega) rfl) (lh_int (fun w' h => ld w' h 2 _ (by omega) rfl) (lh_str (fun w' h => ld w' h 3 _ (by omega) rfl) (nd3 (by omega) (by omega) (by omega) ?_))))
    refine ⟨?_,?_,trivial⟩
    ·refine eff_i (cl_i (piece_any w2.drew x _ _ _ (st.drop k) hsub (by omega) (by have := hxk.op; omega) (by have := hxk.text; omega) hxk.num (hT.no (h2.trans hd))) ?_)
     rintro e w5 ⟨h5,rfl⟩
     refine ⟨(bytesL (pieceM x (st.drop k)).1,(((pieceM x (st.drop k)).2 : Nat) : Int),()),rfl,bk h5 (eff_i (nw fun w6 h6 z6 n6 => bk (h5.trans h6) (eff_i ?_)))⟩
     refine st_blk n6 (by simp) rfl fun w7 h7 z7 n7 => st_blk n7 (by simp) rfl fun w8 h8 z8 n8 => ?_
     have hz5 := h5.size
     have c8 : Ch No w2.drew w8 := (h5.trans h6).then_ (h7.trans h8) (fun k hk (e : k = w5.heap.size) => by omega)
     exact bk c8 (un_h ⟨rfl,(w5.heap.size,()),rfl,hd.trans c8,n8⟩)
    ·refine eff_i (nw fun w5 h5 z5 n5 => bk h5 (eff_i (cl_i (piece_any w5 x _ _ _ (st.drop k) (hsub.no h5) (by omega) (by have := hxk.op; omega) (by have := hxk.text; omega) hxk.num (hT.no ((h2.trans hd).trans h5))) ?_)))
     rintro e w6 ⟨h6,rfl⟩
     refine ⟨(bytesL (pieceM x (st.drop k)).1,(((pieceM x (st.drop k)).2 : Nat) : Int),()),rfl,bk (h5.trans h6) (eff_i ?_)⟩
     refine st_blk (n5.ch h6 (fun h => h)) (by simp) rfl fun w7 h7 z7 n7 => st_blk n7 (by simp) rfl fun w8 h8 z8 n8 => ?_
     have c8 : Ch No w2.drew w8 := (h5.trans h6).then_ (h7.trans h8) (fun k hk (e : k = w2.drew.heap.size) => by omega)
     exact bk c8 (un_h ⟨rfl,(w2.drew.heap.size,()),rfl,hd.trans c8,n8⟩)
   rintro ⟨nb,⟨⟩⟩ g w3 ⟨h3,b3⟩
   dsimp only at b3 ⊢
   generalize hP : pieceM x (st.drop k) = P at *
   refine nd3 (by decide) (by omega) (by omega) ?_
   rw [Int.toNat_natCast]
   have r3 := r2.no h3
   have hz3 := h3.size
   have again : ∀ (q4 : Option Addr) (c4 : Nat) (w4 : World),Ch No w3 w4 → Row w4 w.heap.size tPiece 2 q4 k c4 ((st.take k).flatMap cellsP) → Blk w4 nb (cellsP P) tPiece →
     ∀ {R : Ending → World → Prop} {Q : Exit → List (Tmp × Value) → World → Prop} {K : Option Addr × Nat × Nat → T},
     (∀ q5 c5 w5,Ch No w w5 → Row w5 w.heap.size tPiece 2 q5 (k + 1) c5 ((st.take k ++ [P]).flatMap cellsP) → wpT Tryz.prog R Q (K (q5,k + 1,c5)) .pl w5) →
     wpT Tryz.prog R Q (.load ⟨nb,0,none⟩ .str (fun s16 => .load ⟨nb,1,none⟩ (.int .i64) (fun x17 => .new (.cells #[.string s16,.int .i64 x17] tPiece (0,0)) (fun n18 =>
      .run (builtin .append #[tPieces,tPieces] tPieces #[false,false] #[.slice q4 k c4,.slice (some ⟨n18,0,none⟩) 1 1]) (.one (.leaf .sl)) K)))) .pl w4 := fun q4 c4 w4 h4 r4 b4 => fun {R Q K} hK => by
    refine ld_str (b4.cell 0) (ld_int (b4.cell 1) (nw fun w5 h5 z5 n5 => ?_))
    have hz4 := h4.size
    have hz5 := h5.size
    refine ap_blk (by kernel_rfl) infoPiece rfl (by omega) (r4.no h5) (by omega) n5 (by rfl) (cellsP_one [P]) (by unfold maxLen; omega) (by omega) fun q' c' w6 g6 => hK q' c' w6 ?_ ?_
    ·exact (((h2.trans h3).trans h4).trans h5).then_ g6.ch (fun k hk hb => by have := ((r4.no h5).lt hb).1; omega)
    ·rw [List.flatMap_append]
     exact g6.own
   have fin : ∀ q5 c5 w5,Ch No w w5 → Row w5 w.heap.size tPiece 2 q5 (k + 1) c5 ((st.take k ++ [P]).flatMap cellsP) →
     ∃ v : MVars m16_1,[((3 : Tmp),Value.slice q5 (k + 1) c5),(4,.int .i64 (IntKind.i64.wrap ((i : Int) + 1)))] = mvals m16_1 v ∧ ((∃ (i : Nat) (st : List PM),v.2.1 = (i : Nat) ∧ i ≤ n ∧ Ch No w w5 ∧ Row w5 w.heap.size tPiece 2 v.1.1 v.1.2.1 v.1.2.2 (st.flatMap cellsP) ∧ runM (l.drop i) st = runM l [] ∧ sumP st ≤ 170 * i) ∧ n - v.2.1.toNat < n - ((i : Nat) : Int).toNat) := fun q5 c5 w5 hc5 r5 => by
    refine ⟨((q5,k + 1,c5),(i : Int) + 1,()),by rw [wrap_succ (by omega) (by omega)]; rfl,⟨i + 1,st.take k ++ [P],rfl,by omega,hc5,r5,hrun,?_⟩,?_⟩
    ·rw [sumP_app,sumP_cons]
     have : sumP ([] : List PM) = 0 := rfl
     omega
    ·show n - ((i : Int) + 1).toNat < n - ((i : Nat) : Int).toNat
     omega
   rcases hq : q with _ | a0
   ·-- nothing stands there yet
    subst hq
    have h0 : m = 0 ∧ cc = 0 := by
     rcases r3.2 with ⟨h',rfl⟩ | ⟨g',cap,cur,h',_⟩
     ·simp only [Value.slice.injEq] at h'
      exact ⟨rfl,h'.2.2⟩
     ·simp only [Value.slice.injEq] at h'
      cases h'.1
    obtain ⟨rfl,rfl⟩ := h0
    obtain rfl : k = 0 := by omega
    have hi' := infoPiece
    cases hi2 : Tryz.prog.info? tPiece with
    | none => rw [hi2] at hi'; cases hi'
    | some ii =>
     have hr := run_append_owned_none (P := Tryz.prog) (w := w3) w.heap.size tPieces tPieces tPiece ii 2 (by kernel_rfl) hi2 (.slice none 0 0) 0 [] (Row.nil w3 w.heap.size tPiece 2)
     have e0 : Value.slice (if (0 : Nat) = 0 then (none : Option Addr) else Option.map (fun a : Addr => a.add (0 * 2)) none) (0 - 0) (0 - 0) = .slice none 0 0 := by simp
     rw [e0]
     refine t_run (x := (none,0,0)) (w' := w3) ?_ ?_
     ·simp only [builtin,Sem.run_bind,hr]
      rfl
     ·exact again none 0 w3 (Ch.refl _ _) (Row.nil _ _ _ _) b3 fun q5 c5 w5 hc5 r5 => fin q5 c5 w5 hc5 r5
   ·subst hq
    have hm0 : ∃ gp,a0 = ⟨gp,0,none⟩ ∧ ∀ j u,((st.take k).flatMap cellsP)[j]? = some u → w3.cell? ⟨gp,j,none⟩ = some u := by
     rcases r3.2 with ⟨h',_⟩ | ⟨g',cap,cur,h',_⟩
     ·simp only [Value.slice.injEq] at h'
      cases h'.1
     ·have h0 := h'
      simp only [Value.slice.injEq,Option.some.injEq,true_and] at h0
      obtain ⟨rfl,rfl⟩ := h0
      refine ⟨g',rfl,fun j u hu => ?_⟩
      have hj := World.ownsRow.cells (g := g') r3 rfl j u (by
       have hsplit : st.flatMap cellsP = (st.take k).flatMap cellsP ++ (st.drop k).flatMap cellsP := by rw [← List.flatMap_append,List.take_append_drop]
       rw [hsplit,List.getElem?_append_left (List.getElem?_eq_some_iff.1 hu).1]
       exact hu)
      rw [addr_add,Nat.zero_add] at hj
      exact hj
    obtain ⟨gp,rfl,hcp⟩ := hm0
    have e0 : Value.slice (if cc = 0 then some (⟨gp,0,none⟩ : Addr) else Option.map (fun a : Addr => a.add (0 * 2)) (some ⟨gp,0,none⟩)) (k - 0) (cc - 0) = .slice (some ⟨gp,0,none⟩) k cc := by
     simp only [Option.map_some,addr_add,Nat.zero_mul,Nat.add_zero,ite_self,Nat.sub_zero]
    rw [e0]
    refine ap_row (by kernel_rfl) infoPiece rfl (by omega) (Row.nil w3 w.heap.size tPiece 2) (by omega) ((st.take k).flatMap cellsP) (by rw [cellsP_len,List.length_take]; omega) (fun j u hu => by rw [addr_add,Nat.zero_add]; exact hcp j u hu) (cellsP_one _) (by unfold maxLen; omega) (by omega) fun q' c' w4 g4 => ?_
    have own := g4.own
    rw [List.nil_append,Nat.zero_add] at own
    have c4 : Ch No w3 w4 := g4.ch.mono fun k hk => by unfold rowS Value.ownBlock at hk; cases hk
    rw [Nat.zero_add]
    exact again q' c' w4 c4 own (b3.ch c4 (fun h => h)) fun q5 c5 w5 hc5 r5 => fin q5 c5 w5 hc5 r5
 ·have e := lt_f e
  obtain rfl : i = n := by omega
  rw [List.drop_of_length_le (by omega),runM] at hrun
  refine ⟨rfl,((q,m,cc),()),rfl,fun g => ?_⟩
  dsimp only
  refine br_both (fun e => ?_) fun e => ?_
  ·have e := ne_t e
   refine ⟨h2,?_⟩
   have : writtenM l = [] := by
    unfold writtenM
    rw [← hrun]
    match st,hst with
    | [],_ => rfl
    | [u],hst => exact absurd (by rw [← hst]; rfl) e
    | u :: v :: r,_ => rfl
   rw [this]
  ·have e := ne_f e
   obtain ⟨u,rfl⟩ : ∃ u,st = [u] := by
    match st,hst with
    | [],hst => rw [← hst] at e; simp at e
    | [u],_ => exact ⟨u,rfl⟩
    | u :: v :: r,hst => rw [← hst] at e; simp only [List.length_cons] at e; omega
   obtain ⟨gp,rfl,hgp,hcp⟩ := r2.get (by omega)
   refine ix_i (by omega) (by omega) ?_
   rw [addr_add]
   refine ld_str (hcp 0 _ rfl) ⟨h2,?_⟩
   unfold writtenM
   rw [← hrun]
theorem op_len : ∀ op ∈ tOr :: tAnd :: tNot :: tIf :: nNeg :: nList :: nNum :: nText :: (plainM ++ binOps),op.length ≤ 20 := by decide
theorem name_len : ∀ i < 14,(nameB i).length ≤ 20 ∧ takesB i ≤ 3 := by decide
theorem rng0 : Rng 0 := ⟨by decide,by decide⟩
theorem szL_len : ∀ l : List N,(∀ n ∈ l,1 ≤ szN n) → l.length ≤ szL l
 | [],_ => Nat.zero_le _
 | x :: l,h => by
  have := szL_len l (fun n hn => h n (.tail _ hn))
  have := h x (.head _)
  rw [List.length_cons,szL]
  omega
theorem szN_pos : ∀ n,1 ≤ szN n := fun n => by cases n <;> simp only [szN] <;> omega
mutual
/-- What stands in a tree's steps. -/
theorem flat_ok : ∀ n,WfN n → szN n ≤ 100 → (∀ x ∈ flat n,SmOk x) ∧ (flat n).length ≤ szN n
 | .num n,h,_ => by
  refine ⟨fun x hx => ?_,Nat.le_refl _⟩
  simp only [flat,List.mem_singleton] at hx
  subst hx
  exact ⟨op_len nNum (by decide),Nat.zero_le _,⟨by have := h.1; show (-9223372036854775808 : Int) ≤ n; omega,h.2⟩,Nat.zero_le _⟩
 | .quo s,h,_ => by
  refine ⟨fun x hx => ?_,Nat.le_refl _⟩
  simp only [flat,List.mem_singleton] at hx
  subst hx
  exact ⟨op_len nText (by decide),h,rng0,Nat.zero_le _⟩
 | .wrd w,h,_ => by
  refine ⟨fun x hx => ?_,Nat.le_refl _⟩
  simp only [flat,List.mem_singleton] at hx
  subst hx
  exact ⟨op_len _ (by simp only [List.mem_cons,List.mem_append]; exact .inr (.inr (.inr (.inr (.inr (.inr (.inr (.inr (.inl h))))))))),Nat.zero_le _,rng0,Nat.zero_le _⟩
 | .un op a,h,hs => by
  simp only [szN] at hs
  obtain ⟨h1,h2⟩ := flat_ok a h.2 (by omega)
  refine ⟨fun x hx => ?_,?_⟩
  ·simp only [flat,List.mem_append,List.mem_singleton] at hx
   rcases hx with hx | rfl
   ·exact h1 x hx
   ·refine ⟨?_,Nat.zero_le _,rng0,by show 1 ≤ 1000; omega⟩
    show (if op = tNot then tNot else nNeg).length ≤ 20
    split <;> exact op_len _ (by decide)
  ·simp only [flat,List.length_append,List.length_singleton,szN]
   omega
 | .bin op a b,h,hs => by
  simp only [szN] at hs
  obtain ⟨h1,h2⟩ := flat_ok a h.2.1 (by omega)
  obtain ⟨h3,h4⟩ := flat_ok b h.2.2 (by omega)
  refine ⟨fun x hx => ?_,?_⟩
  ·simp only [flat,List.mem_append,List.mem_singleton] at hx
   rcases hx with hx | hx | rfl
   ·exact h1 x hx
   ·exact h3 x hx
   ·exact ⟨op_len _ (by simp only [List.mem_cons,List.mem_append]; exact .inr (.inr (.inr (.inr (.inr (.inr (.inr (.inr (.inr h.1))))))))),Nat.zero_le _,rng0,by show 2 ≤ 1000; omega⟩
  ·simp only [flat,List.length_append,List.length_singleton,szN]
   omega
 | .cnd c a b,h,hs => by
  simp only [szN] at hs
  obtain ⟨h1,h2⟩ := flat_ok a h.2.1 (by omega)
  obtain ⟨h3,h4⟩ := flat_ok b h.2.2 (by omega)
  obtain ⟨h5,h6⟩ := flat_ok c h.1 (by omega)
  refine ⟨fun x hx => ?_,?_⟩
  ·simp only [flat,List.mem_append,List.mem_singleton] at hx
   rcases hx with hx | hx | hx | rfl
   ·exact h5 x hx
   ·exact h1 x hx
   ·exact h3 x hx
   ·exact ⟨op_len _ (by decide),Nat.zero_le _,rng0,by show 3 ≤ 1000; omega⟩
  ·simp only [flat,List.length_append,List.length_singleton,szN]
   omega
 | .lst l,h,hs => by
  simp only [szN] at hs
  obtain ⟨h1,h2⟩ := flats_ok l h (by omega)
  have hl := szL_len l (fun n _ => szN_pos n)
  refine ⟨fun x hx => ?_,?_⟩
  ·simp only [flat,List.mem_append,List.mem_singleton] at hx
   rcases hx with hx | rfl
   ·exact h1 x hx
   ·exact ⟨op_len nList (by decide),Nat.zero_le _,rng0,by show l.length ≤ 1000; omega⟩
  ·simp only [flat,List.length_append,List.length_singleton,szN]
   omega
 | .cal i l,h,hs => by
  simp only [szN] at hs
  obtain ⟨h1,h2⟩ := flats_ok l h.2.2 (by omega)
  have hl := szL_len l (fun n _ => szN_pos n)
  refine ⟨fun x hx => ?_,?_⟩
  ·simp only [flat,List.mem_append,List.mem_singleton] at hx
   rcases hx with hx | rfl
   ·exact h1 x hx
   ·exact ⟨(name_len i h.1).1,Nat.zero_le _,rng0,by show l.length ≤ 1000; omega⟩
  ·simp only [flat,List.length_append,List.length_singleton,szN]
   omega
theorem flats_ok : ∀ l,WfL l → szL l ≤ 100 → (∀ x ∈ flats l,SmOk x) ∧ (flats l).length ≤ szL l
 | [],_,_ => ⟨fun x hx => by simp [flats] at hx,Nat.le_refl _⟩
 | n :: l,h,hs => by
  simp only [szL] at hs
  obtain ⟨h1,h2⟩ := flat_ok n h.1 (by omega)
  obtain ⟨h3,h4⟩ := flats_ok l h.2 (by omega)
  refine ⟨fun x hx => ?_,?_⟩
  ·simp only [flats,List.mem_append] at hx
   rcases hx with hx | hx
   ·exact h1 x hx
   ·exact h3 x hx
  ·simp only [flats,List.length_append,szL]
   omega
end
/-- The one form, or the fault, as the document has it. -/
def canonM (l : Txt) : Except Er Txt := match parseE l with
 | .error c => .error c
 | .ok n => .ok (joinB (tks n))
theorem canon3_any (w : World) (s : ByteArray) (hT : Tabs w) : Calls Tryz.prog 9 #[.string s] w fun e w' => Ch No w w' ∧ match canonM s.data.toList with
  | .error c => e = .returned (.tuple #[.string (bytesL []),.int .i64 0,.int .i64 (c.2 : Nat),.int .i64 (c.1 : Nat)]) ∧ c.1 ≠ 0
  | .ok t => e = .returned (.tuple #[.string (bytesL t),.int .i64 0,.int .i64 0,.int .i64 0]) := by
 refine calls_of_fnT mixed Tryz.func9 (s := s9) ?_
 rw [t9]
 refine cl_i (read_all w s) ?_
 rintro e w1 ⟨v,rfl,h1,hx⟩
 refine ⟨v,rfl,?_⟩
 unfold canonM
 cases hp : parseE s.data.toList with
 | error c =>
  have hr : readM s.data.toList = .error c := by unfold readM; rw [hp]
  rw [hr] at hx
  obtain ⟨rfl,hc⟩ := hx
  exact br_true (bne_iff_ne.2 (fun h => hc (by have h : (c.1 : Int) = 0 := h; omega))) ⟨h1,rfl,hc⟩
 | ok n =>
  have hr : readM s.data.toList = .ok (flat n) := by unfold readM; rw [hp]
  rw [hr] at hx
  obtain ⟨⟨p,m,c⟩,v2⟩ := v
  obtain ⟨rfl,hrow⟩ := hx
  dsimp only at hrow
  obtain ⟨hwf,hsz,hl⟩ := parse_gd hp
  obtain ⟨hok,hlen⟩ := flat_ok n hwf hsz
  refine br_false rfl ?_
  have hat : AtS w1 p m (flat n) := by
   have hl := hrow.len
   rw [cellsS_len] at hl
   refine ⟨by omega,fun hpos => ?_⟩
   obtain ⟨g,h1,h2,h3⟩ := hrow.get hpos
   exact ⟨g,h1,h3⟩
  refine cl_i (written_any w1 p m c (flat n) hat (by omega) hok (hT.no h1)) ?_
  rintro e w2 ⟨h2,rfl⟩
  refine ⟨_,rfl,h1.trans h2,?_⟩
  rw [written_flat n hwf]
end Go.Proofs.YtmdmomccibpjbaaGreatDoor.E
