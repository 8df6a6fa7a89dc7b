/- ExprReads (a tied card, the first form): whatever the texts, the law answers true: expr.Check and expr.Canon answer as the document's own reading and writing do, and leave the texts as they were. Conditions: the row's own: the listed variables of the program and of the library read as laid. -/
import Derived.Test.YtmdmomccibpjbaaGreatDoorBld
import Derived.Test.YtmdmomccibpjbaaGreatDoorRzg
import Derived.Shelf.Vars
import Derived.ChangeMaps5
import Derived.Lib.LaidU8
import Derived.Lib.SmallJoins
import Derived.Deep.DeepWitnessRowRef
import Derived.SizedLaws
namespace Go.Proofs.YtmdmomccibpjbaaGreatDoor
open Go Go.ChangeShapes Go.WideShapes Go.ChangeAt Go.RowKit
set_option maxRecDepth 100000
theorem own : ownKnob Tryz.prog.godebug = none := by kernel_rfl
theorem rowStrs : Tryz.prog.readableRec 22 = true ∧ 22 < Tryz.prog.types.size := ⟨by kernel_rfl,of_decide_eq_true (by kernel_rfl)⟩
theorem cStr : Tryz.prog.cellsOf 9 = 1 := by kernel_rfl
/-! ### the listed variables -/
theorem globN : decide (10 ≤ Tryz.prog.globals.size) = true := by kernel_rfl
theorem last_there : ((begin Tryz.prog (fun _ _ => 0) default).world.heap[10 - 1]?).bind Obj.row? |>.isSome := by kernel_rfl
theorem pow_is : (Rows.laid_internal_strconv_uint64pow10 : DataW Unit) = Lib.tabData .u64 Lib.pow10Tab := by kernel_rfl
theorem gPow : Tryz.prog.globalNamed "internal/strconv.uint64pow10" = some 2 := by kernel_rfl
theorem gPowT : (Tryz.prog.globals[2]?).map (·.type) = some 170 := by kernel_rfl
theorem cellsTab : Tryz.prog.cellsOf 170 = 20 := by kernel_rfl
theorem cellsU64 : Tryz.prog.cellsOf 156 = 1 := by kernel_rfl
theorem pow_of {w : World} (h5 : Lib.VarReads Tryz.prog w "internal/strconv.uint64pow10" (Lib.tabData .u64 Lib.pow10Tab)) : Lib.TabIs Tryz.prog w "internal/strconv.uint64pow10" .u64 Lib.pow10Tab := by
 obtain ⟨g,t,cs,fuel,p,hg,hty,hvar,hd⟩ := h5
 obtain rfl := Option.some.inj (gPow.symm.trans hg)
 obtain rfl := Option.some.inj (gPowT.symm.trans hty)
 have hcs := Lib.cells_of_tab Tryz.underlying170 Tryz.underlying156 cellsU64 cellsTab hd
 unfold Lib.TabIs
 rw [hvar,← hcs]
theorem u8extra : U8Extra Tryz.prog Tryz.lays260_ren := ⟨by kernel_rfl,by kernel_rfl,by kernel_rfl,by kernel_rfl,by kernel_rfl,by kernel_rfl,by kernel_rfl⟩
theorem first_is : Rows.laid_unicode_utf8_first = Lib.firstData := by kernel_rfl
theorem accept_is : (Rows.laid_unicode_utf8_acceptRanges : DataW Unit) = Lib.acceptData := by kernel_rfl
theorem gRange : Tryz.prog.globalNamed "strconv.ErrRange" = some 9 := by kernel_rfl
theorem gRangeT : (Tryz.prog.globals[9]?).map (·.type) = some 26 := by kernel_rfl
theorem ev_of {w : World} {d : DataW Unit} (h : Lib.VarReads Tryz.prog w "strconv.ErrRange" (.iface "*errors.errorString" d)) : V.Ev w := by
 obtain ⟨g,t,cs,fuel,p,hg,hty,hvar,hd⟩ := h
 obtain rfl := Option.some.inj (gRange.symm.trans hg)
 obtain rfl := Option.some.inj (gRangeT.symm.trans hty)
 have hc0 := World.var?_cell hg hvar 0
 rw [← Array.getElem?_toList] at hc0
 cases fuel with
 | zero => simp [DataW.trod] at hd
 | succ fuel =>
  simp only [DataW.trod,Tryz.underlying26] at hd
  split at hd <;> simp_all
  exact ⟨_,_,hc0⟩
/-- A table of texts. -/
def txtsD (l : List (List UInt8)) : DataW Unit := .agg (l.map fun t => .lit (.string t))
theorem words_is : (Rows.laid_eddy_expr_words : DataW Unit) = txtsD E.wordsM := by kernel_rfl
theorem signs_is : (Rows.laid_eddy_expr_signs : DataW Unit) = txtsD E.signsM := by kernel_rfl
theorem gWords : Tryz.prog.globalNamed "eddy/expr.words" = some 1 := by kernel_rfl
theorem gWordsT : (Tryz.prog.globals[1]?).map (·.type) = some 163 := by kernel_rfl
theorem gSigns : Tryz.prog.globalNamed "eddy/expr.signs" = some 0 := by kernel_rfl
theorem gSignsT : (Tryz.prog.globals[0]?).map (·.type) = some 150 := by kernel_rfl
/-- A table of texts that reads as laid: its cells. -/
theorem txts_of {w : World} {name : String} {l : List (List UInt8)} {g : Nat} {t : TypeId} {n : Nat} (hg0 : Tryz.prog.globalNamed name = some g) (ht0 : (Tryz.prog.globals[g]?).map (·.type) = some t)
  (hu : Tryz.prog.underlying t = some (.array n 9)) (hl : l.length = n) (h : Lib.VarReads Tryz.prog w name (txtsD l)) :
  ∀ (j : Nat) (x : List UInt8),l[j]? = some x → w.cell? ⟨g,j,none⟩ = some (.string (Tr.bytesL x)) := by
 obtain ⟨g',t',cs,fuel,p,hg',hty',hvar,hd⟩ := h
 obtain rfl := Option.some.inj (hg0.symm.trans hg')
 obtain rfl := Option.some.inj (ht0.symm.trans hty')
 intro j x hx
 have hi : j < n := by rw [← hl]; exact (List.getElem?_eq_some_iff.1 hx).1
 obtain ⟨fuel',d,q,hdi,hre⟩ := Lib.array_elem hu hd j hi
 rw [List.getElem?_map,hx] at hdi
 cases hdi
 rw [cStr,Nat.mul_one] at hre
 obtain ⟨s,e0,e1,-⟩ := DataW.trod_string Tryz.underlying9 hre
 cases e1
 have e2 := congrArg (·[0]?) e0
 simp only [List.getElem?_take,List.getElem?_drop,Nat.add_zero] at e2
 rw [World.var?_cell hg0 hvar j,← Array.getElem?_toList]
 simpa using e2
theorem globE_of {w : World} (hS : w.ShapedOpen Tryz.prog) (hL : laidMet Tryz.prog Rows.exprReadsRow.laid w) : E.GlE w where
 words := txts_of (name := "eddy/expr.words") gWords gWordsT Tryz.underlying163 rfl (by rw [← words_is]; exact Lib.laidMet.reads hL (by simp [Rows.exprReadsRow]))
 signs := txts_of (name := "eddy/expr.signs") gSigns gSignsT Tryz.underlying150 rfl (by rw [← signs_is]; exact Lib.laidMet.reads hL (by simp [Rows.exprReadsRow]))
 tabs := ⟨utf8Tabs_of_reads Tryz.lays260 u8extra (by rw [← first_is]; exact Lib.laidMet.reads hL (by simp [Rows.exprReadsRow])) (by rw [← accept_is]; exact Lib.laidMet.reads hL (by simp [Rows.exprReadsRow])),pow_of (by rw [← pow_is]; exact Lib.laidMet.reads hL (by simp [Rows.exprReadsRow]))⟩
 ev := ev_of (Lib.laidMet.reads hL (d := Rows.laid_strconv_ErrRange) (by simp [Rows.exprReadsRow]))
 big := by
  obtain ⟨h1,_⟩ := hS
  obtain ⟨⟨z,t⟩,he⟩ := Option.isSome_iff_exists.1 last_there
  obtain ⟨cs,hc,_⟩ := h1 (10 - 1) z t (by have := of_decide_eq_true globN; omega) he
  have h8 : 10 - 1 < w.heap.size := (Array.getElem?_eq_some_iff.1 hc).1
  omega
/-! ### the texts that come in -/
theorem strs_in {H : Type} {enc : TypeId × Value → H} {w : World} {base : Nat} {sp : Nat → Bool} {held : Bool} {fuel : Nat} {p : Option Addr} {n c : Nat} {x : DataW H × List MemPlace}
  (h : DataW.trod enc Tryz.prog w base sp held fuel 22 [.slice p n c] = some x) : n ≤ 9223372036854775807 ∧ ∀ i < n,∃ ad s,p = some ad ∧ w.cell? (ad.add i) = some (.string s) := by
 have hm : maxLen = 9223372036854775807 := by decide
 rcases DataW.trod_slice Tryz.underlying22 h with ⟨e3,-⟩ | ⟨a,len,cap,el,rs,m,-,e3,-,-,hlc,hcap,hel,hget,-,-⟩
 ·simp only [List.cons.injEq,Value.slice.injEq,and_true] at e3
  obtain ⟨rfl,rfl,rfl⟩ := e3
  exact ⟨by omega,fun i h => by omega⟩
 ·simp only [List.cons.injEq,Value.slice.injEq,and_true] at e3
  obtain ⟨rfl,rfl,rfl⟩ := e3
  refine ⟨by omega,fun i hi => ?_⟩
  have h1 := hget i hi
  rw [cStr,Nat.mul_one,List.getElem?_eq_getElem (by omega)] at h1
  obtain ⟨cs',hc',ht'⟩ := Option.bind_eq_some_iff.1 h1
  obtain ⟨s,rfl,_,_⟩ := DataW.trod_string Tryz.underlying9 ht'
  obtain ⟨_,_,hcc⟩ := World.cells?_some hc'
  have := hcc 0 (by omega)
  rw [show (a.add i).add 0 = a.add i by simp [Addr.add]] at this
  exact ⟨a,s,rfl,this⟩
theorem contract (H : Type) (enc : TypeId × Value → H) (W : World) (base : Nat) (args : Array Value) (ds gs : List (DataW H)) (before : List MemPlace)
  (hval : ∀ (j : Nat) t v,Tryz.f3.params[j]? = some t → args[j]? = some v → Value.okWide Tryz.prog W .any base t v)
  (hW : DataW.Whole enc Tryz.prog Tryz.f3.params.toList Rows.exprReadsSpec.vars false W args.toList ds gs before) (hL : laidMetH Tryz.prog Rows.exprReadsRow.laid W) (hS : W.ShapedOpen Tryz.prog) :
  Calls Tryz.prog 3 args W fun e W' => ∃ v,e = .returned v ∧ Rows.exprReadsSpec.post enc Tryz.prog Tryz.f3 false true false false W args v W' := by
 have hW' := hW
 obtain ⟨p,q,hA0,hV,rfl,hfz,hnd⟩ := hW
 have hA : DataW.TrodAll enc Tryz.prog W 0 (fun _ => true) true Tryz.f3.params.toList args.toList ds p := hA0
 rw [Tryz.params3] at hA hval
 obtain ⟨v0,d0,rfl,rfl,h0⟩ := trodAll_one hA
 obtain ⟨rfl,rfl⟩ := trodVars_none hV
 obtain ⟨a,n,c,rfl⟩ := okWide_slice Tryz.underlying22 (hval 0 22 v0 rfl rfl)
 obtain ⟨fuel,h0'⟩ := h0
 obtain ⟨hn,hs⟩ := strs_in h0'
 refine (E.law_any W a n c hs hn (globE_of hS hL)).mono fun e W1 ⟨he,hc⟩ => ?_
 subst he
 refine ⟨_,rfl,post_law rfl rfl rfl (fun t ht => ?_) hW' hc⟩
 rw [Tryz.params3] at ht
 simp at ht
 subst ht
 exact rowStrs
abbrev wit : Array Value := #[.slice none 0 0]
theorem laid_met (os : Os) : laidMet Tryz.prog Rows.exprReadsRow.laid (((World.laidAll Tryz.prog os Rows.exprReadsRow.laid).forCall (fun _ _ => 0) ⟨#[],wit,[]⟩).memory) :=
 laidMet_laidAll _ (by kernel_rfl) (by kernel_rfl)
theorem reads (os : Os) {H : Type} (enc : TypeId × Value → H) : DataW.whole enc Tryz.prog (((World.laidAll Tryz.prog os Rows.exprReadsRow.laid).forCall (fun _ _ => 0) ⟨#[],wit,[]⟩).memory) Tryz.f3.params.toList Rows.exprReadsSpec.vars false wit.toList 8 = some ([.nil],[],[]) := by kernel_rfl
theorem lifted (os : Os) (started : os.Started) (H : Type) (enc : TypeId × Value → H) (F : Stop.Interp) :
  ReturnsInHanded {} Tryz.checked os 3 .any ((OpenSpec.ofChange Rows.exprReadsSpec).preRow enc Tryz.prog Tryz.f3 Rows.exprReadsRow.domain false Rows.exprReadsRow.laid) (((OpenSpec.ofChange Rows.exprReadsSpec).at F).post enc Tryz.prog Tryz.f3 false true false false) := by
 have hx := reads os enc
 refine returnsInHanded_of_row (C := Tryz.checked) (s := OpenSpec.ofChange Rows.exprReadsSpec) own started (by kernel_rfl) Tryz.func3
  (witness_row_atRef (enc := enc) (C := Tryz.checked) false (World.laidAll Tryz.prog os Rows.exprReadsRow.laid) wit (World.laidAll_os _ _ _) (by kernel_rfl) (by kernel_rfl) (by kernel_rfl)
   (OpenSpec.preRow_of_cond 8 hx (by kernel_rfl) (fun k hk => by cases hk) (by kernel_rfl) (laid_met os))) ?_
 intro W base args ds gs before hval hW _ _ _ hL hS _
 exact contract H enc W base args ds gs before hval hW hL hS
theorem said : Rows.ExprReadsSaid :=
 OpenClaim.holds_of_cond 3 Tryz.f3 rfl rfl rfl rfl rfl rfl rfl ⟨rfl,rfl,rfl,rfl,rfl⟩ rfl rfl rfl rfl rfl (by kernel_rfl) Tryz.func3 (by kernel_rfl)
  (of_decide_eq_true (by kernel_rfl)) (by unfold Func.isWrapper; first | (rw [if_pos (by decide +kernel)]; kernel_rfl) | (rw [if_neg (by decide +kernel)]; exact ⟨rfl,rfl⟩))
  (fun os started H enc _ F => by rw [OpenClaim.pre_eq_preRow]; exact lifted os started H enc F)
theorem plain (f : FuncId) (fn : Func) (hf : Tryz.pinned.checked.prog.funcNamed "eddy/eddylaw3.ExprReads" = some f) (hfn : Tryz.pinned.checked.prog.funcs[f]? = some fn) :
  true = Tryz.pinned.checked.prog.looks [] ∧ ∀ (j : Nat) t,fn.params[j]? = some t → Tryz.pinned.checked.prog.wantsStandIn t = false := by
 obtain rfl : f = 3 := Option.some.inj ((show Tryz.prog.funcNamed "eddy/eddylaw3.ExprReads" = some 3 by kernel_rfl).symm.trans hf) |>.symm
 obtain rfl : fn = Tryz.f3 := (Option.some.inj (Tryz.func3.symm.trans hfn)).symm
 refine ⟨by kernel_rfl,fun j t ht => ?_⟩
 rw [Tryz.params3] at ht
 have : t = 22 := by simpa using Array.mem_of_getElem? ht
 subst this
 exact (show Tryz.prog.wantsStandIn 22 = false by kernel_rfl)
theorem exprReads_holds : Rows.ExprReadsCardSaid :=
 Claim7.holds_tied_plain_at .later [] _ _ _ _ said (fun _ h => by cases h) (by kernel_rfl) (fun _ h => by cases h) exprReads_row_tie rfl ⟨rfl,rfl⟩ (by kernel_rfl) rfl plain (by kernel_rfl)
#print axioms exprReads_holds
end Go.Proofs.YtmdmomccibpjbaaGreatDoor
