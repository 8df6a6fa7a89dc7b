/- The document's reader: a call's bracket, closing brackets, commas. The document's reader: a token behind an operand. -/
import Derived.Test.YtmdmomccibpjbaaGreatDoorRxb
import Derived.Test.YtmdmomccibpjbaaGreatDoorCnc
namespace Go.Proofs.YtmdmomccibpjbaaGreatDoor.E
open Go Tr
open V (rest rest_cases restL sizeB pk_rest cx_i cp_i extract_list pk hexP)
set_option maxRecDepth 100000
set_option maxHeartbeats 2000000
/-! the tree of function 56 -/
abbrev fx56_4 (qa0 : Addr) (qs1 : ByteArray) (n2 : Nat) : List (Tmp × Value) := [(0,.pointer (some qa0)),(1,.string qs1),(5,.pointer (some ⟨n2,0,none⟩))]
abbrev mx56_4 : List (Tmp × Comp) := [(27,.leaf .bool)]
def s56_4 : Script := .ld (.int .u8) (.sym (.lit (.lit (.lit .nil))) (.lit (.ld .str (.lit (.lit .nil)))))
theorem t56_4 (qa0 : Addr) (qs1 : ByteArray) (n2 : Nat) (gg4 : Nat → Value) : pieceT Tryz.prog (at_ Tryz.f56 [1,1,1,0,0]) 44 (fx56_4 qa0 qs1 n2) gg4 (mx56_4.map (·.1)) [] [] s56_4 = .load ⟨n2,0,none⟩ (.int .u8) (fun x5 => .br (x5 != 115) (.fin .normal [(27,.bool true)]) (.load ⟨n2,3,none⟩ .str (fun s6 => .fin .normal [(27,.bool (!s6.toList == (bytesL [40]).toList))]))) := by kernel_rfl
def s56 : Script := .cl (.tup [.agg [.int .u8,.int .i64,.int .i64,.str],.leaf (.int .i64)]) (.sym (.ld (.int .i64) .nil) (.ct 1 [0,1,5] mx56_4 (.sym (.ld (.int .i64) .nil) (.cl (.one (.leaf (.int .i64))) (.sym (.ld (.int .i64) .nil) .nil)))))
theorem t56 (qa0 : Addr) (qs1 : ByteArray) : fnT Tryz.prog Tryz.f56 #[.pointer (some qa0),.string qs1] s56 = .call 21 #[.pointer (some qa0)] (.tup [.agg [.int .u8,.int .i64,.int .i64,.str],.leaf (.int .i64)]) (fun r1 => .new (.cells #[.int .u8 0,.int .i64 0,.int .i64 0,.string (bytesL [])] 64 (0,0)) (fun n2 => .store ⟨n2,0,none⟩ (.int .u8 r1.1.1) (.store ⟨n2,1,none⟩ (.int .i64 r1.1.2.1) (.store ⟨n2,2,none⟩ (.int .i64 r1.1.2.2.1) (.store ⟨n2,3,none⟩ (.string r1.1.2.2.2.1) (.br (r1.snd.fst != 0) (.load ⟨n2,1,none⟩ (.int .i64) (fun x3 => .store (qa0.add 1) (.int .i64 x3) (.done (.returned (.int .i64 r1.2.1))))) (.cut (at_ Tryz.f56 [1,1,1,0,0]) 44 (fx56_4 qa0 qs1 n2) mx56_4 (fun u7 g7 => .br u7.1 (.load ⟨n2,1,none⟩ (.int .i64) (fun x8 => .store (qa0.add 1) (.int .i64 x8) (.done (.returned (.int .i64 36))))) (.call 55 #[.pointer (some qa0),.string qs1] (.one (.leaf (.int .i64))) (fun x9 => .br (x9 != 0) (.load ⟨n2,1,none⟩ (.int .i64) (fun x10 => .store (qa0.add 1) (.int .i64 x10) (.done (.returned (.int .i64 x9))))) (.done (.returned (.int .i64 x9))))))))))))) := by kernel_rfl
/-! the tree of function 58 -/
abbrev fx58_5 (qa0 : Addr) (qs1 : ByteArray) (n2 : Nat) (x4 : Int) : List (Tmp × Value) := [(0,.pointer (some qa0)),(1,.string qs1),(5,.pointer (some ⟨n2,0,none⟩)),(6,.int .i64 (IntKind.i64.wrap (x4 + 1)))]
abbrev mx58_5 : List (Tmp × Comp) := [(15,.leaf .bool)]
def s58_5 : Script := .sym (.lit (.ld .str (.lit (.lit .nil)))) (.lit (.lit (.lit .nil)))
theorem t58_5 (qa0 : Addr) (qs1 : ByteArray) (n2 : Nat) (x4 : Int) (gg5 : Nat → Value) : pieceT Tryz.prog (at_ Tryz.f58 [1,1,1,1,0,0,0]) 58 (fx58_5 qa0 qs1 n2 x4) gg5 (mx58_5.map (·.1)) [] [] s58_5 = .br (qs1.toList == (bytesL [93]).toList) (.load ⟨n2,0,none⟩ .str (fun s6 => .fin .normal [(15,.bool (s6.toList == (bytesL [91]).toList))])) (.fin .normal [(15,.bool false)]) := by kernel_rfl
abbrev fx58_11 (qa0 : Addr) (qs1 : ByteArray) (n2 : Nat) (x4 : Int) : List (Tmp × Value) := [(0,.pointer (some qa0)),(1,.string qs1),(5,.pointer (some ⟨n2,0,none⟩)),(6,.int .i64 (IntKind.i64.wrap (x4 + 1)))]
abbrev mx58_11 : List (Tmp × Comp) := [(26,.leaf .bool)]
def s58_11 : Script := .sym (.lit (.ld .str (.lit (.lit .nil)))) (.lit (.lit (.lit .nil)))
theorem t58_11 (qa0 : Addr) (qs1 : ByteArray) (n2 : Nat) (x4 : Int) (gg11 : Nat → Value) : pieceT Tryz.prog (at_ Tryz.f58 [1,1,1,1,0,0,1,1,0]) 58 (fx58_11 qa0 qs1 n2 x4) gg11 (mx58_11.map (·.1)) [] [] s58_11 = .br (qs1.toList == (bytesL [41]).toList) (.load ⟨n2,0,none⟩ .str (fun s12 => .fin .normal [(26,.bool (s12.toList == (bytesL [40]).toList))])) (.fin .normal [(26,.bool false)]) := by kernel_rfl
abbrev fx58_16 (qa0 : Addr) (qs1 : ByteArray) (n2 : Nat) (x4 : Int) : List (Tmp × Value) := [(0,.pointer (some qa0)),(1,.string qs1),(5,.pointer (some ⟨n2,0,none⟩)),(6,.int .i64 (IntKind.i64.wrap (x4 + 1)))]
abbrev mx58_16 : List (Tmp × Comp) := [(34,.leaf .bool)]
def s58_16 : Script := .sym (.lit (.ld .str (.lit (.cl (.one (.leaf (.int .i64))) (.lit (.lit (.lit .nil))))))) (.lit (.lit (.lit (.lit (.lit .nil)))))
theorem t58_16 (qa0 : Addr) (qs1 : ByteArray) (n2 : Nat) (x4 : Int) (gg16 : Nat → Value) : pieceT Tryz.prog (at_ Tryz.f58 [1,1,1,1,0,0,1,1,1,1,0]) 58 (fx58_16 qa0 qs1 n2 x4) gg16 (mx58_16.map (·.1)) [] [] s58_16 = .br (qs1.toList == (bytesL [41]).toList) (.load ⟨n2,0,none⟩ .str (fun s17 => .call 23 #[.string s17] (.one (.leaf (.int .i64))) (fun x18 => .fin .normal [(34,.bool (x18 == IntKind.i64.wrap (x4 + 1)))]))) (.fin .normal [(34,.bool false)]) := by kernel_rfl
def s58 : Script := .cl (.one (.agg [.str,.int .i64,.int .i64])) (.ld .str (.sym .nil (.ld (.int .i64) (.ct 1 [0,1,5,6] mx58_5 (.sym (.cl (.tup []) (.cl (.tup []) (.ld (.int .i64) .nil))) (.ct 0 [0,1,5,6] mx58_11 (.sym (.cl (.tup []) (.ld (.int .i64) .nil)) (.ct 0 [0,1,5,6] mx58_16 (.sym (.ld .str (.cl (.tup []) (.cl (.tup []) (.ld (.int .i64) .nil)))) .nil)))))))))
theorem t58 (qa0 : Addr) (qs1 : ByteArray) : fnT Tryz.prog Tryz.f58 #[.pointer (some qa0),.string qs1] s58 = .call 22 #[.pointer (some qa0)] (.one (.agg [.str,.int .i64,.int .i64])) (fun r1 => .new (.cells #[.string (bytesL []),.int .i64 0,.int .i64 0] 68 (0,0)) (fun n2 => .store ⟨n2,0,none⟩ (.string r1.1) (.store ⟨n2,1,none⟩ (.int .i64 r1.2.1) (.store ⟨n2,2,none⟩ (.int .i64 r1.2.2.1) (.load ⟨n2,0,none⟩ .str (fun s3 => .br (s3.toList == (bytesL []).toList) (.done (.returned (.int .i64 36))) (.load ⟨n2,2,none⟩ (.int .i64) (fun x4 => .cut (at_ Tryz.f58 [1,1,1,1,0,0,0]) 58 (fx58_5 qa0 qs1 n2 x4) mx58_5 (fun u7 g7 => .br u7.1 (.call 51 #[.pointer (some qa0),.string (bytesL [108,105,115,116]),.int .i64 (IntKind.i64.wrap (x4 + 1))] (.tup []) (fun r8 => .call 52 #[.pointer (some qa0)] (.tup []) (fun r9 => .load (qa0.add 4) (.int .i64) (fun x10 => .store (qa0.add 4) (.int .i64 (IntKind.i64.wrap (x10 - 1))) (.done (.returned (.int .i64 0))))))) (.cut (at_ Tryz.f58 [1,1,1,1,0,0,1,1,0]) 58 (fx58_11 qa0 qs1 n2 x4) mx58_11 (fun u13 g13 => .br u13.1 (.call 52 #[.pointer (some qa0)] (.tup []) (fun r14 => .load (qa0.add 4) (.int .i64) (fun x15 => .store (qa0.add 4) (.int .i64 (IntKind.i64.wrap (x15 - 1))) (.done (.returned (.int .i64 0)))))) (.cut (at_ Tryz.f58 [1,1,1,1,0,0,1,1,1,1,0]) 58 (fx58_16 qa0 qs1 n2 x4) mx58_16 (fun u19 g19 => .br u19.1 (.load ⟨n2,0,none⟩ .str (fun s20 => .call 51 #[.pointer (some qa0),.string s20,.int .i64 (IntKind.i64.wrap (x4 + 1))] (.tup []) (fun r21 => .call 52 #[.pointer (some qa0)] (.tup []) (fun r22 => .load (qa0.add 4) (.int .i64) (fun x23 => .store (qa0.add 4) (.int .i64 (IntKind.i64.wrap (x23 - 1))) (.done (.returned (.int .i64 0)))))))) (.done (.returned (.int .i64 36)))))))))))))))) := by kernel_rfl
/-! the tree of function 59 -/
abbrev fx59_7 (qa0 : Addr) : List (Tmp × Value) := [(0,.pointer (some qa0))]
abbrev mx59_7 : List (Tmp × Comp) := []
def s59_7 : Script := .hd0 (.hq 0 (.hq 1 (.hq 2 (.hq 3 (.ld .sl (.hq 4 (.hq 5 (.hq 6 (.hq 7 (.ld .sl (.hq 8 (.hq 9 (.hq 10 (.ix (.hq 11 (.he 12 (.ld (.int .i64) (.hq 13 (.hq 14 (.ix (.hq 15 (.he 16 .nil))))))))))))))))))))))
theorem t59_7 (qa0 : Addr) (gg7 : Nat → Value) : pieceT Tryz.prog (at_ Tryz.f59 [1,1,1,1,1,0]) 34 (fx59_7 qa0) gg7 (mx59_7.map (·.1)) [] [] s59_7 = .hdrawn (.load (qa0.add 3) .sl (fun l8 => .load (qa0.add 3) .sl (fun l9 => .idx l8.1 (IntKind.i64.wrap ((↑l9.snd.fst : Int) - 1)) l8.2.1 3 (fun a10 => .eff (.load (a10.add 2) (.int .i64) (fun x11 => .back (.idx l8.1 (IntKind.i64.wrap ((↑l9.snd.fst : Int) - 1)) l8.2.1 3 (fun a12 => .eff (.store (a12.add 2) (.int .i64 (IntKind.i64.wrap (x11 + 1))) (.back (.undrawn (.fin .normal [])))))))))))) := by kernel_rfl
abbrev fx59_15 (qa0 : Addr) : List (Tmp × Value) := [(0,.pointer (some qa0))]
abbrev mx59_15 : List (Tmp × Comp) := []
def s59_15 : Script := .hd0 (.hq 0 (.hq 1 (.hq 2 (.hq 3 (.ld .sl (.hq 4 (.hq 5 (.hq 6 (.hq 7 (.ld .sl (.hq 8 (.hq 9 (.hq 10 (.ix (.hq 11 (.he 12 (.ld (.int .i64) (.hq 13 (.hq 14 (.ix (.hq 15 (.he 16 .nil))))))))))))))))))))))
theorem t59_15 (qa0 : Addr) (gg15 : Nat → Value) : pieceT Tryz.prog (at_ Tryz.f59 [1,1,1,1,1,0]) 34 (fx59_15 qa0) gg15 (mx59_15.map (·.1)) [] [] s59_15 = .hdrawn (.load (qa0.add 3) .sl (fun l16 => .load (qa0.add 3) .sl (fun l17 => .idx l16.1 (IntKind.i64.wrap ((↑l17.snd.fst : Int) - 1)) l16.2.1 3 (fun a18 => .eff (.load (a18.add 2) (.int .i64) (fun x19 => .back (.idx l16.1 (IntKind.i64.wrap ((↑l17.snd.fst : Int) - 1)) l16.2.1 3 (fun a20 => .eff (.store (a20.add 2) (.int .i64 (IntKind.i64.wrap (x19 + 1))) (.back (.undrawn (.fin .normal [])))))))))))) := by kernel_rfl
def s59 : Script := .cl (.one (.agg [.str,.int .i64,.int .i64])) (.ld .str (.cl (.one (.leaf (.int .i64))) (.ld .str (.sym (.ld (.int .i64) (.sym .nil (.ct 0 [0] mx59_7 .nil))) (.ld (.int .i64) (.sym .nil (.ct 0 [0] mx59_15 .nil)))))))
theorem t59 (qa0 : Addr) : fnT Tryz.prog Tryz.f59 #[.pointer (some qa0)] s59 = .call 22 #[.pointer (some qa0)] (.one (.agg [.str,.int .i64,.int .i64])) (fun r1 => .new (.cells #[.string (bytesL []),.int .i64 0,.int .i64 0] 68 (0,0)) (fun n2 => .store ⟨n2,0,none⟩ (.string r1.1) (.store ⟨n2,1,none⟩ (.int .i64 r1.2.1) (.store ⟨n2,2,none⟩ (.int .i64 r1.2.2.1) (.load ⟨n2,0,none⟩ .str (fun s3 => .call 23 #[.string s3] (.one (.leaf (.int .i64))) (fun x4 => .load ⟨n2,0,none⟩ .str (fun s5 => .br (s5.toList == (bytesL [91]).toList) (.load ⟨n2,2,none⟩ (.int .i64) (fun x6 => .br (Decidable.decide (IntKind.i64.wrap (x6 + 1) ≥ 6)) (.done (.returned (.int .i64 36))) (.cut (at_ Tryz.f59 [1,1,1,1,1,0]) 34 (fx59_7 qa0) mx59_7 (fun u13 g13 => .done (.returned (.int .i64 0)))))) (.load ⟨n2,2,none⟩ (.int .i64) (fun x14 => .br (Decidable.decide (IntKind.i64.wrap (x14 + 1) ≥ x4)) (.done (.returned (.int .i64 36))) (.cut (at_ Tryz.f59 [1,1,1,1,1,0]) 34 (fx59_15 qa0) mx59_15 (fun u21 g21 => .done (.returned (.int .i64 0)))))))))))))) := by kernel_rfl
theorem ok_ends {d : Nat} (lev : Int) : ∀ (σ : List OM) (ω : List SM),OkO σ d → OkO (endsM lev σ ω).1 d
 | [],ω,h => h
 | o :: σ,ω,h => by
  rw [endsM]
  split
  ·exact h
  ·rename_i hl
   have := h.tail
   rw [brk_lv (by omega),if_neg (by decide)] at this
   exact ok_ends lev σ _ this
theorem brk_else {o : OM} (h : o.op = tElse ∨ o.op = tThen ∨ o.op = tIf) : brk o = false := by
 unfold brk
 rcases h with h | h | h <;> rw [h] <;> cases decide (o.lv < 0) <;> rfl
theorem ok_back {d : Nat} : ∀ (σ : List OM) (ω : List SM),OkO σ d → OkO (backM σ ω).1 d
 | [],ω,h => h
 | o :: σ,ω,h => by
  rw [backM]
  split
  ·rename_i hl
   have := h.tail
   rw [brk_lv hl,if_neg (by decide)] at this
   exact ok_back σ _ this
  ·split
   ·rename_i he
    have := h.tail
    rw [brk_else (.inl he),if_neg (by decide)] at this
    exact ok_back σ _ this
   ·exact h
theorem back_low : ∀ (σ : List OM) (ω : List SM),∀ o σ',(backM σ ω).1 = o :: σ' → o.lv < 0 ∧ o.op ≠ tElse
 | [],ω,o,σ',h => by cases h
 | a :: σ,ω,o,σ',h => by
  rw [backM] at h
  split at h
  ·exact back_low σ _ o σ' h
  ·rename_i hl
   split at h
   ·exact back_low σ _ o σ' h
   ·rename_i he
    cases h
    exact ⟨by omega,he⟩
theorem lexB_pos {L : Nat} {l : Txt} {c : Er} (h : lexB L l = .error c) : c.1 ≠ 0 := by
 unfold lexB at h
 split at h
 ·cases h
 ·split at h
  ·split at h
   ·cases h; exact Nat.succ_ne_zero _
   ·cases h
  ·split at h
   ·split at h
    ·cases h
    ·cases h; exact Nat.succ_ne_zero _
   ·split at h
    ·split at h
     ·cases h; exact Nat.succ_ne_zero _
     ·cases h
    ·split at h
     ·cases h
     ·cases h; exact Nat.succ_ne_zero _
section
variable {B : Nat → Prop} {base : Nat} {w : World} {b : Nat} {s : ByteArray} {i : Nat} {σ : List OM} {ω : List SM} {d : Nat}
/-- The reader's own cells are written over. -/
theorem Rd.put (h : Rd B base w b s i σ ω d) {w' : World} (hc : Ch (· = b) w w') (i' d' : Nat) (hb : ∀ vS vO,RB w b s i vS vO d → RB w' b s i' vS vO d') : Rd B base w' b s i' σ ω d' ∧ Turn B B w w' := by
 obtain ⟨pS,nS,cS,pO,nO,cO,hS,hO,hB,rS,rO⟩ := h.mem
 have hz := hc.size
 exact ⟨⟨h.own,fun k hk => ⟨(h.bnd k hk).1,by have := (h.bnd k hk).2; omega⟩,pS,nS,cS,pO,nO,cO,hS,hO,hb _ _ hB,rS.ch hc (fun k hk e => rS.ne hB (by decide) (by rw [← e]; exact hk)),rO.ch hc (fun k hk e => rO.ne hB (by decide) (by rw [← e]; exact hk))⟩,Turn.of (hc.mono fun k (e : k = b) => by rw [e]; exact h.own)⟩
theorem next_rd (h : Rd B base w b s i σ ω d) (hi : i ≤ s.size) (hs : s.size ≤ 100) : Calls Tryz.prog 21 #[.pointer (some ⟨b,0,none⟩)] w fun e w' => Turn B B w w' ∧ match lexB s.size (rest s i) with
  | .ok (t,r) => e = .returned (.tuple #[tok3 t,.int .i64 0]) ∧ TkOk t ∧ ∃ j,j ≤ s.size ∧ r = rest s j ∧ Rd B base w' b s j σ ω d
  | .error (c,a) => (∃ k n t,e = .returned (.tuple #[.agg #[.int .u8 k,.int .i64 (a : Nat),.int .i64 n,.string t],.int .i64 (c : Nat)])) ∧ ∃ j,Rd B base w' b s j σ ω d := by
 obtain ⟨pS,nS,cS,pO,nO,cO,hS,hO,hB,rS,rO⟩ := h.mem
 refine (next3_any w b s i _ _ d hB hi hs).mono ?_
 rintro e w' ⟨hc,hx⟩
 have rd : ∀ j,RB w' b s j (.slice pS nS cS) (.slice pO nO cO) d → Rd B base w' b s j σ ω d := fun j hb => by
  have hz := hc.size
  exact ⟨h.own,fun k hk => ⟨(h.bnd k hk).1,by have := (h.bnd k hk).2; omega⟩,pS,nS,cS,pO,nO,cO,hS,hO,hb,rS.ch hc (fun k hk e => rS.ne hB (by decide) (by rw [← e]; exact hk)),rO.ch hc (fun k hk e => rO.ne hB (by decide) (by rw [← e]; exact hk))⟩
 refine ⟨Turn.of (hc.mono fun k (e : k = b) => by rw [e]; exact h.own),?_⟩
 cases hl : lexB s.size (rest s i) with
 | error c =>
  rw [hl] at hx
  obtain ⟨c,a⟩ := c
  obtain ⟨h1,j,hj⟩ := hx
  exact ⟨h1,j,rd j hj⟩
 | ok z =>
  rw [hl] at hx
  obtain ⟨t,r⟩ := z
  obtain ⟨h1,h2,j,h3,h4,h5⟩ := hx
  exact ⟨h1,h2,j,h3,h4,rd j h5⟩
/-- A place is stored. -/
theorem at_i {R : Ending → World → Prop} {Q : Exit → List (Tmp × Value) → World → Prop} {K : T} (h : Rd B base w b s i σ ω d) (a : Nat) (hk : ∀ w',Turn B B w w' → Rd B base w' b s a σ ω d → wpT Tryz.prog R Q K .pl w') :
  wpT Tryz.prog R Q (.store ⟨b,1,none⟩ (.int .i64 (a : Nat)) K) .pl w := by
 obtain ⟨pS,nS,cS,pO,nO,cO,hS,hO,hB,rS,rO⟩ := h.mem
 refine st_blk hB (by simp) rfl fun w1 h1 z1 b1 => ?_
 obtain ⟨h2,h3⟩ := h.put h1 a d (fun vS vO hb => by
  have : RB w1 b s a (.slice pS nS cS) (.slice pO nO cO) d := b1
  unfold RB at hb this ⊢
  have e1 := Blk.cell hb 2
  have e2 := Blk.cell hB 2
  rw [e2] at e1
  have f1 := Blk.cell hb 3
  have f2 := Blk.cell hB 3
  rw [f2] at f1
  simp only [List.getElem?_cons_succ,List.getElem?_cons_zero,Option.some.injEq] at e1 f1
  rw [← e1,← f1]
  exact this)
 exact hk w1 h3 h2
/-- One bracket less. -/
theorem dp_i {R : Ending → World → Prop} {Q : Exit → List (Tmp × Value) → World → Prop} {K : T} (h : Rd B base w b s i σ ω d) (h1 : 1 ≤ d) (h2 : d ≤ 10) (hk : ∀ w',Turn B B w w' → Rd B base w' b s i σ ω (d - 1) → wpT Tryz.prog R Q K .pl w') :
  wpT Tryz.prog R Q (.load ⟨b,4,none⟩ (.int .i64) (fun x => .store ⟨b,4,none⟩ (.int .i64 (IntKind.i64.wrap (x - 1))) K)) .pl w := by
 obtain ⟨pS,nS,cS,pO,nO,cO,hS,hO,hB,rS,rO⟩ := h.mem
 refine ld_int (Blk.cell hB 4) ?_
 rw [show IntKind.i64.wrap ((d : Int) - 1) = ((d - 1 : Nat) : Int) by rw [wrap_in (by omega) (by omega)]; omega]
 refine st_blk hB (by simp) rfl fun w1 h1 z1 b1 => ?_
 obtain ⟨h2,h3⟩ := h.put h1 i (d - 1) (fun vS vO hb => by
  have : RB w1 b s i (.slice pS nS cS) (.slice pO nO cO) (d - 1) := b1
  unfold RB at hb this ⊢
  have e1 := Blk.cell hb 2
  have e2 := Blk.cell hB 2
  rw [e2] at e1
  have f1 := Blk.cell hb 3
  have f2 := Blk.cell hB 3
  rw [f2] at f1
  simp only [List.getElem?_cons_succ,List.getElem?_cons_zero,Option.some.injEq] at e1 f1
  rw [← e1,← f1]
  exact this)
 exact hk w1 h3 h2
end
/-- A token in a block of its own. -/
theorem tk_new {R : Ending → World → Prop} {Q : Exit → List (Tmp × Value) → World → Prop} {w : World} {k a x : Int} {t : ByteArray} {K : Nat → T}
  (h : ∀ n w',Ch No w w' → w.heap.size ≤ n → Blk w' n [.int .u8 k,.int .i64 a,.int .i64 x,.string t] tTok3 → wpT Tryz.prog R Q (K n) .pl w') :
  wpT Tryz.prog R Q (.new (.cells #[.int .u8 0,.int .i64 0,.int .i64 0,.string (bytesL [])] tTok3 (0,0)) (fun n => .store ⟨n,0,none⟩ (.int .u8 k) (.store ⟨n,1,none⟩ (.int .i64 a) (.store ⟨n,2,none⟩ (.int .i64 x) (.store ⟨n,3,none⟩ (.string t) (K n)))))) .pl w := by
 refine nw fun w1 h1 z1 n1 => ?_
 refine st_blk n1 (by simp) rfl fun w2 h2 z2 n2 => st_blk n2 (by simp) rfl fun w3 h3 z3 n3 => st_blk n3 (by simp) rfl fun w4 h4 z4 n4 => st_blk n4 (by simp) rfl fun w5 h5 z5 n5 => ?_
 exact h _ _ (h1.then_ (h2.trans (h3.trans (h4.trans h5))) (fun k hk (e : k = w.heap.size) => by omega)) (Nat.le_refl _) n5
theorem isB_iff {t : Tk} {k : Nat} {x : Txt} : isB t k x = true ↔ t.kind = k ∧ t.text = x := by
 unfold isB
 rw [Bool.and_eq_true,decide_eq_true_eq,beq_iff_eq]
theorem call_any (w : World) (B : Nat → Prop) (base b : Nat) (s : ByteArray) (i : Nat) (σ : List OM) (ω : List SM) (d : Nat) (name : Txt) (h : Rd B base w b s i σ ω d) (hi : i ≤ s.size) (hs : s.size ≤ 100) (hd : d ≤ 10) (hcap : σ.length + ω.length < 900) :
  Calls Tryz.prog 56 #[.pointer (some ⟨b,0,none⟩),.string (bytesL name)] w fun e w' => ∃ B',Turn B B' w w' ∧ match lexB s.size (rest s i) with
   | .error c => e = .returned (.int .i64 (c.1 : Nat)) ∧ Rd B' base w' b s c.2 σ ω d
   | .ok (t,r) => if isB t 4 sLp = true then (if 10 < d + 1 then e = .returned (.int .i64 35) ∧ Rd B' base w' b s t.at_ σ ω d else e = .returned (.int .i64 0) ∧ ∃ j,j ≤ s.size ∧ r = rest s j ∧ Rd B' base w' b s j (⟨name,-1,0⟩ :: σ) ω (d + 1)) else e = .returned (.int .i64 36) ∧ Rd B' base w' b s t.at_ σ ω d := by
 refine calls_of_fnT mixed Tryz.func56 (s := s56) ?_
 rw [t56]
 simp only [addr_add,Nat.zero_add]
 refine cl_i (next_rd h hi hs) ?_
 rintro e w1 ⟨T1,hx⟩
 cases hl : lexB s.size (rest s i) with
 | error c =>
  rw [hl] at hx
  have hpos := lexB_pos hl
  obtain ⟨c,a⟩ := c
  obtain ⟨⟨k,n,t,rfl⟩,j,R1⟩ := hx
  have hpos : c ≠ 0 := hpos
  refine ⟨((k,(a : Int),n,t,()),(c : Int),()),rfl,tk_new fun nd w2 h2 hn n2 => ?_⟩
  refine br_true (bne_iff_ne.2 (fun h => hpos (by have h : (c : Int) = 0 := h; omega))) (ld_int (n2.cell 1) (at_i (R1.no h2) a fun w3 T3 R3 => ?_))
  exact ⟨B,T1.trans ((Turn.no h2).trans T3),rfl,R3⟩
 | ok z =>
  rw [hl] at hx
  obtain ⟨t,r⟩ := z
  obtain ⟨rfl,-,j,hj,rfl,R1⟩ := hx
  dsimp only
  refine ⟨((kd3 t.kind,(t.at_ : Int),(t.num : Int),bytesL t.text,()),0,()),rfl,tk_new fun nd w2 h2 hn n2 => ?_⟩
  have R2 := R1.no h2
  have T2 := T1.trans (Turn.no h2)
  refine br_false rfl ?_
  refine cut_i mixed s56_4 (fun (v : Bool × Unit) w' => w' = w2 ∧ (v.1 = false ↔ isB t 4 sLp = true)) (by kernel_rfl) (fun g => ?_) ?_
  ·rw [t56_4]
   refine ld_int (n2.cell 0) (br_both (fun e => ⟨rfl,(true,()),rfl,rfl,?_⟩) fun e => ld_str (n2.cell 3) ⟨rfl,(_,()),rfl,rfl,?_⟩)
   ·have e : kd3 t.kind ≠ 115 := ne_t e
    rw [isB_iff]
    exact ⟨(fun h => nomatch h),fun h => absurd ((kd_4 _).2 h.1) e⟩
   ·have e : kd3 t.kind = 115 := ne_f e
    rw [isB_iff]
    simp only [tb_list]
    show ((!(t.text == sLp)) = false ↔ _)
    rw [Bool.not_eq_false',beq_iff_eq]
    exact ⟨fun h => ⟨(kd_4 _).1 e,h⟩,fun h => h.2⟩
  rintro ⟨u,⟨⟩⟩ g w3 ⟨rfl,hu⟩
  dsimp only at hu
  refine br_both (fun e => ?_) fun e => ?_
  ·have e : u = true := e
   have hno : ¬ isB t 4 sLp = true := fun h => by have := hu.2 h; rw [e] at this; cases this
   refine ld_int (n2.cell 1) (at_i R2 t.at_ fun w4 T4 R4 => ⟨B,T2.trans T4,?_⟩)
   rw [if_neg hno]
   exact ⟨rfl,R4⟩
  ·have hyes := hu.1 (show u = false from e)
   refine cl_i (bracket_any w3 B base b s j σ ω d name R2 hd hcap) ?_
   rintro e w4 ⟨B4,T4,hx⟩
   have hlt := n2.lt
   by_cases hdd : 10 < d + 1
   ·rw [if_pos hdd] at hx
    obtain ⟨rfl,R4⟩ := hx
    have hnB : ¬ B nd := fun h => by
     have := (R1.bnd nd h).2
     omega
    refine ⟨35,rfl,br_true rfl (ld_int ((n2.ch T4.ch hnB).cell 1) (at_i R4 t.at_ fun w5 T5 R5 => ⟨B4,T2.trans (T4.trans T5),?_⟩))⟩
    rw [if_pos hyes,if_pos hdd]
    exact ⟨rfl,R5⟩
   ·rw [if_neg hdd] at hx
    obtain ⟨rfl,R4⟩ := hx
    refine ⟨0,rfl,br_false rfl ⟨B4,T2.trans T4,?_⟩⟩
    rw [if_pos hyes,if_neg hdd]
    exact ⟨rfl,j,hj,rfl,R4⟩
theorem takes_if : takesM tIf = 0 ∧ takesM tThen = 0 ∧ takesM tElse = 0 := by decide
theorem brk_pos {o : OM} {σ : List OM} {d : Nat} (h : OkO (o :: σ) d) (hb : brk o = true) : 1 ≤ d ∧ d ≤ 10 ∧ OkO σ (d - 1) := by
 have h1 := h.tail
 rw [if_pos hb] at h1
 have h2 := h.brks
 rw [List.countP_cons,if_pos hb] at h2
 exact ⟨by omega,h.deep,h1⟩
theorem brk_of {o : OM} (hl : o.lv < 0) (h1 : o.op ≠ tIf) (h2 : o.op ≠ tThen) (h3 : o.op ≠ tElse) : brk o = true := by
 unfold brk
 rw [decide_eq_true hl,beq_eq_false_iff_ne.2 h1,beq_eq_false_iff_ne.2 h2,beq_eq_false_iff_ne.2 h3]
 rfl
/-- What an inner step comes to: a number, 0 for none; the reader behind it. -/
def PostI (B : Nat → Prop) (base b : Nat) (s : ByteArray) (i m : Nat) (w : World) (r : Res) (e : Ending) (w' : World) : Prop := ∃ B',Turn B B' w w' ∧ match r with
 | .error c => e = .returned (.int .i64 36) ∧ c.1 = 36
 | .ok (.inr ms) => e = .returned (.int .i64 0) ∧ ms.st.tok = none ∧ ms.st.l = rest s i ∧ OkO ms.σ ms.st.op ∧ ms.σ.length + ms.ω.length ≤ m + 1 ∧ Rd B' base w' b s i ms.σ ms.ω ms.st.op
 | .ok (.inl _) => False
theorem closes_any (w : World) (B : Nat → Prop) (base b : Nat) (s : ByteArray) (i : Nat) (σ : List OM) (ω : List SM) (d : Nat) (t : Tk) (h : Rd B base w b s i σ ω d) (hok : OkO σ d) (hcap : σ.length + ω.length < 800) :
  Calls Tryz.prog 58 #[.pointer (some ⟨b,0,none⟩),.string (bytesL t.text)] w (PostI B base b s i (σ.length + ω.length) w (closesM t ⟨rest s i,none,d⟩ (backM σ ω))) := by
 refine calls_of_fnT mixed Tryz.func58 (s := s58) ?_
 rw [t58]
 simp only [addr_add,Nat.zero_add]
 refine cl_i (back_any w B base b s i σ ω d h (by omega)) ?_
 rintro e w1 ⟨rfl,B1,T1,R1⟩
 have hL := back_len σ ω
 have hK := ok_back σ ω hok
 have hlow := back_low σ ω
 generalize backM σ ω = z at *
 obtain ⟨σ1,ω1⟩ := z
 dsimp only at hL hK hlow R1
 refine ⟨(bytesL (topM σ1).op,(topM σ1).lv,((topM σ1).cnt : Int),()),rfl,op_new fun n w2 h2 hn n2 => ?_⟩
 have R2 := R1.no h2
 have T2 := T1.trans (Turn.no h2)
 refine ld_str (n2.cell 0) ?_
 simp only [tb_list]
 cases σ1 with
 | nil => exact br_true rfl ⟨B1,T2,rfl,rfl⟩
 | cons o σ2 =>
 obtain ⟨c1,c2,c3,c4⟩ := hK.each o (.head _)
 obtain ⟨l1,l2⟩ := hlow o σ2 rfl
 rw [List.length_cons] at hL
 refine br_false (beq_eq_false_iff_ne.2 c4) (ld_int (n2.cell 2) ?_)
 have hw : IntKind.i64.wrap (((topM (o :: σ2)).cnt : Int) + 1) = ((o.cnt + 1 : Nat) : Int) := by
  show IntKind.i64.wrap ((o.cnt : Int) + 1) = _
  rw [wrap_in (by omega) (by omega)]; omega
 have hlt := n2.lt
 have hnB : ¬ B1 n := fun h => by have := (R1.bnd n h).2; omega
 unfold closesM
 dsimp only
 refine cut_i mixed s58_5 (fun (v : Bool × Unit) w' => w' = w2 ∧ (v.1 = true ↔ (t.text = sRb ∧ o.op = sLb))) (by kernel_rfl) (fun g => ?_) ?_
 ·rw [t58_5]
  simp only [tb_list]
  refine br_both (fun e => ?_) fun e => ⟨rfl,(false,()),rfl,rfl,?_⟩
  ·have e : t.text = sRb := beq_iff_eq.1 e
   refine ld_str (n2.cell 0) ⟨rfl,(_,()),rfl,rfl,?_⟩
   simp only [tb_list]
   show ((o.op == sLb) = true ↔ _)
   rw [beq_iff_eq]
   exact ⟨fun h => ⟨e,h⟩,fun h => h.2⟩
  ·have e : ¬ t.text = sRb := beq_eq_false_iff_ne.1 e
   exact ⟨(fun h => nomatch h),fun h => absurd h.1 e⟩
 rintro ⟨u,⟨⟩⟩ g w3 ⟨rfl,hu⟩
 dsimp only at hu
 refine br_both (fun e => ?_) fun e => ?_
 ·have hc := hu.1 e
  have hbk : brk o = true := brk_of l1 (by rw [hc.2]; decide) (by rw [hc.2]; decide) l2
  obtain ⟨d1,d2,hK2⟩ := brk_pos hK hbk
  rw [if_pos hc,hw]
  refine cl_i (emit_any w3 B1 base b s i _ ω1 d nList (o.cnt + 1) R2 (by rw [List.length_cons]; omega)) ?_
  rintro e w4 ⟨rfl,B4,T4,R4⟩
  refine ⟨(),rfl,cl_i (drop_any w4 B4 base b s i o σ2 _ d R4) ?_⟩
  rintro e w5 ⟨rfl,T5,R5⟩
  refine ⟨(),rfl,dp_i R5 d1 d2 fun w6 T6 R6 => ⟨B4,T2.trans (T4.trans (T5.trans T6)),rfl,rfl,rfl,hK2,?_,R6⟩⟩
  dsimp only
  rw [List.length_append,List.length_singleton]
  omega
 have hn1 : ¬ (t.text = sRb ∧ o.op = sLb) := fun h => by
  have := hu.2 h
  have e : u = false := e
  rw [e] at this; cases this
 rw [if_neg hn1]
 refine cut_i mixed s58_11 (fun (v : Bool × Unit) w' => w' = w3 ∧ (v.1 = true ↔ (t.text = sRp ∧ o.op = sLp))) (by kernel_rfl) (fun g => ?_) ?_
 ·rw [t58_11]
  simp only [tb_list]
  refine br_both (fun e => ?_) fun e => ⟨rfl,(false,()),rfl,rfl,?_⟩
  ·have e : t.text = sRp := beq_iff_eq.1 e
   refine ld_str (n2.cell 0) ⟨rfl,(_,()),rfl,rfl,?_⟩
   simp only [tb_list]
   show ((o.op == sLp) = true ↔ _)
   rw [beq_iff_eq]
   exact ⟨fun h => ⟨e,h⟩,fun h => h.2⟩
  ·have e : ¬ t.text = sRp := beq_eq_false_iff_ne.1 e
   exact ⟨(fun h => nomatch h),fun h => absurd h.1 e⟩
 rintro ⟨u2,⟨⟩⟩ g w4 ⟨rfl,hu2⟩
 dsimp only at hu2
 refine br_both (fun e => ?_) fun e => ?_
 ·have hc := hu2.1 e
  have hbk : brk o = true := brk_of l1 (by rw [hc.2]; decide) (by rw [hc.2]; decide) l2
  obtain ⟨d1,d2,hK2⟩ := brk_pos hK hbk
  rw [if_pos hc]
  refine cl_i (drop_any w4 B1 base b s i o σ2 _ d R2) ?_
  rintro e w5 ⟨rfl,T5,R5⟩
  refine ⟨(),rfl,dp_i R5 d1 d2 fun w6 T6 R6 => ⟨B1,T2.trans (T5.trans T6),rfl,rfl,rfl,hK2,?_,R6⟩⟩
  dsimp only
  omega
 have hn2 : ¬ (t.text = sRp ∧ o.op = sLp) := fun h => by
  have := hu2.2 h
  have e : u2 = false := e
  rw [e] at this; cases this
 rw [if_neg hn2]
 refine cut_i mixed s58_16 (fun (v : Bool × Unit) w' => w' = w4 ∧ (v.1 = true ↔ (t.text = sRp ∧ takesM o.op = o.cnt + 1))) (by kernel_rfl) (fun g => ?_) ?_
 ·rw [t58_16]
  simp only [tb_list]
  refine br_both (fun e => ?_) fun e => ⟨rfl,(false,()),rfl,rfl,?_⟩
  ·have e : t.text = sRp := beq_iff_eq.1 e
   refine ld_str (n2.cell 0) (cl_i (takes_any w4 _) ?_)
   rintro e' w5 ⟨rfl,rfl⟩
   refine ⟨_,rfl,rfl,(_,()),rfl,rfl,?_⟩
   rw [tb_data,hw]
   show ((((takesM o.op : Nat) : Int) == ((o.cnt + 1 : Nat) : Int)) = true ↔ _)
   rw [beq_iff_eq]
   constructor
   ·intro h; exact ⟨e,by omega⟩
   ·intro h; have := h.2; omega
  ·have e : ¬ t.text = sRp := beq_eq_false_iff_ne.1 e
   exact ⟨(fun h => nomatch h),fun h => absurd h.1 e⟩
 rintro ⟨u3,⟨⟩⟩ g w5 ⟨rfl,hu3⟩
 dsimp only at hu3
 refine br_both (fun e => ?_) fun e => ?_
 ·have hc := hu3.1 e
  have hbk : brk o = true := brk_of l1 (fun h => by have := hc.2; rw [h,takes_if.1] at this; omega) (fun h => by have := hc.2; rw [h,takes_if.2.1] at this; omega) l2
  obtain ⟨d1,d2,hK2⟩ := brk_pos hK hbk
  rw [if_pos hc,hw]
  refine ld_str (n2.cell 0) (cl_i (emit_any w5 B1 base b s i _ ω1 d o.op (o.cnt + 1) R2 (by rw [List.length_cons]; omega)) ?_)
  rintro e w6 ⟨rfl,B4,T4,R4⟩
  refine ⟨(),rfl,cl_i (drop_any w6 B4 base b s i o σ2 _ d R4) ?_⟩
  rintro e w7 ⟨rfl,T5,R5⟩
  refine ⟨(),rfl,dp_i R5 d1 d2 fun w8 T6 R6 => ⟨B4,T2.trans (T4.trans (T5.trans T6)),rfl,rfl,rfl,hK2,?_,R6⟩⟩
  dsimp only
  rw [List.length_append,List.length_singleton]
  omega
 ·have hn3 : ¬ (t.text = sRp ∧ takesM o.op = o.cnt + 1) := fun h => by
   have := hu3.2 h
   have e : u3 = false := e
   rw [e] at this; cases this
  rw [if_neg hn3]
  exact ⟨B1,T2,rfl,rfl⟩
theorem st_row {R : Ending → World → Prop} {Q : Exit → List (Tmp × Value) → World → Prop} {w : World} {md : Md} [hmd : md.Runs] {base : Nat} {e : TypeId} {size : Nat} {g n c i : Nat} {xs : List Value} {v : Value} {K : T} (hr : Row w base e size (some ⟨g,0,none⟩) n c xs) (hi : i < xs.length) (hv : v.oneCell' = true)
  (h : ∀ w1,Ch (rowS (some ⟨g,0,none⟩) n c) w w1 → Row w1 base e size (some ⟨g,0,none⟩) n c (xs.set i v) → wpT Tryz.prog R Q K md w1) : wpT Tryz.prog R Q (.store ⟨g,i,none⟩ v K) md w := by
 have hl : xs.length = n * size := hr.1
 rcases hr.2 with ⟨h',_⟩ | ⟨g',cap,cur,h',hb,hg,h1,h2,h3,h4⟩
 ·simp only [Value.slice.injEq] at h'
  cases h'.1
 ·simp only [Value.slice.injEq,Option.some.injEq,Addr.mk.injEq,true_and,and_true] at h'
  obtain ⟨rfl,rfl⟩ := h'
  have hblk : Blk w g cur.toList e := by unfold Blk; rw [hg]
  have hlen : i < cur.toList.length := by
   have := congrArg List.length h4
   rw [List.length_take,hl] at this
   omega
  refine st_blk hblk hlen hv fun w1 c1 z1 b1 => h w1 (c1.mono fun k hk => by subst hk; rfl) ⟨by rw [List.length_set]; exact hl,.inr ⟨g,c,(cur.toList.set i v).toArray,rfl,hb,b1,h1,h2,?_,?_⟩⟩
  ·simpa using h3
  ·rw [List.take_set,h4]
theorem comma_tail {R : Ending → World → Prop} {Q : Exit → List (Tmp × Value) → World → Prop} {w : World} {B : Nat → Prop} {base b : Nat} {s : ByteArray} {i : Nat} {o : OM} {σ : List OM} {ω : List SM} {d : Nat} {K : T}
  (h : Rd B base w b s i (o :: σ) ω d) (hc : o.cnt ≤ 10) (hk : ∀ w',Turn B B w w' → Rd B base w' b s i (⟨o.op,o.lv,o.cnt + 1⟩ :: σ) ω d → wpT Tryz.prog R Q K .pl w') :
  wpT Tryz.prog R Q (.hdrawn
  (.load ⟨b,3,none⟩ .sl (fun l8 =>
   .load ⟨b,3,none⟩ .sl (fun l9 =>
    .idx l8.1 (IntKind.i64.wrap ((↑l9.snd.fst : Int) - 1)) l8.2.1 3 (fun a10 =>
     .eff
      (.load (a10.add 2) (.int .i64) (fun x11 =>
       .back
        (.idx l8.1 (IntKind.i64.wrap ((↑l9.snd.fst : Int) - 1)) l8.2.1 3 (fun a12 =>
         .eff
          (.store (a12.add 2) (.int .i64 (IntKind.i64.wrap (x11 + 1)))
           (.back
            (.undrawn K)))))))))))) .pl w := by
 obtain ⟨pS,nS,cS,pO,nO,cO,hS,hO,hb,rS,rO⟩ := h.mem
 have hl := rO.len
 rw [cellsO_len,List.length_reverse,List.length_cons] at hl
 have hd := (Ch.refl No w).drew
 obtain ⟨g,rfl,hg,hcell⟩ := rO.get (by omega)
 have hcap := rO.cap
 have hw : IntKind.i64.wrap ((nO : Int) - 1) = ((σ.length : Nat) : Int) := by rw [wrap_in (by omega) (by omega)]; omega
 have hbg : b ≠ g := fun e => rO.ne hb (by decide) (by rw [e]; exact hg)
 have bd : RB w.drew b s i (.slice pS nS cS) (.slice (some ⟨g,0,none⟩) nO cO) d := Blk.ch hb hd (fun h => h)
 have rOd := rO.no hd
 refine hd_i (fun w' => w'.cell? ⟨b,3,none⟩ = some (.slice (some ⟨g,0,none⟩) nO cO)) (Blk.cell bd 3) (lh_sl (fun w' h => h) (lh_sl (fun w' h => h) ?_))
 dsimp only
 rw [hw]
 refine ix_i (by omega) (by omega) (eff_i ?_)
 rw [Int.toNat_natCast,addr_add,addr_add,Nat.zero_add,show σ.length * 3 + 2 = 3 * σ.length + 2 by omega]
 refine ld_int (hd.cellv (hcell _ _ (by rw [top_row o σ 2 (by omega)]; rfl)) (fun h => h)) (bk (Blk.cell bd 3) (ix_i (by omega) (by omega) (eff_i ?_)))
 rw [Int.toNat_natCast,addr_add,addr_add,Nat.zero_add,show σ.length * 3 + 2 = 3 * σ.length + 2 by omega,show IntKind.i64.wrap ((o.cnt : Int) + 1) = ((o.cnt + 1 : Nat) : Int) by rw [wrap_in (by omega) (by omega)]; omega]
 refine st_row rOd (by rw [cellsO_len,List.length_reverse,List.length_cons]; omega) rfl fun w1 h1 r1 => ?_
 have hbr : ¬ rowS (some ⟨g,0,none⟩) nO cO b := rO.ne hb (by decide)
 have b1 : RB w1 b s i (.slice pS nS cS) (.slice (some ⟨g,0,none⟩) nO cO) d := Blk.ch bd h1 hbr
 refine bk (Blk.cell b1 3) (un_h (hk w1 (Turn.of (hd.no.trans (h1.mono fun k hk => hO k hk))) ?_))
 have hz := (hd.no.trans h1).size
 refine ⟨h.own,fun k hk => ⟨(h.bnd k hk).1,by have := (h.bnd k hk).2; omega⟩,pS,nS,cS,_,nO,cO,hS,hO,b1,(rS.no hd).ch h1 (fun k hk => rS.apart rO (by decide) k hk),?_⟩
 have e : ((o :: σ).reverse.flatMap cellsO).set (3 * σ.length + 2) (.int .i64 ((o.cnt + 1 : Nat) : Int)) = ((⟨o.op,o.lv,o.cnt + 1⟩ : OM) :: σ).reverse.flatMap cellsO := by
  rw [List.reverse_cons,List.reverse_cons,List.flatMap_append,List.flatMap_append,List.set_append_right _ _ (by rw [cellsO_len,List.length_reverse]; omega),cellsO_len,List.length_reverse,Nat.add_sub_cancel_left]
  rfl
 rw [e] at r1
 exact r1
theorem comma_any (w : World) (B : Nat → Prop) (base b : Nat) (s : ByteArray) (i : Nat) (σ : List OM) (ω : List SM) (d : Nat) (t : Tk) (h : Rd B base w b s i σ ω d) (hok : OkO σ d) (hcap : σ.length + ω.length < 800) :
  Calls Tryz.prog 59 #[.pointer (some ⟨b,0,none⟩)] w (PostI B base b s i (σ.length + ω.length) w (commaM t ⟨rest s i,none,d⟩ (backM σ ω))) := by
 refine calls_of_fnT mixed Tryz.func59 (s := s59) ?_
 rw [t59]
 refine cl_i (back_any w B base b s i σ ω d h (by omega)) ?_
 rintro e w1 ⟨rfl,B1,T1,R1⟩
 have hL := back_len σ ω
 have hK := ok_back σ ω hok
 have hlow := back_low σ ω
 generalize backM σ ω = z at *
 obtain ⟨σ1,ω1⟩ := z
 dsimp only at hL hK hlow R1
 refine ⟨(bytesL (topM σ1).op,(topM σ1).lv,((topM σ1).cnt : Int),()),rfl,op_new fun n w2 h2 hn n2 => ?_⟩
 have R2 := R1.no h2
 have T2 := T1.trans (Turn.no h2)
 refine ld_str (n2.cell 0) (cl_i (takes_any w2 _) ?_)
 rintro e' w3 ⟨rfl,rfl⟩
 refine ⟨_,rfl,ld_str (n2.cell 0) ?_⟩
 simp only [tb_list,tb_data]
 have cn : (topM σ1).cnt ≤ 10 := by
  cases σ1 with
  | nil => show 0 ≤ 10; omega
  | cons o σ2 => exact (hK.each o (.head _)).1
 have hw : IntKind.i64.wrap (((topM σ1).cnt : Int) + 1) = (((topM σ1).cnt + 1 : Nat) : Int) := by rw [wrap_in (by omega) (by omega)]; omega
 have most : (if (topM σ1).op = sLb then 6 else takesM (topM σ1).op) ≤ 6 := by
  split
  ·omega
  ·have : ∀ x,takesM x ≤ 6 := fun x => by
    unfold takesM
    cases hf : findB x with
    | none => exact Nat.zero_le _
    | some k =>
     have hk := find_lt hf
     have : ∀ k < 14,takesB k ≤ 6 := by decide
     exact this k hk
   exact this _
 have err : (if (topM σ1).op = sLb then 6 else takesM (topM σ1).op) ≤ (topM σ1).cnt + 1 → commaM t ⟨rest s i,none,d⟩ (σ1,ω1) = .error (36,t.at_) := fun hh => by
  cases σ1 with
  | nil => rfl
  | cons o σ2 =>
   have hh : (if o.op = sLb then 6 else takesM o.op) ≤ o.cnt + 1 := hh
   unfold commaM
   dsimp only
   rw [if_pos hh]
 have go : ¬ (if (topM σ1).op = sLb then 6 else takesM (topM σ1).op) ≤ (topM σ1).cnt + 1 → ∃ o σ2,σ1 = o :: σ2 ∧ commaM t ⟨rest s i,none,d⟩ (σ1,ω1) = .ok (.inr ⟨true,⟨rest s i,none,d⟩,⟨o.op,o.lv,o.cnt + 1⟩ :: σ2,ω1⟩) ∧ OkO (⟨o.op,o.lv,o.cnt + 1⟩ :: σ2) d := fun hh => by
  cases σ1 with
  | nil => exact absurd (by decide) hh
  | cons o σ2 =>
   have hh : ¬ (if o.op = sLb then 6 else takesM o.op) ≤ o.cnt + 1 := hh
   have most : (if o.op = sLb then 6 else takesM o.op) ≤ 6 := most
   refine ⟨o,σ2,rfl,?_,hK.deep,?_,fun x hx => ?_⟩
   ·unfold commaM
    dsimp only
    rw [if_neg hh]
   ·have := hK.brks
    rw [List.countP_cons] at this ⊢
    exact this
   ·rcases List.mem_cons.1 hx with rfl | hx
    ·obtain ⟨c1,c2,c3,c4⟩ := hK.each o (.head _)
     exact ⟨by show o.cnt + 1 ≤ 10; omega,c2,c3,c4⟩
    ·exact hK.each x (.tail _ hx)
 refine br_both (fun e => ?_) fun e => ?_
 ·have e : (topM σ1).op = sLb := beq_iff_eq.1 e
  rw [if_pos e] at err go
  refine ld_int (n2.cell 2) ?_
  rw [hw]
  refine br_both (fun e2 => ?_) fun e2 => ?_
  ·have e2 := ge_t e2
   rw [err (by omega)]
   exact ⟨B1,T2,rfl,rfl⟩
  ·have e2 := ge_f e2
   obtain ⟨o,σ2,rfl,h3,h4⟩ := go (by omega)
   rw [h3]
   refine cut_i mixed s59_7 (fun (_ : Unit) w' => Turn B1 B1 w3 w' ∧ Rd B1 base w' b s i (⟨o.op,o.lv,o.cnt + 1⟩ :: σ2) ω1 d) (by kernel_rfl) (fun g => ?_) ?_
   ·rw [t59_7]
    simp only [addr_add,Nat.zero_add]
    exact comma_tail R2 cn fun w' T' R' => ⟨rfl,(),rfl,T',R'⟩
   rintro ⟨⟩ g w4 ⟨T4,R4⟩
   refine ⟨B1,T2.trans T4,rfl,rfl,rfl,h4,?_,R4⟩
   dsimp only
   rw [List.length_cons] at hL ⊢
   omega
 ·have e : ¬ (topM σ1).op = sLb := beq_eq_false_iff_ne.1 e
  rw [if_neg e] at err go
  refine ld_int (n2.cell 2) ?_
  rw [hw]
  refine br_both (fun e2 => ?_) fun e2 => ?_
  ·have e2 := ge_t e2
   rw [err (by omega)]
   exact ⟨B1,T2,rfl,rfl⟩
  ·have e2 := ge_f e2
   obtain ⟨o,σ2,rfl,h3,h4⟩ := go (by omega)
   rw [h3]
   refine cut_i mixed s59_15 (fun (_ : Unit) w' => Turn B1 B1 w3 w' ∧ Rd B1 base w' b s i (⟨o.op,o.lv,o.cnt + 1⟩ :: σ2) ω1 d) (by kernel_rfl) (fun g => ?_) ?_
   ·rw [t59_15]
    simp only [addr_add,Nat.zero_add]
    exact comma_tail R2 cn fun w' T' R' => ⟨rfl,(),rfl,T',R'⟩
   rintro ⟨⟩ g w4 ⟨T4,R4⟩
   refine ⟨B1,T2.trans T4,rfl,rfl,rfl,h4,?_,R4⟩
   dsimp only
   rw [List.length_cons] at hL ⊢
   omega
end Go.Proofs.YtmdmomccibpjbaaGreatDoor.E
namespace Go.Proofs.YtmdmomccibpjbaaGreatDoor.E
open Go Tr
open V (rest rest_cases restL sizeB pk_rest cx_i cp_i extract_list pk hexP)
set_option maxRecDepth 100000
set_option maxHeartbeats 2000000
/-! the tree of function 25 -/
abbrev fx25_10 (qa0 : Addr) (n1 : Nat) (x6 : Int) (n9 : Nat) : List (Tmp × Value) := [(0,.pointer (some qa0)),(3,.pointer (some ⟨n1,0,none⟩)),(6,.int .i64 x6),(8,.pointer (some ⟨n9,0,none⟩))]
abbrev mx25_10 : List (Tmp × Comp) := [(31,.leaf .bool)]
def s25_10 : Script := .sym (.lit (.ld (.int .i64) (.lit (.lit .nil)))) (.lit (.lit (.lit .nil)))
theorem t25_10 (qa0 : Addr) (n1 : Nat) (x6 : Int) (n9 : Nat) (gg10 : Nat → Value) : pieceT Tryz.prog (at_ Tryz.f25 [1,1,0,1,0,1,1,1,1,0,0]) 94 (fx25_10 qa0 n1 x6 n9) gg10 (mx25_10.map (·.1)) [] [] s25_10 = .br (x6 == 4) (.load ⟨n9,1,none⟩ (.int .i64) (fun x11 => .fin .normal [(31,.bool (x11 == 4))])) (.fin .normal [(31,.bool false)]) := by kernel_rfl
abbrev fx25_18 (qa0 : Addr) (n1 : Nat) (x6 : Int) (n17 : Nat) : List (Tmp × Value) := [(0,.pointer (some qa0)),(3,.pointer (some ⟨n1,0,none⟩)),(6,.int .i64 x6),(8,.pointer (some ⟨n17,0,none⟩))]
abbrev mx25_18 : List (Tmp × Comp) := [(31,.leaf .bool)]
def s25_18 : Script := .sym (.lit (.ld (.int .i64) (.lit (.lit .nil)))) (.lit (.lit (.lit .nil)))
theorem t25_18 (qa0 : Addr) (n1 : Nat) (x6 : Int) (n17 : Nat) (gg18 : Nat → Value) : pieceT Tryz.prog (at_ Tryz.f25 [1,1,0,1,0,1,1,1,1,0,0]) 94 (fx25_18 qa0 n1 x6 n17) gg18 (mx25_18.map (·.1)) [] [] s25_18 = .br (x6 == 4) (.load ⟨n17,1,none⟩ (.int .i64) (fun x19 => .fin .normal [(31,.bool (x19 == 4))])) (.fin .normal [(31,.bool false)]) := by kernel_rfl
abbrev fx25_23 (qa0 : Addr) (n1 : Nat) : List (Tmp × Value) := [(0,.pointer (some qa0)),(3,.pointer (some ⟨n1,0,none⟩))]
abbrev mx25_23 : List (Tmp × Comp) := [(49,.leaf .bool)]
def s25_23 : Script := .ld (.int .u8) (.sym (.lit (.ld .str (.lit (.lit (.sym (.lit (.lit (.lit (.lit (.lit .nil))))) (.lit (.ld .str (.lit (.lit (.lit (.lit .nil))))))))))) (.lit (.lit (.lit (.lit (.lit .nil))))))
theorem t25_23 (qa0 : Addr) (n1 : Nat) (gg23 : Nat → Value) : pieceT Tryz.prog (at_ Tryz.f25 [1,1,1,0,0]) 94 (fx25_23 qa0 n1) gg23 (mx25_23.map (·.1)) [] [] s25_23 = .load ⟨n1,0,none⟩ (.int .u8) (fun x24 => .br (x24 == 115) (.load ⟨n1,3,none⟩ .str (fun s25 => .br (s25.toList == (bytesL [41]).toList) (.fin .normal [(49,.bool true)]) (.load ⟨n1,3,none⟩ .str (fun s26 => .fin .normal [(49,.bool (s26.toList == (bytesL [93]).toList))])))) (.fin .normal [(49,.bool false)])) := by kernel_rfl
abbrev fx25_30 (qa0 : Addr) (n1 : Nat) : List (Tmp × Value) := [(0,.pointer (some qa0)),(3,.pointer (some ⟨n1,0,none⟩))]
abbrev mx25_30 : List (Tmp × Comp) := [(62,.leaf .bool)]
def s25_30 : Script := .ld (.int .u8) (.sym (.lit (.ld .str (.lit (.lit .nil)))) (.lit (.lit (.lit .nil))))
theorem t25_30 (qa0 : Addr) (n1 : Nat) (gg30 : Nat → Value) : pieceT Tryz.prog (at_ Tryz.f25 [1,1,1,1,0,0]) 94 (fx25_30 qa0 n1) gg30 (mx25_30.map (·.1)) [] [] s25_30 = .load ⟨n1,0,none⟩ (.int .u8) (fun x31 => .br (x31 == 115) (.load ⟨n1,3,none⟩ .str (fun s32 => .fin .normal [(62,.bool (s32.toList == (bytesL [44]).toList))])) (.fin .normal [(62,.bool false)])) := by kernel_rfl
abbrev fx25_35 (qa0 : Addr) (n1 : Nat) : List (Tmp × Value) := [(0,.pointer (some qa0)),(3,.pointer (some ⟨n1,0,none⟩))]
abbrev mx25_35 : List (Tmp × Comp) := [(78,.leaf .bool)]
def s25_35 : Script := .ld (.int .u8) (.sym (.lit (.ld .str (.lit (.lit (.sym (.lit (.lit (.lit (.lit (.lit .nil))))) (.lit (.ld .str (.lit (.lit (.lit (.lit .nil))))))))))) (.lit (.lit (.lit (.lit (.lit .nil))))))
theorem t25_35 (qa0 : Addr) (n1 : Nat) (gg35 : Nat → Value) : pieceT Tryz.prog (at_ Tryz.f25 [1,1,1,1,1,0,0]) 94 (fx25_35 qa0 n1) gg35 (mx25_35.map (·.1)) [] [] s25_35 = .load ⟨n1,0,none⟩ (.int .u8) (fun x36 => .br (x36 == 119) (.load ⟨n1,3,none⟩ .str (fun s37 => .br (s37.toList == (bytesL [116,104,101,110]).toList) (.fin .normal [(78,.bool true)]) (.load ⟨n1,3,none⟩ .str (fun s38 => .fin .normal [(78,.bool (s38.toList == (bytesL [101,108,115,101]).toList))])))) (.fin .normal [(78,.bool false)])) := by kernel_rfl
def s25 : Script := .ld (.int .u8) (.ld (.int .i64) (.ld (.int .i64) (.ld .str (.cl (.one (.leaf (.int .i64))) (.sym (.sym (.cl (.tup []) (.cl (.one (.agg [.str,.int .i64,.int .i64])) (.ct 1 [0,3,6,8] mx25_10 (.sym .nil (.ld .str (.cl (.tup []) .nil)))))) (.cl (.tup []) (.cl (.one (.agg [.str,.int .i64,.int .i64])) (.ct 1 [0,3,6,8] mx25_18 (.sym .nil (.ld .str (.cl (.tup []) .nil))))))) (.ct 1 [0,3] mx25_23 (.sym (.ld .str (.cl (.one (.leaf (.int .i64))) .nil)) (.ct 1 [0,3] mx25_30 (.sym (.cl (.one (.leaf (.int .i64))) .nil) (.ct 1 [0,3] mx25_35 (.sym (.cl (.one (.agg [.str,.int .i64,.int .i64])) (.ld .str (.sym (.ld .str (.sym .nil (.cl (.tup []) (.ld .str (.cl (.tup []) .nil))))) (.ld .str (.sym .nil (.cl (.tup []) (.ld .str (.cl (.tup []) .nil)))))))) .nil)))))))))))
theorem t25 (qa0 : Addr) (qx1_0 : Int) (qx1_1 : Int) (qx1_2 : Int) (qs1_3 : ByteArray) : fnT Tryz.prog Tryz.f25 #[.pointer (some qa0),.agg #[.int .u8 qx1_0,.int .i64 qx1_1,.int .i64 qx1_2,.string qs1_3]] s25 = .new (.cells #[.int .u8 qx1_0,.int .i64 qx1_1,.int .i64 qx1_2,.string qs1_3] 64 (0,0)) (fun n1 => .load ⟨n1,0,none⟩ (.int .u8) (fun x2 => .load ⟨n1,1,none⟩ (.int .i64) (fun x3 => .load ⟨n1,2,none⟩ (.int .i64) (fun x4 => .load ⟨n1,3,none⟩ .str (fun s5 => .call 57 #[.agg #[.int .u8 x2,.int .i64 x3,.int .i64 x4,.string s5]] (.one (.leaf (.int .i64))) (fun x6 => .br (Decidable.decide (x6 > 0)) (.br (x6 == 4) (.call 49 #[.pointer (some qa0),.int .i64 5] (.tup []) (fun r7 => .call 50 #[.pointer (some qa0)] (.one (.agg [.str,.int .i64,.int .i64])) (fun r8 => .new (.cells #[.string (bytesL []),.int .i64 0,.int .i64 0] 68 (0,0)) (fun n9 => .store ⟨n9,0,none⟩ (.string r8.1) (.store ⟨n9,1,none⟩ (.int .i64 r8.2.1) (.store ⟨n9,2,none⟩ (.int .i64 r8.2.2.1) (.cut (at_ Tryz.f25 [1,1,0,1,0,1,1,1,1,0,0]) 94 (fx25_10 qa0 n1 x6 n9) mx25_10 (fun u12 g12 => .br u12.1 (.done (.returned (.tuple #[.int .i64 36,.bool true]))) (.load ⟨n1,3,none⟩ .str (fun s13 => .call 54 #[.pointer (some qa0),.string s13,.int .i64 x6] (.tup []) (fun r14 => .done (.returned (.tuple #[.int .i64 0,.bool true]))))))))))))) (.call 49 #[.pointer (some qa0),.int .i64 x6] (.tup []) (fun r15 => .call 50 #[.pointer (some qa0)] (.one (.agg [.str,.int .i64,.int .i64])) (fun r16 => .new (.cells #[.string (bytesL []),.int .i64 0,.int .i64 0] 68 (0,0)) (fun n17 => .store ⟨n17,0,none⟩ (.string r16.1) (.store ⟨n17,1,none⟩ (.int .i64 r16.2.1) (.store ⟨n17,2,none⟩ (.int .i64 r16.2.2.1) (.cut (at_ Tryz.f25 [1,1,0,1,0,1,1,1,1,0,0]) 94 (fx25_18 qa0 n1 x6 n17) mx25_18 (fun u20 g20 => .br u20.1 (.done (.returned (.tuple #[.int .i64 36,.bool true]))) (.load ⟨n1,3,none⟩ .str (fun s21 => .call 54 #[.pointer (some qa0),.string s21,.int .i64 x6] (.tup []) (fun r22 => .done (.returned (.tuple #[.int .i64 0,.bool true])))))))))))))) (.cut (at_ Tryz.f25 [1,1,1,0,0]) 94 (fx25_23 qa0 n1) mx25_23 (fun u27 g27 => .br u27.1 (.load ⟨n1,3,none⟩ .str (fun s28 => .call 58 #[.pointer (some qa0),.string s28] (.one (.leaf (.int .i64))) (fun x29 => .done (.returned (.tuple #[.int .i64 x29,.bool false]))))) (.cut (at_ Tryz.f25 [1,1,1,1,0,0]) 94 (fx25_30 qa0 n1) mx25_30 (fun u33 g33 => .br u33.1 (.call 59 #[.pointer (some qa0)] (.one (.leaf (.int .i64))) (fun x34 => .done (.returned (.tuple #[.int .i64 x34,.bool true])))) (.cut (at_ Tryz.f25 [1,1,1,1,1,0,0]) 94 (fx25_35 qa0 n1) mx25_35 (fun u39 g39 => .br u39.1 (.call 22 #[.pointer (some qa0)] (.one (.agg [.str,.int .i64,.int .i64])) (fun r40 => .new (.cells #[.string (bytesL []),.int .i64 0,.int .i64 0] 68 (0,0)) (fun n41 => .store ⟨n41,0,none⟩ (.string r40.1) (.store ⟨n41,1,none⟩ (.int .i64 r40.2.1) (.store ⟨n41,2,none⟩ (.int .i64 r40.2.2.1) (.load ⟨n1,3,none⟩ .str (fun s42 => .br (s42.toList == (bytesL [101,108,115,101]).toList) (.load ⟨n41,0,none⟩ .str (fun s43 => .br (!s43.toList == (bytesL [116,104,101,110]).toList) (.done (.returned (.tuple #[.int .i64 36,.bool true]))) (.call 52 #[.pointer (some qa0)] (.tup []) (fun r44 => .load ⟨n1,3,none⟩ .str (fun s45 => .call 54 #[.pointer (some qa0),.string s45,.int .i64 (-1)] (.tup []) (fun r46 => .done (.returned (.tuple #[.int .i64 0,.bool true])))))))) (.load ⟨n41,0,none⟩ .str (fun s47 => .br (!s47.toList == (bytesL [105,102]).toList) (.done (.returned (.tuple #[.int .i64 36,.bool true]))) (.call 52 #[.pointer (some qa0)] (.tup []) (fun r48 => .load ⟨n1,3,none⟩ .str (fun s49 => .call 54 #[.pointer (some qa0),.string s49,.int .i64 (-1)] (.tup []) (fun r50 => .done (.returned (.tuple #[.int .i64 0,.bool true]))))))))))))))) (.done (.returned (.tuple #[.int .i64 36,.bool true]))))))))))))))) := by kernel_rfl
/-- What a step of the reader comes to; cl: a fault's place is the reader's own. -/
def PostM (B : Nat → Prop) (base b : Nat) (s : ByteArray) (i0 m : Nat) (cl : Bool) (t : Tk) (w : World) (r : Res) (e : Ending) (w' : World) : Prop := ∃ B',Turn B B' w w' ∧ match r with
 | .error c => (∃ wn,e = .returned (.tuple #[.int .i64 (c.1 : Nat),.bool wn])) ∧ c.1 ≠ 0 ∧ (if cl = true then ∃ σ ω d,Rd B' base w' b s c.2 σ ω d else c.2 = t.at_)
 | .ok (.inr ms) => e = .returned (.tuple #[.int .i64 0,.bool ms.want]) ∧ ms.st.tok = none ∧ OkO ms.σ ms.st.op ∧ ms.σ.length + ms.ω.length ≤ m + 1 ∧ ∃ j,i0 ≤ j ∧ j ≤ s.size ∧ ms.st.l = rest s j ∧ Rd B' base w' b s j ms.σ ms.ω ms.st.op
 | .ok (.inl _) => False
theorem lev_nn {t : Tk} (h : 0 < levelT t) : t.text ≠ [] := by
 intro e
 unfold levelT at h
 rw [e] at h
 revert h
 split
 ·decide
 ·split <;> decide
section
variable {B B1 : Nat → Prop} {base : Nat} {w w1 : World} {b : Nat} {s : ByteArray} {i m : Nat} {σ : List OM} {ω : List SM} {d : Nat} {t : Tk} {wn : Bool}
theorem post_bad (T : Turn B B1 w w1) : PostM B base b s i m false t w (.error (36,t.at_)) (.returned (.tuple #[.int .i64 36,.bool wn])) w1 :=
 ⟨B1,T,⟨wn,rfl⟩,Nat.succ_ne_zero _,rfl⟩
theorem post_go {cl : Bool} {i0 : Nat} (T : Turn B B1 w w1) (h0 : i0 ≤ i) (hi : i ≤ s.size) (hok : OkO σ d) (hm : σ.length + ω.length ≤ m + 1) (R : Rd B1 base w1 b s i σ ω d) : PostM B base b s i0 m cl t w (.ok (.inr ⟨wn,⟨rest s i,none,d⟩,σ,ω⟩)) (.returned (.tuple #[.int .i64 0,.bool wn])) w1 :=
 ⟨B1,T,rfl,rfl,hok,hm,i,h0,hi,rfl,R⟩
theorem post_in {r : Res} {e : Ending} (T : Turn B B w w1) {w2 : World} (h : PostI B base b s i m w1 r e w2) (h1 : ∀ c,r = .error c → c = (36,t.at_)) (h2 : ∀ ms,r = .ok (.inr ms) → ms.want = wn) (hi : i ≤ s.size) :
  ∃ x,e = .returned (.int .i64 x) ∧ PostM B base b s i m false t w r (.returned (.tuple #[.int .i64 x,.bool wn])) w2 := by
 obtain ⟨B4,T4,hx⟩ := h
 cases r with
 | error c =>
  obtain ⟨rfl,hc1⟩ := hx
  obtain rfl := h1 c rfl
  exact ⟨36,rfl,post_bad (T.trans T4)⟩
 | ok z =>
  cases z with
  | inl l => exact hx.elim
  | inr ms =>
   obtain ⟨rfl,k1,k2,k3,k4,k5⟩ := hx
   have := h2 ms rfl
   subst this
   exact ⟨0,rfl,B4,T.trans T4,rfl,k1,k3,k4,i,Nat.le_refl _,hi,k2,k5⟩
end
theorem closes_er {t : Tk} {st : PS} {z : List OM × List SM} {c : Er} (h : closesM t st z = .error c) : c = (36,t.at_) := by
 obtain ⟨σ,ω⟩ := z
 cases σ with
 | nil => cases h; rfl
 | cons o σ =>
  unfold closesM at h
  dsimp only at h
  split at h
  ·cases h
  ·split at h
   ·cases h
   ·split at h
    ·cases h
    ·cases h; rfl
theorem closes_wn {t : Tk} {st : PS} {z : List OM × List SM} {ms : MS} (h : closesM t st z = .ok (.inr ms)) : ms.want = false := by
 obtain ⟨σ,ω⟩ := z
 cases σ with
 | nil => cases h
 | cons o σ =>
  unfold closesM at h
  dsimp only at h
  split at h
  ·cases h; rfl
  ·split at h
   ·cases h; rfl
   ·split at h
    ·cases h; rfl
    ·cases h
theorem comma_er {t : Tk} {st : PS} {z : List OM × List SM} {c : Er} (h : commaM t st z = .error c) : c = (36,t.at_) := by
 obtain ⟨σ,ω⟩ := z
 cases σ with
 | nil => cases h; rfl
 | cons o σ =>
  unfold commaM at h
  dsimp only at h
  by_cases hh : (if o.op = sLb then 6 else takesM o.op) ≤ o.cnt + 1
  ·rw [if_pos hh] at h; cases h; rfl
  ·rw [if_neg hh] at h; cases h
theorem comma_wn {t : Tk} {st : PS} {z : List OM × List SM} {ms : MS} (h : commaM t st z = .ok (.inr ms)) : ms.want = true := by
 obtain ⟨σ,ω⟩ := z
 cases σ with
 | nil => cases h
 | cons o σ =>
  unfold commaM at h
  dsimp only at h
  by_cases hh : (if o.op = sLb then 6 else takesM o.op) ≤ o.cnt + 1
  ·rw [if_pos hh] at h; cases h
  ·rw [if_neg hh] at h; cases h; rfl
theorem behind_any (w : World) (B : Nat → Prop) (base b : Nat) (s : ByteArray) (i : Nat) (σ : List OM) (ω : List SM) (d : Nat) (t : Tk) (ht : TkOk t) (h : Rd B base w b s i σ ω d) (hi : i ≤ s.size) (hok : OkO σ d) (hcap : σ.length + ω.length < 800) :
  Calls Tryz.prog 25 #[.pointer (some ⟨b,0,none⟩),tok3 t] w (PostM B base b s i (σ.length + ω.length) false t w (behindM t ⟨rest s i,none,d⟩ σ ω)) := by
 unfold tok3
 refine calls_of_fnT mixed Tryz.func25 (s := s25) ?_
 rw [t25]
 refine nw fun w1 h1 z1 n1 => ?_
 have R1 := h.no h1
 have hnB : ¬ B w.heap.size := fun hb => by have := (h.bnd _ hb).2; omega
 have hlt1 := n1.lt
 generalize hnn : w.heap.size = nn at *
 refine ld_int (n1.cell 0) (ld_int (n1.cell 1) (ld_int (n1.cell 2) (ld_str (n1.cell 3) (cl_i (level_any w1 t ht) ?_))))
 rintro e w2 ⟨h2,rfl⟩
 have R2 := R1.no h2
 have n2 := n1.ch h2 (fun h => h)
 have T2 : Turn B B w w2 := (Turn.no h1).trans (Turn.no h2)
 refine ⟨_,rfl,?_⟩
 have hlev := levelT_le t
 unfold behindM
 refine br_both (fun e => ?_) fun e => ?_
 ·have hpos : 0 < levelT t := by have := gt_t e; omega
  rw [if_pos hpos]
  refine br_both (fun e4 => ?_) fun e4 => ?_
  ·have e4 : levelT t = 4 := by have := eq_t e4; omega
   refine cl_i (ends_any w2 B base b s i σ ω d 5 R2 (by omega)) ?_
   rintro e w3 ⟨rfl,B3,T3,R3⟩
   have hL := ends_len 5 σ ω
   have hK := ok_ends 5 σ ω hok
   rw [if_pos e4]
   generalize endsM 5 σ ω = z at *
   obtain ⟨σ1,ω1⟩ := z
   dsimp only at hL hK R3 ⊢
   refine ⟨(),rfl,cl_i (top_any w3 B3 base b s i σ1 ω1 d R3) ?_⟩
   rintro e w4 ⟨h4,rfl⟩
   refine ⟨(bytesL (topM σ1).op,(topM σ1).lv,((topM σ1).cnt : Int),()),rfl,op_new fun n9 w5 h5 hn n9b => ?_⟩
   have R5 := (R3.no h4).no h5
   have T5 : Turn B B3 w w5 := T2.trans (T3.trans ((Turn.no h4).trans (Turn.no h5)))
   have n5 := ((n2.ch T3.ch hnB).ch h4 (fun h => h)).ch h5 (fun h => h)
   refine cut_i mixed s25_10 (fun (v : Bool × Unit) w' => w' = w5 ∧ (v.1 = true ↔ topLv σ1 = 4)) (by kernel_rfl) (fun g => ?_) ?_
   ·rw [t25_10]
    refine br_true (by rw [e4]; rfl) (ld_int (n9b.cell 1) ⟨rfl,(_,()),rfl,rfl,?_⟩)
    show (((topM σ1).lv == 4) = true ↔ _)
    rw [beq_iff_eq,topM_lv]
   rintro ⟨u,⟨⟩⟩ g w6 ⟨rfl,hu⟩
   dsimp only at hu
   refine br_both (fun e => ?_) fun e => ?_
   ·rw [if_pos ⟨e4,hu.1 e⟩]
    exact post_bad T5
   ·rw [if_neg (fun h => by have := hu.2 h.2; have e : u = false := e; rw [e] at this; cases this)]
    refine ld_str (n5.cell 3) (cl_i (push_any w6 B3 base b s i ⟨t.text,(levelT t : Nat),0⟩ σ1 ω1 d R5 rfl (by omega)) ?_)
    rintro e w7 ⟨rfl,B7,T7,R7⟩
    refine ⟨(),rfl,post_go (T5.trans T7) (Nat.le_refl _) hi (hK.push ⟨Nat.zero_le _,by dsimp only; omega,by dsimp only; omega,lev_nn hpos⟩ (brk_lv (by dsimp only; omega))) ?_ R7⟩
    rw [List.length_cons]; omega
  ·have e4 : ¬ levelT t = 4 := by have := eq_f e4; omega
   refine cl_i (ends_any w2 B base b s i σ ω d (levelT t : Nat) R2 (by omega)) ?_
   rintro e w3 ⟨rfl,B3,T3,R3⟩
   have hL := ends_len (levelT t : Nat) σ ω
   have hK := ok_ends (levelT t : Nat) σ ω hok
   rw [if_neg (fun h => e4 h.1),if_neg e4]
   generalize endsM (levelT t : Nat) σ ω = z at *
   obtain ⟨σ1,ω1⟩ := z
   dsimp only at hL hK R3 ⊢
   refine ⟨(),rfl,cl_i (top_any w3 B3 base b s i σ1 ω1 d R3) ?_⟩
   rintro e w4 ⟨h4,rfl⟩
   refine ⟨(bytesL (topM σ1).op,(topM σ1).lv,((topM σ1).cnt : Int),()),rfl,op_new fun n9 w5 h5 hn n9b => ?_⟩
   have R5 := (R3.no h4).no h5
   have T5 : Turn B B3 w w5 := T2.trans (T3.trans ((Turn.no h4).trans (Turn.no h5)))
   have n5 := ((n2.ch T3.ch hnB).ch h4 (fun h => h)).ch h5 (fun h => h)
   refine cut_i mixed s25_18 (fun (v : Bool × Unit) w' => w' = w5 ∧ v.1 = false) (by kernel_rfl) (fun g => ?_) ?_
   ·rw [t25_18]
    refine br_false (beq_eq_false_iff_ne.2 (by omega)) ⟨rfl,(false,()),rfl,rfl,rfl⟩
   rintro ⟨u,⟨⟩⟩ g w6 ⟨rfl,hu⟩
   dsimp only at hu
   subst hu
   refine br_false rfl ?_
   refine ld_str (n5.cell 3) (cl_i (push_any w6 B3 base b s i ⟨t.text,(levelT t : Nat),0⟩ σ1 ω1 d R5 rfl (by omega)) ?_)
   rintro e w7 ⟨rfl,B7,T7,R7⟩
   refine ⟨(),rfl,post_go (T5.trans T7) (Nat.le_refl _) hi (hK.push ⟨Nat.zero_le _,by dsimp only; omega,by dsimp only; omega,lev_nn hpos⟩ (brk_lv (by dsimp only; omega))) ?_ R7⟩
   rw [List.length_cons]; omega
 have hpos : ¬ 0 < levelT t := by have := gt_f e; omega
 rw [if_neg hpos]
 refine cut_i mixed s25_23 (fun (v : Bool × Unit) w' => w' = w2 ∧ (v.1 = true ↔ (t.kind = 4 ∧ (t.text = sRp ∨ t.text = sRb)))) (by kernel_rfl) (fun g => ?_) ?_
 ·rw [t25_23]
  simp only [tb_list]
  refine ld_int (n2.cell 0) (br_both (fun e => ?_) fun e => ⟨rfl,(false,()),rfl,rfl,?_⟩)
  ·have e : t.kind = 4 := (kd_4 _).1 (eq_t e)
   refine ld_str (n2.cell 3) ?_
   simp only [tb_list]
   refine br_both (fun e2 => ⟨rfl,(true,()),rfl,rfl,⟨fun _ => ⟨e,.inl (beq_iff_eq.1 e2)⟩,fun _ => rfl⟩⟩) fun e2 => ?_
   have e2 : ¬ t.text = sRp := beq_eq_false_iff_ne.1 e2
   refine ld_str (n2.cell 3) ⟨rfl,(_,()),rfl,rfl,?_⟩
   simp only [tb_list]
   show ((t.text == sRb) = true ↔ _)
   rw [beq_iff_eq]
   exact ⟨fun h => ⟨e,.inr h⟩,fun h => h.2.resolve_left e2⟩
  ·have e : ¬ t.kind = 4 := fun h => eq_f e ((kd_4 _).2 h)
   exact ⟨(fun h => nomatch h),fun h => absurd h.1 e⟩
 rintro ⟨u,⟨⟩⟩ g w3 ⟨rfl,hu⟩
 dsimp only at hu
 refine br_both (fun e => ?_) fun e => ?_
 ·rw [if_pos (hu.1 e)]
  refine ld_str (n2.cell 3) (cl_i (closes_any w3 B base b s i σ ω d t R2 hok hcap) ?_)
  rintro e w4 hx
  obtain ⟨x,rfl,hp⟩ := post_in (t := t) T2 hx (fun c h => closes_er h) (fun ms h => closes_wn h) hi
  exact ⟨x,rfl,hp⟩
 have hn1 : ¬ (t.kind = 4 ∧ (t.text = sRp ∨ t.text = sRb)) := fun h => by
  have := hu.2 h
  have e : u = false := e
  rw [e] at this; cases this
 rw [if_neg hn1]
 refine cut_i mixed s25_30 (fun (v : Bool × Unit) w' => w' = w3 ∧ (v.1 = true ↔ (t.kind = 4 ∧ t.text = sCom))) (by kernel_rfl) (fun g => ?_) ?_
 ·rw [t25_30]
  refine ld_int (n2.cell 0) (br_both (fun e => ?_) fun e => ⟨rfl,(false,()),rfl,rfl,?_⟩)
  ·have e : t.kind = 4 := (kd_4 _).1 (eq_t e)
   refine ld_str (n2.cell 3) ⟨rfl,(_,()),rfl,rfl,?_⟩
   simp only [tb_list]
   show ((t.text == sCom) = true ↔ _)
   rw [beq_iff_eq]
   exact ⟨fun h => ⟨e,h⟩,fun h => h.2⟩
  ·have e : ¬ t.kind = 4 := fun h => eq_f e ((kd_4 _).2 h)
   exact ⟨(fun h => nomatch h),fun h => absurd h.1 e⟩
 rintro ⟨u2,⟨⟩⟩ g w4 ⟨rfl,hu2⟩
 dsimp only at hu2
 refine br_both (fun e => ?_) fun e => ?_
 ·rw [if_pos (hu2.1 e)]
  refine cl_i (comma_any w4 B base b s i σ ω d t R2 hok hcap) ?_
  rintro e w5 hx
  obtain ⟨x,rfl,hp⟩ := post_in (t := t) T2 hx (fun c h => comma_er h) (fun ms h => comma_wn h) hi
  exact ⟨x,rfl,hp⟩
 have hn2 : ¬ (t.kind = 4 ∧ t.text = sCom) := fun h => by
  have := hu2.2 h
  have e : u2 = false := e
  rw [e] at this; cases this
 rw [if_neg hn2]
 refine cut_i mixed s25_35 (fun (v : Bool × Unit) w' => w' = w4 ∧ (v.1 = true ↔ (t.kind = 2 ∧ (t.text = tThen ∨ t.text = tElse)))) (by kernel_rfl) (fun g => ?_) ?_
 ·rw [t25_35]
  refine ld_int (n2.cell 0) (br_both (fun e => ?_) fun e => ⟨rfl,(false,()),rfl,rfl,?_⟩)
  ·have e : t.kind = 2 := (kd_2 _).1 (eq_t e)
   refine ld_str (n2.cell 3) ?_
   simp only [tb_list]
   refine br_both (fun e2 => ⟨rfl,(true,()),rfl,rfl,⟨fun _ => ⟨e,.inl (beq_iff_eq.1 e2)⟩,fun _ => rfl⟩⟩) fun e2 => ?_
   have e2 : ¬ t.text = tThen := beq_eq_false_iff_ne.1 e2
   refine ld_str (n2.cell 3) ⟨rfl,(_,()),rfl,rfl,?_⟩
   simp only [tb_list]
   show ((t.text == tElse) = true ↔ _)
   rw [beq_iff_eq]
   exact ⟨fun h => ⟨e,.inr h⟩,fun h => h.2.resolve_left e2⟩
  ·have e : ¬ t.kind = 2 := fun h => eq_f e ((kd_2 _).2 h)
   exact ⟨(fun h => nomatch h),fun h => absurd h.1 e⟩
 rintro ⟨u3,⟨⟩⟩ g w5 ⟨rfl,hu3⟩
 dsimp only at hu3
 refine br_both (fun e => ?_) fun e => ?_
 ·have hc := hu3.1 e
  rw [if_pos hc]
  refine cl_i (back_any w5 B base b s i σ ω d R2 (by omega)) ?_
  rintro e w6 ⟨rfl,B6,T6,R6⟩
  have hL := back_len σ ω
  have hK := ok_back σ ω hok
  generalize backM σ ω = z at *
  obtain ⟨σ1,ω1⟩ := z
  dsimp only at hL hK R6
  refine ⟨(bytesL (topM σ1).op,(topM σ1).lv,((topM σ1).cnt : Int),()),rfl,op_new fun n w7 h7 hn n7 => ?_⟩
  have R7 := R6.no h7
  have T7 : Turn B B6 w w7 := T2.trans (T6.trans (Turn.no h7))
  have nn7 := (n2.ch T6.ch hnB).ch h7 (fun h => h)
  have hnB6 : ¬ B6 nn := T6.away hnB n2.lt
  refine ld_str (nn7.cell 3) ?_
  simp only [tb_list]
  have tail : ∀ (want : Txt),want = (if t.text = tElse then tThen else tIf) → ∀ {Q : Exit → List (Tmp × Value) → World → Prop},wpT Tryz.prog (PostM B base b s i (σ.length + ω.length) false t w (thenM t ⟨rest s i,none,d⟩ (σ1,ω1))) Q
    (.load ⟨n,0,none⟩ .str (fun s43 => .br (!s43.toList == want)
       (.done (.returned (.tuple #[.int .i64 36,.bool true])))
       (.call 52 #[.pointer (some ⟨b,0,none⟩)] (.tup []) (fun r44 =>
        .load ⟨nn,3,none⟩ .str (fun s45 =>
         .call 54 #[.pointer (some ⟨b,0,none⟩),.string s45,.int .i64 (-1)] (.tup []) (fun r46 =>
          .done (.returned (.tuple #[.int .i64 0,.bool true])))))))) .pl w7 := by
   rintro want hwant Q
   refine ld_str (n7.cell 0) ?_
   simp only [tb_list]
   refine br_both (fun e => ?_) fun e => ?_
   ·have e : ¬ (topM σ1).op = want := by simpa using e
    have : thenM t ⟨rest s i,none,d⟩ (σ1,ω1) = .error (36,t.at_) := by
     cases σ1 with
     | nil => rfl
     | cons o σ2 =>
      have e : ¬ o.op = want := e
      unfold thenM
      dsimp only
      rw [if_neg (by rw [← hwant]; exact e)]
    rw [this]
    exact post_bad T7
   ·have e : (topM σ1).op = want := by simpa using e
    obtain ⟨o,σ2,rfl⟩ : ∃ o σ2,σ1 = o :: σ2 := by
     cases σ1 with
     | nil =>
      rw [hwant] at e
      have e : ([] : Txt) = _ := e
      split at e <;> cases e
     | cons o σ2 => exact ⟨o,σ2,rfl⟩
    have e : o.op = want := e
    have : thenM t ⟨rest s i,none,d⟩ (o :: σ2,ω1) = .ok (.inr ⟨true,⟨rest s i,none,d⟩,⟨t.text,-1,0⟩ :: σ2,ω1⟩) := by
     unfold thenM
     dsimp only
     rw [if_pos (by rw [← hwant]; exact e)]
    rw [this]
    rw [List.length_cons] at hL
    have hbo : brk o = false := by
     rw [hwant] at e
     split at e
     ·exact brk_else (.inr (.inl e))
     ·exact brk_else (.inr (.inr e))
    have hK2 := hK.tail
    rw [hbo,if_neg (by decide)] at hK2
    refine cl_i (drop_any w7 B6 base b s i o σ2 _ d R7) ?_
    rintro e w8 ⟨rfl,T8,R8⟩
    refine ⟨(),rfl,ld_str ((nn7.ch T8.ch hnB6).cell 3) (cl_i (push_any w8 B6 base b s i ⟨t.text,-1,0⟩ σ2 ω1 d R8 rfl (by omega)) ?_)⟩
    rintro e w9 ⟨rfl,B9,T9,R9⟩
    refine ⟨(),rfl,post_go (T7.trans (T8.trans T9)) (Nat.le_refl _) hi (hK2.push ⟨Nat.zero_le _,Int.le_refl _,by dsimp only; omega,?_⟩ (brk_else ?_)) ?_ R9⟩
    ·rcases hc.2 with h | h <;> rw [h] <;> decide
    ·exact hc.2.elim (fun h => .inr (.inl h)) .inl
    ·rw [List.length_cons]; omega
  refine br_both (fun e => ?_) fun e => ?_
  ·have e : t.text = tElse := beq_iff_eq.1 e
   exact tail tThen (by rw [if_pos e])
  ·have e : ¬ t.text = tElse := beq_eq_false_iff_ne.1 e
   exact tail tIf (by rw [if_neg e])
 ·have hn3 : ¬ (t.kind = 2 ∧ (t.text = tThen ∨ t.text = tElse)) := fun h => by
   have := hu3.2 h
   have e : u3 = false := e
   rw [e] at this; cases this
  rw [if_neg hn3]
  exact post_bad T2
end Go.Proofs.YtmdmomccibpjbaaGreatDoor.E
