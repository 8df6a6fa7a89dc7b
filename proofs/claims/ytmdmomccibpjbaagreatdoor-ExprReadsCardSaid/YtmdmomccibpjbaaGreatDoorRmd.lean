/- The machine does what the parser does: chains of operators, prefixes. The machine does what the parser does: ifs, brackets, lists, calls; whole texts. The machine does what the parser does: lists, calls, atoms; whole texts. -/
import Derived.Test.YtmdmomccibpjbaaGreatDoorCnb
namespace Go.Proofs.YtmdmomccibpjbaaGreatDoor.E
open Go Tr
set_option maxRecDepth 100000
set_option maxHeartbeats 2000000
section
variable {L : Nat}
/-! ### Steps of the machine -/
theorem step_peek {b : Bool} {st st1 : PS} {t : Tk} {σ : List OM} {ω : List SM} (h : peekB L st = .ok (t,st1)) : stepM L ⟨b,st1,σ,ω⟩ = stepM L ⟨b,st,σ,ω⟩ := by
 unfold stepM
 dsimp only
 rw [h,(peekB_again h).1]
theorem out_peek {b : Bool} {st st1 : PS} {t : Tk} {σ : List OM} {ω : List SM} {r : Except Er (List SM)} (h : peekB L st = .ok (t,st1)) (ho : Out L ⟨b,st1,σ,ω⟩ r) : Out L ⟨b,st,σ,ω⟩ r := by
 have e := step_peek (b := b) (σ := σ) (ω := ω) h
 cases ho with
 | err h1 => exact .err (by rw [← e]; exact h1)
 | fin h1 => exact .fin (by rw [← e]; exact h1)
 | go h1 h2 => exact .go (by rw [← e]; exact h1) h2
theorem out_err {b : Bool} {st : PS} {e : Er} {σ : List OM} {ω : List SM} (h : peekB L st = .error e) : Out L ⟨b,st,σ,ω⟩ (.error e) := .err (by unfold stepM; dsimp only; rw [h])
theorem step_want {st st1 : PS} {t : Tk} {σ : List OM} {ω : List SM} (h : peekB L st = .ok (t,st1)) (hk : t.kind ≠ 0) : stepM L ⟨true,st,σ,ω⟩ = operandM L t (dropB st1) σ ω := by
 unfold stepM; dsimp only; rw [h]; dsimp only; rw [if_neg hk,if_pos rfl]
theorem step_want0 {st st1 : PS} {t : Tk} {σ : List OM} {ω : List SM} (h : peekB L st = .ok (t,st1)) (hk : t.kind = 0) : stepM L ⟨true,st,σ,ω⟩ = .error (36,t.at_) := by
 unfold stepM; dsimp only; rw [h]; dsimp only; rw [if_pos hk,if_pos rfl]
theorem step_beh {st st1 : PS} {t : Tk} {σ : List OM} {ω : List SM} (h : peekB L st = .ok (t,st1)) (hk : t.kind ≠ 0) : stepM L ⟨false,st,σ,ω⟩ = behindM t (dropB st1) σ ω := by
 unfold stepM; dsimp only; rw [h]; dsimp only; rw [if_neg hk,if_neg Bool.false_ne_true]
theorem lev_kind {t : Tk} (h : 0 < levelT t) : t.kind ≠ 0 := by
 intro h0
 unfold levelT at h
 rw [if_neg (by omega),if_neg (by omega)] at h
 omega
/-! ### What is said of a part -/
structure Done (L m ms : Nat) (st : PS) (σ : List OM) (ω : List SM) (n : N) (st' : PS) (σ' : List OM) (ω' : List SM) : Prop where
 run : ∀ r,Out L ⟨false,st',σ',ω'⟩ r → Out L ⟨true,st,σ,ω⟩ r
 rel : ∀ k : Nat,k ≤ m → endsM (k : Nat) σ' ω' = endsM (k : Nat) σ (ω ++ flat n)
 stop : ∀ t st2,peekB L st' = .ok (t,st2) → levelT t < ms ∨ (levelT t = 4 ∧ ms ≤ 4 ∧ topLv (endsM 5 σ' ω').1 = 4)
structure DoneE (L : Nat) (st : PS) (σ : List OM) (ω : List SM) (n : N) (st' : PS) (σ' : List OM) (ω' : List SM) : Prop where
 run : ∀ r,Out L ⟨false,st',σ',ω'⟩ r → Out L ⟨true,st,σ,ω⟩ r
 rel : backM σ' ω' = backM σ (ω ++ flat n)
 stop : ∀ t st2,peekB L st' = .ok (t,st2) → levelT t = 0 ∨ (levelT t = 4 ∧ topLv (endsM 5 σ' ω').1 = 4)
def SimR (L m : Nat) (st : PS) (σ : List OM) (ω : List SM) : R N → Prop
 | .error e => Out L ⟨true,st,σ,ω⟩ (.error e)
 | .ok (n,st') => ∃ σ' ω',Done L m m st σ ω n st' σ' ω'
def SimE (L : Nat) (st : PS) (σ : List OM) (ω : List SM) : R N → Prop
 | .error e => Out L ⟨true,st,σ,ω⟩ (.error e)
 | .ok (n,st') => ∃ σ' ω',DoneE L st σ ω n st' σ' ω'
theorem Done.e {st : PS} {σ : List OM} {ω : List SM} {n : N} {st' : PS} {σ' : List OM} {ω' : List SM} (h : Done L 1 1 st σ ω n st' σ' ω') : DoneE L st σ ω n st' σ' ω' :=
 ⟨h.run,back_of_ends (h.rel 0 (by omega)),fun t st2 hp => (h.stop t st2 hp).imp (fun h => by omega) (fun h => ⟨h.1,h.2.2⟩)⟩
def lvN : Lv → Nat
 | .expr => 1
 | .or => 1
 | .and => 2
 | .not => 3
 | .cmp => 4
 | .sum => 5
 | .term => 6
 | .neg => 7
 | _ => 8
def tpN : Lv → Int
 | .expr => 1
 | .or => 1
 | .and => 2
 | .not => 4
 | .cmp => 4
 | .sum => 5
 | .term => 6
 | _ => 100
/-- What a level may lean on. -/
structure Pre (L : Nat) (lv : Lv) (st : PS) (σ : List OM) : Prop where
 top : topLv σ < tpN lv
 flo : lvN lv ≤ 3 → floorM σ ≤ 3
 fl0 : lv = .expr → floorM σ ≤ 0
 nif : lv ≠ .expr → ∀ t st1,peekB L st = .ok (t,st1) → isB t 2 tIf = true → 0 < floorM σ
 nnot : 4 ≤ lvN lv → ∀ t st1,peekB L st = .ok (t,st1) → isB t 2 tNot = true → 3 < floorM σ
 nrb : ∀ t st1,peekB L st = .ok (t,st1) → isB t 4 sRb = true → ∀ o σ0,σ = o :: σ0 → ¬ (o.op = sLb ∧ o.lv < 0 ∧ o.cnt = 0)
 nmin : 8 ≤ lvN lv → ∀ t st1,peekB L st = .ok (t,st1) → isB t 4 sMinus = false
/-- What is pushed as an operator is no barrier. -/
theorem no_bar {op : Txt} {l : Int} {c : Nat} {σ : List OM} (hl : 0 ≤ l) : ∀ o σ0,(⟨op,l,c⟩ : OM) :: σ = o :: σ0 → ¬ (o.op = sLb ∧ o.lv < 0 ∧ o.cnt = 0) := by
 intro o σ0 e h
 cases e
 have := h.2.1
 dsimp only at this
 omega
def Spec (L : Nat) (lv : Lv) (st : PS) (σ : List OM) (ω : List SM) (r : R N) : Prop := match lv with
 | .expr => SimE L st σ ω r
 | lv => SimR L (lvN lv) st σ ω r
/-- A level, with this fuel. -/
def Sim (L f : Nat) (lv : Lv) : Prop := ∀ st σ ω,Pre L lv st σ → prs L f lv st ≠ .error (0,0) → Spec L lv st σ ω (prs L f lv st)
theorem lev_text {t : Tk} (h : 0 < levelT t) : t.text ≠ tNot ∧ t.text ≠ nNeg := by
 unfold levelT at h
 split at h
 ·split at h
  ·rename_i e; rw [e]; decide
  ·split at h
   ·rename_i e; rw [e]; decide
   ·omega
 ·split at h
  ·constructor <;> (intro e; rw [e] at h; revert h; decide)
  ·omega
theorem lev_arity {t : Tk} (h : 0 < levelT t) : arity t.text = 2 := by
 have := lev_text h
 unfold arity
 rw [if_neg (by rintro (h | h); exact this.2 h; exact this.1 h)]
theorem floor_op {t : Tk} {l : Nat} {σ : List OM} (h : levelT t = l) (h0 : 0 < l) : floorM (⟨t.text,(l : Nat),0⟩ :: σ) = if l = 4 then 5 else (l : Int) + 1 := by
 have ht := lev_text (t := t) (by omega)
 show (if (l : Int) < 0 then (0 : Int) else if (l : Int) = 4 then 5 else if t.text = tNot then 3 else if t.text = nNeg then 7 else (l : Int) + 1) = _
 rw [if_neg (by omega),if_neg ht.1,if_neg ht.2]
 by_cases h4 : l = 4
 ·rw [if_pos (by omega),if_pos h4]
 ·rw [if_neg (by omega),if_neg h4]
/-- Behind a part at level l + 1: operators of level l. -/
theorem loop_sim {part : PS → R N} {lv : Lv} {l kind : Nat} {ops : List Txt} (hops : isOps kind ops l) (hl : l = 1 ∨ l = 2 ∨ l = 5 ∨ l = 6) (hlv : lv ≠ .expr ∧ lvN lv = l + 1 ∧ (l : Int) < tpN lv) (hpart : ∀ st σ ω,Pre L lv st σ → part st ≠ .error (0,0) → SimR L (l + 1) st σ ω (part st)) :
  ∀ (m : Nat) (a : N) (st0 : PS) (σ : List OM) (ω : List SM) (st1 : PS) (σ1 : List OM) (ω1 : List SM),topLv σ < l → Done L l (l + 1) st0 σ ω a st1 σ1 ω1 → loopB L part kind ops m a st1 ≠ .error (0,0) → SimR L l st0 σ ω (loopB L part kind ops m a st1)
 | 0,_,_,_,_,_,_,_,_,_,hne => absurd rfl hne
 | m + 1,a,st0,σ,ω,st1,σ1,ω1,ht,hD,hne => by
  have hd : loopB L part kind ops (m + 1) a st1 = bindR (peekB L st1) fun t st => match opOf t kind ops with
   | none => .ok (a,st)
   | some op => bindR (part (dropB st)) fun b st => loopB L part kind ops m (.bin op a b) st := rfl
  rw [hd] at hne ⊢
  cases hp : peekB L st1 with
  | error e => exact hD.run _ (out_err hp)
  | ok y =>
  obtain ⟨t,st2⟩ := y
  rw [hp] at hne
  show SimR L l st0 σ ω (match opOf t kind ops with
   | none => .ok (a,st2)
   | some op => bindR (part (dropB st2)) fun b st => loopB L part kind ops m (.bin op a b) st)
  have hne : (match opOf t kind ops with
   | none => (.ok (a,st2) : R N)
   | some op => bindR (part (dropB st2)) fun b st => loopB L part kind ops m (.bin op a b) st) ≠ .error (0,0) := hne
  have hpa := (peekB_again hp).1
  rw [hops t] at hne ⊢
  by_cases hlev : levelT t = l
  ·rw [if_pos hlev] at hne ⊢
   dsimp only at hne ⊢
   have h0 : 0 < levelT t := by omega
   have he : endsM (l : Nat) σ1 ω1 = (σ,ω ++ flat a) := by rw [hD.rel l (Nat.le_refl _)]; exact ends_stop (.inl ht)
   have hstep : stepM L ⟨false,st1,σ1,ω1⟩ = .ok (.inr ⟨true,dropB st2,⟨t.text,(l : Nat),0⟩ :: σ,ω ++ flat a⟩) := by
    rw [step_beh hp (lev_kind h0),behindM,if_pos h0,if_neg (by omega),if_neg (by omega),hlev,he]
   have hpre : Pre L lv (dropB st2) (⟨t.text,(l : Nat),0⟩ :: σ) := by
    have hf := floor_op (σ := σ) hlev (by omega)
    refine ⟨hlv.2.2,fun h => ?_,fun h => absurd h hlv.1,fun _ _ _ _ _ => ?_,fun h _ _ _ _ => ?_,fun _ _ _ _ => no_bar (by omega),fun h => by omega⟩
    ·rw [hf,if_neg (by omega)]; omega
    ·rw [hf]; split <;> omega
    ·rw [hf]; split <;> omega
   have hpn : part (dropB st2) ≠ .error (0,0) := fun h => hne (by rw [h]; rfl)
   have hs := hpart (dropB st2) _ (ω ++ flat a) hpre hpn
   cases hq : part (dropB st2) with
   | error e =>
    rw [hq] at hs
    exact hD.run _ (.go hstep hs)
   | ok z =>
    obtain ⟨c,st3⟩ := z
    rw [hq] at hs hne
    obtain ⟨σ3,ω3,hD3⟩ := hs
    refine loop_sim hops hl hlv hpart m (.bin t.text a c) st0 σ ω st3 σ3 ω3 ht ⟨fun r hr => hD.run r (.go hstep (hD3.run r hr)),fun k hk => ?_,hD3.stop⟩ hne
    rw [hD3.rel k (by omega),ends_pop (by show (k : Int) ≤ (l : Int); omega) (by show (0 : Int) ≤ (l : Int); omega),lev_arity h0]
    simp only [flat,List.append_assoc]
  ·rw [if_neg hlev]
   refine ⟨σ1,ω1,fun r hr => hD.run r (out_peek hp hr),hD.rel,fun t' st' hp' => ?_⟩
   rw [hpa] at hp'
   simp only [Except.ok.injEq,Prod.mk.injEq] at hp'
   obtain ⟨rfl,rfl⟩ := hp'
   rcases hD.stop t st2 hp with h | ⟨h1,h2,h3⟩
   ·exact .inl (by omega)
   ·exact .inr ⟨h1,by omega,h3⟩
theorem Pre.down {lv lv' : Lv} {st : PS} {σ : List OM} (h : Pre L lv st σ) (h1 : tpN lv ≤ tpN lv') (h2 : lvN lv' ≤ 3 → lvN lv ≤ 3) (h3 : lv' ≠ .expr) (h4 : lv ≠ .expr) (h5 : 4 ≤ lvN lv' → 4 ≤ lvN lv ∨ ∀ t st1,peekB L st = .ok (t,st1) → isB t 2 tNot = false) (h6 : lvN lv' < 8) : Pre L lv' st σ :=
 ⟨by have := h.top; omega,fun h' => h.flo (h2 h'),fun e => absurd e h3,fun _ => h.nif h4,fun h' t st1 hp hb => (by
  rcases h5 h' with h7 | h7
  ·exact h.nnot h7 t st1 hp hb
  ·rw [h7 t st1 hp] at hb; cases hb),h.nrb,fun h => by omega⟩
theorem chain_sim {f : Nat} {lv lv' : Lv} {l kind : Nat} {ops : List Txt} (hops : isOps kind ops l) (hl : l = 1 ∨ l = 2 ∨ l = 5 ∨ l = 6) (hlv : lv' ≠ .expr ∧ lvN lv' = l + 1 ∧ (l : Int) < tpN lv') (hlv2 : lv ≠ .expr ∧ lvN lv = l ∧ tpN lv = l)
  (hS : Sim L f lv') (hd : ∀ st,prs L (f + 1) lv st = bindR (prs L f lv' st) fun a st => loopB L (prs L f lv') kind ops f a st) (hdn : ∀ st σ,Pre L lv st σ → Pre L lv' st σ) (st : PS) (σ : List OM) (ω : List SM) (hP : Pre L lv st σ) (hne : prs L (f + 1) lv st ≠ .error (0,0)) :
  SimR L l st σ ω (prs L (f + 1) lv st) := by
 rw [hd] at hne ⊢
 have hpart : ∀ st σ ω,Pre L lv' st σ → prs L f lv' st ≠ .error (0,0) → SimR L (l + 1) st σ ω (prs L f lv' st) := fun st σ ω hP hn => by
  have := hS st σ ω hP hn
  rw [← hlv.2.1]
  cases lv' <;> first | exact this | exact absurd rfl hlv.1
 have hs := hpart st σ ω (hdn st σ hP) (fun h => hne (by rw [h]; rfl))
 cases hq : prs L f lv' st with
 | error e => rw [hq] at hs; exact hs
 | ok z =>
  obtain ⟨a,st1⟩ := z
  rw [hq] at hs hne
  obtain ⟨σ1,ω1,hD⟩ := hs
  exact loop_sim hops hl hlv hpart f a st σ ω st1 σ1 ω1 (by have := hP.top; rw [hlv2.2.2] at this; exact this) ⟨hD.run,fun k hk => hD.rel k (by omega),hD.stop⟩ hne
theorem or_sim {f : Nat} (h : Sim L f .and) : Sim L (f + 1) .or := fun st σ ω hP hne =>
 chain_sim ops_or (.inl rfl) ⟨by simp,rfl,by decide⟩ ⟨by simp,rfl,rfl⟩ h (fun _ => rfl) (fun _ _ hP => hP.down (by decide) (by decide) (by simp) (by simp) (fun h => absurd h (by decide)) (by decide)) st σ ω hP hne
theorem and_sim {f : Nat} (h : Sim L f .not) : Sim L (f + 1) .and := fun st σ ω hP hne =>
 chain_sim ops_and (.inr (.inl rfl)) ⟨by simp,rfl,by decide⟩ ⟨by simp,rfl,rfl⟩ h (fun _ => rfl) (fun _ _ hP => hP.down (by decide) (by decide) (by simp) (by simp) (fun h => absurd h (by decide)) (by decide)) st σ ω hP hne
theorem sum_sim {f : Nat} (h : Sim L f .term) : Sim L (f + 1) .sum := fun st σ ω hP hne =>
 chain_sim ops_sum (.inr (.inr (.inl rfl))) ⟨by simp,rfl,by decide⟩ ⟨by simp,rfl,rfl⟩ h (fun _ => rfl) (fun _ _ hP => hP.down (by decide) (by decide) (by simp) (by simp) (fun _ => .inl (by decide)) (by decide)) st σ ω hP hne
theorem term_sim {f : Nat} (h : Sim L f .neg) : Sim L (f + 1) .term := fun st σ ω hP hne =>
 chain_sim ops_term (.inr (.inr (.inr rfl))) ⟨by simp,rfl,by decide⟩ ⟨by simp,rfl,rfl⟩ h (fun _ => rfl) (fun _ _ hP => hP.down (by decide) (by decide) (by simp) (by simp) (fun _ => .inl (by decide)) (by decide)) st σ ω hP hne
theorem cmp_sim {f : Nat} (h : Sim L f .sum) : Sim L (f + 1) .cmp := fun st σ ω hP hne => by
 show SimR L 4 st σ ω _
 have hd : prs L (f + 1) .cmp st = bindR (prs L f .sum st) fun a st => bindR (peekB L st) fun t st => match opOf t 4 cmpOps with
   | none => .ok (a,st)
   | some op => bindR (prs L f .sum (dropB st)) fun b st => .ok (.bin op a b,st) := rfl
 rw [hd] at hne ⊢
 have ht : topLv σ < 4 := hP.top
 have hs : SimR L 5 st σ ω (prs L f .sum st) := h st σ ω (hP.down (by decide) (by decide) (by simp) (by simp) (fun _ => .inl (by decide)) (by decide)) (fun h => hne (by rw [h]; rfl))
 cases hq : prs L f .sum st with
 | error e => rw [hq] at hs; exact hs
 | ok z =>
 obtain ⟨a,st1⟩ := z
 rw [hq] at hs hne
 obtain ⟨σ1,ω1,hD⟩ := hs
 have hne : (bindR (peekB L st1) fun t st => match opOf t 4 cmpOps with
   | none => (.ok (a,st) : R N)
   | some op => bindR (prs L f .sum (dropB st)) fun b st => .ok (.bin op a b,st)) ≠ .error (0,0) := hne
 show SimR L 4 st σ ω (bindR (peekB L st1) fun t st => match opOf t 4 cmpOps with
   | none => .ok (a,st)
   | some op => bindR (prs L f .sum (dropB st)) fun b st => .ok (.bin op a b,st))
 cases hp : peekB L st1 with
 | error e => exact hD.run _ (out_err hp)
 | ok y =>
 obtain ⟨t,st2⟩ := y
 rw [hp] at hne
 have hpa := (peekB_again hp).1
 have hne : (match opOf t 4 cmpOps with
   | none => (.ok (a,st2) : R N)
   | some op => bindR (prs L f .sum (dropB st2)) fun b st => .ok (.bin op a b,st)) ≠ .error (0,0) := hne
 show SimR L 4 st σ ω (match opOf t 4 cmpOps with
   | none => .ok (a,st2)
   | some op => bindR (prs L f .sum (dropB st2)) fun b st => .ok (.bin op a b,st))
 rw [ops_cmp t] at hne ⊢
 by_cases hlev : levelT t = 4
 ·rw [if_pos hlev] at hne ⊢
  dsimp only at hne ⊢
  have h0 : 0 < levelT t := by omega
  have he : endsM 5 σ1 ω1 = (σ,ω ++ flat a) := by
   have := hD.rel 5 (Nat.le_refl _)
   rw [show ((5 : Nat) : Int) = 5 from rfl] at this
   rw [this]
   exact ends_stop (.inl (by omega))
  have hstep : stepM L ⟨false,st1,σ1,ω1⟩ = .ok (.inr ⟨true,dropB st2,⟨t.text,(4 : Nat),0⟩ :: σ,ω ++ flat a⟩) := by
   rw [step_beh hp (lev_kind h0),behindM,if_pos h0,if_pos hlev,he,if_neg (by rintro ⟨_,h⟩; dsimp only at h; omega),hlev]
  have hf := floor_op (σ := σ) hlev (by omega)
  have hpre : Pre L .sum (dropB st2) (⟨t.text,(4 : Nat),0⟩ :: σ) := by
   refine ⟨by show (4 : Int) < 5; omega,(fun h => absurd h (by decide)),(fun h => nomatch h),fun _ _ _ _ _ => ?_,fun h _ _ _ _ => ?_,fun _ _ _ _ => no_bar (by decide),fun h => absurd h (by decide)⟩
   ·rw [hf]; decide
   ·rw [hf]; decide
  have hs := h (dropB st2) _ (ω ++ flat a) hpre (fun h => hne (by rw [h]; rfl))
  cases hq : prs L f .sum (dropB st2) with
  | error e =>
   rw [hq] at hs
   exact hD.run _ (.go hstep hs)
  | ok z =>
   obtain ⟨c,st3⟩ := z
   rw [hq] at hs
   obtain ⟨σ3,ω3,hD3⟩ := hs
   have hr5 := hD3.rel 5 (Nat.le_refl _)
   refine ⟨σ3,ω3,fun r hr => hD.run r (.go hstep (hD3.run r hr)),fun k hk => ?_,fun t' st' hp' => ?_⟩
   ·rw [hD3.rel k (by show k ≤ 5; omega),ends_pop (by show (k : Int) ≤ 4; omega) (by show (0 : Int) ≤ 4; omega),lev_arity h0]
    simp only [flat,List.append_assoc]
   ·rcases hD3.stop t' st' hp' with h | ⟨h1,h2,h3⟩
    ·have h : levelT t' < 5 := h
     rcases (by omega : levelT t' < 4 ∨ levelT t' = 4) with h | h
     ·exact .inl h
     ·refine .inr ⟨h,Nat.le_refl _,?_⟩
      rw [show ((5 : Nat) : Int) = 5 from rfl] at hr5
      rw [hr5,ends_stop (.inl (by show (4 : Int) < 5; omega))]
      rfl
    ·exact absurd h2 (by decide)
 ·rw [if_neg hlev]
  refine ⟨σ1,ω1,fun r hr => hD.run r (out_peek hp hr),fun k hk => hD.rel k (by show k ≤ 5; omega),fun t' st' hp' => ?_⟩
  rw [hpa] at hp'
  simp only [Except.ok.injEq,Prod.mk.injEq] at hp'
  obtain ⟨rfl,rfl⟩ := hp'
  rcases hD.stop t st2 hp with h | ⟨h1,h2,h3⟩
  ·have h : levelT t < 5 := h
   exact .inl (by omega)
  ·exact absurd h2 (by decide)
theorem isB_text {t : Tk} {kind : Nat} {text : Txt} (h : isB t kind text = true) : t.text = text := by
 unfold isB at h
 rw [Bool.and_eq_true,beq_iff_eq] at h
 exact h.2
theorem not_sim {f : Nat} (hn : Sim L f .not) (hc : Sim L f .cmp) : Sim L (f + 1) .not := fun st σ ω hP hne => by
 show SimR L 3 st σ ω _
 have hd : prs L (f + 1) .not st = bindR (peekB L st) fun t st => if isB t 2 tNot = true then bindR (prs L f .not (dropB st)) fun a st => .ok (.un tNot a,st) else prs L f .cmp st := rfl
 rw [hd] at hne ⊢
 cases hp : peekB L st with
 | error e => exact out_err hp
 | ok y =>
 obtain ⟨t,st1⟩ := y
 have hpa := (peekB_again hp).1
 rw [hp] at hne
 have hne : (if isB t 2 tNot = true then bindR (prs L f .not (dropB st1)) fun a st => .ok (.un tNot a,st) else prs L f .cmp st1) ≠ .error (0,0) := hne
 show SimR L 3 st σ ω (if isB t 2 tNot = true then bindR (prs L f .not (dropB st1)) fun a st => .ok (.un tNot a,st) else prs L f .cmp st1)
 by_cases hb : isB t 2 tNot = true
 ·rw [if_pos hb] at hne ⊢
  have hk := isB_kind hb
  have hx := isB_text hb
  have hstep : stepM L ⟨true,st,σ,ω⟩ = .ok (.inr ⟨true,dropB st1,⟨tNot,3,0⟩ :: σ,ω⟩) := by
   have hfl := hP.flo (by decide)
   rw [step_want hp (by omega)]
   unfold operandM
   rw [if_neg (by omega),if_neg (by omega),if_neg (by omega),if_pos hk,hx,if_neg (by decide),if_neg (by decide),if_pos rfl,if_neg (by omega)]
  have hpre : Pre L .not (dropB st1) (⟨tNot,3,0⟩ :: σ) := by
   refine ⟨by show (3 : Int) < 4; omega,fun _ => by show (3 : Int) ≤ 3; omega,(fun h => nomatch h),fun _ _ _ _ _ => by show (0 : Int) < 3; omega,(fun h => absurd h (by decide)),fun _ _ _ _ => no_bar (by decide),fun h => absurd h (by decide)⟩
  have hs := hn (dropB st1) _ ω hpre (fun h => hne (by rw [h]; rfl))
  cases hq : prs L f .not (dropB st1) with
  | error e => rw [hq] at hs; exact .go hstep hs
  | ok z =>
   obtain ⟨c,st3⟩ := z
   rw [hq] at hs
   obtain ⟨σ3,ω3,hD3⟩ := hs
   refine ⟨σ3,ω3,fun r hr => .go hstep (hD3.run r hr),fun k hk => ?_,hD3.stop⟩
   rw [hD3.rel k hk,ends_pop (by show (k : Int) ≤ 3; omega) (by show (0 : Int) ≤ 3; omega)]
   simp only [flat,List.append_assoc]
   rfl
 ·rw [if_neg hb] at hne ⊢
  have hpre : Pre L .cmp st1 σ := by
   refine ⟨hP.top,(fun h => absurd h (by decide)),(fun h => nomatch h),fun _ t' st' hp' => hP.nif (by simp) t' st' (by rw [hp]; rw [hpa] at hp'; exact hp'),fun _ t' st' hp' hb' => ?_,fun t' st' hp' => hP.nrb t' st' (by rw [hp]; rw [hpa] at hp'; exact hp'),fun h => absurd h (by decide)⟩
   rw [hpa] at hp'
   simp only [Except.ok.injEq,Prod.mk.injEq] at hp'
   obtain ⟨rfl,rfl⟩ := hp'
   exact absurd hb' hb
  have hs : SimR L 4 st1 σ ω (prs L f .cmp st1) := hc st1 σ ω hpre hne
  cases hq : prs L f .cmp st1 with
  | error e => rw [hq] at hs; exact out_peek hp hs
  | ok z =>
   obtain ⟨c,st3⟩ := z
   rw [hq] at hs
   obtain ⟨σ3,ω3,hD3⟩ := hs
   refine ⟨σ3,ω3,fun r hr => out_peek hp (hD3.run r hr),fun k hk => hD3.rel k (by omega),fun t' st' hp' => ?_⟩
   rcases hD3.stop t' st' hp' with h | ⟨h1,h2,h3⟩
   ·have := levelT_le t'
    exact .inl (by omega)
   ·exact .inr ⟨h1,by omega,h3⟩
theorem neg_sim {f : Nat} (hn : Sim L f .neg) (hc : Sim L f .atom) : Sim L (f + 1) .neg := fun st σ ω hP hne => by
 show SimR L 7 st σ ω _
 have hd : prs L (f + 1) .neg st = bindR (peekB L st) fun t st => if isB t 4 sMinus = true then bindR (prs L f .neg (dropB st)) fun a st => .ok (.un sMinus a,st) else prs L f .atom st := rfl
 rw [hd] at hne ⊢
 cases hp : peekB L st with
 | error e => exact out_err hp
 | ok y =>
 obtain ⟨t,st1⟩ := y
 have hpa := (peekB_again hp).1
 rw [hp] at hne
 have hne : (if isB t 4 sMinus = true then bindR (prs L f .neg (dropB st1)) fun a st => .ok (.un sMinus a,st) else prs L f .atom st1) ≠ .error (0,0) := hne
 show SimR L 7 st σ ω (if isB t 4 sMinus = true then bindR (prs L f .neg (dropB st1)) fun a st => .ok (.un sMinus a,st) else prs L f .atom st1)
 by_cases hb : isB t 4 sMinus = true
 ·rw [if_pos hb] at hne ⊢
  have hk := isB_kind hb
  have hx := isB_text hb
  have hstep : stepM L ⟨true,st,σ,ω⟩ = .ok (.inr ⟨true,dropB st1,⟨nNeg,7,0⟩ :: σ,ω⟩) := by
   rw [step_want hp (by omega)]
   unfold operandM
   rw [if_neg (by omega),if_neg (by omega),if_pos hk,if_pos hx]
  have hpre : Pre L .neg (dropB st1) (⟨nNeg,7,0⟩ :: σ) := by
   refine ⟨by show (7 : Int) < 100; omega,(fun h => absurd h (by decide)),(fun h => nomatch h),fun _ _ _ _ _ => (by have : floorM (⟨nNeg,7,0⟩ :: σ) = 7 := rfl; omega),fun _ _ _ _ _ => (by have : floorM (⟨nNeg,7,0⟩ :: σ) = 7 := rfl; omega),fun _ _ _ _ => no_bar (by decide),fun h => absurd h (by decide)⟩
  have hs := hn (dropB st1) _ ω hpre (fun h => hne (by rw [h]; rfl))
  cases hq : prs L f .neg (dropB st1) with
  | error e => rw [hq] at hs; exact .go hstep hs
  | ok z =>
   obtain ⟨c,st3⟩ := z
   rw [hq] at hs
   obtain ⟨σ3,ω3,hD3⟩ := hs
   refine ⟨σ3,ω3,fun r hr => .go hstep (hD3.run r hr),fun k hk => ?_,hD3.stop⟩
   rw [hD3.rel k hk,ends_pop (by show (k : Int) ≤ 7; omega) (by show (0 : Int) ≤ 7; omega)]
   simp only [flat,List.append_assoc]
   rfl
 ·rw [if_neg hb] at hne ⊢
  have back : ∀ {t' st'},peekB L st1 = .ok (t',st') → peekB L st = .ok (t',st') := fun hp' => by rw [hp]; rw [hpa] at hp'; exact hp'
  have hpre : Pre L .atom st1 σ := ⟨hP.top,(fun h => absurd h (by decide)),(fun h => nomatch h),fun _ t' st' hp' => hP.nif (by simp) t' st' (back hp'),fun _ t' st' hp' => hP.nnot (by decide) t' st' (back hp'),fun t' st' hp' => hP.nrb t' st' (back hp'),fun _ t' st' hp' => (by
   rw [hpa] at hp'
   simp only [Except.ok.injEq,Prod.mk.injEq] at hp'
   obtain ⟨rfl,rfl⟩ := hp'
   exact (Bool.not_eq_true _).mp hb)⟩
  have hs : SimR L 8 st1 σ ω (prs L f .atom st1) := hc st1 σ ω hpre hne
  cases hq : prs L f .atom st1 with
  | error e => rw [hq] at hs; exact out_peek hp hs
  | ok z =>
   obtain ⟨c,st3⟩ := z
   rw [hq] at hs
   obtain ⟨σ3,ω3,hD3⟩ := hs
   refine ⟨σ3,ω3,fun r hr => out_peek hp (hD3.run r hr),fun k hk => hD3.rel k (by omega),fun t' st' hp' => ?_⟩
   have := levelT_le t'
   exact .inl (by omega)
end
end Go.Proofs.YtmdmomccibpjbaaGreatDoor.E
namespace Go.Proofs.YtmdmomccibpjbaaGreatDoor.E
open Go Tr
set_option maxRecDepth 100000
set_option maxHeartbeats 2000000
section
variable {L : Nat}
theorem want_def (kind : Nat) (text : Txt) (st : PS) : wantB L kind text st = bindR (peekB L st) fun t st => if isB t kind text = true then
   (if kind = 4 ∧ (text = sLp ∨ text = sLb) then (if 10 < st.op + 1 then .error (35,t.at_) else .ok ((),⟨st.l,none,st.op + 1⟩))
   else if kind = 4 ∧ (text = sRp ∨ text = sRb) then .ok ((),⟨st.l,none,st.op - 1⟩)
   else .ok ((),dropB st))
  else .error (36,t.at_) := by
 unfold wantB bindR
 cases peekB L st <;> rfl
theorem want_at {kind : Nat} {text : Txt} {st st2 : PS} {t : Tk} (hp : peekB L st = .ok (t,st2)) (hb : isB t kind text = true) : wantB L kind text st = (if kind = 4 ∧ (text = sLp ∨ text = sLb) then (if 10 < st2.op + 1 then .error (35,t.at_) else .ok ((),⟨st2.l,none,st2.op + 1⟩))
   else if kind = 4 ∧ (text = sRp ∨ text = sRb) then .ok ((),⟨st2.l,none,st2.op - 1⟩)
   else .ok ((),dropB st2)) := by
 rw [want_def,hp]
 show (if isB t kind text = true then _ else _) = _
 rw [if_pos hb]
theorem back_bar {o : OM} {σ : List OM} {ω : List SM} (h1 : o.lv = -1) (h2 : o.op ≠ tElse) : backM (o :: σ) ω = (o :: σ,ω) := by
 rw [backM,if_neg (by omega),if_neg h2]
theorem barPre {o : OM} {σ : List OM} {st : PS} (h1 : o.lv = -1) (h2 : o.op = sLb → o.cnt = 0 → ∀ t st1,peekB L st = .ok (t,st1) → isB t 4 sRb = false) : Pre L .expr st (o :: σ) := by
 have hf : floorM (o :: σ) = 0 := by show (if o.lv < 0 then (0 : Int) else _) = 0; rw [if_pos (by omega)]
 refine ⟨by show o.lv < 1; omega,fun _ => by rw [hf]; decide,fun _ => by rw [hf]; decide,fun h => absurd rfl h,fun h => absurd h (by decide),fun t st1 hp hb o' σ' e h => ?_,fun h => absurd h (by decide)⟩
 cases e
 rw [h2 h.1 h.2.2 t st1 hp] at hb
 cases hb
/-- The token is none that the barrier takes. -/
structure Rej (t : Tk) (o : OM) : Prop where
 a1 : t.kind = 4 → t.text = sRb → o.op ≠ sLb
 a2 : t.kind = 4 → t.text = sRp → o.op ≠ sLp ∧ takesM o.op ≠ o.cnt + 1
 a3 : t.kind = 4 → t.text = sCom → (if o.op = sLb then 6 else takesM o.op) ≤ o.cnt + 1
 a4 : t.kind = 2 → t.text = tThen → o.op ≠ tIf
 a5 : t.kind = 2 → t.text = tElse → o.op ≠ tThen
theorem rej {st' st2 : PS} {σ' σ0 : List OM} {ω' ω2 : List SM} {o : OM} {t : Tk} (hb : backM σ' ω' = (o :: σ0,ω2)) (hp : peekB L st' = .ok (t,st2)) (hst : levelT t = 0 ∨ (levelT t = 4 ∧ topLv (endsM 5 σ' ω').1 = 4)) (hr : Rej t o) : Out L ⟨false,st',σ',ω'⟩ (.error (36,t.at_)) := by
 refine .err ?_
 by_cases hk : t.kind = 0
 ·unfold stepM
  dsimp only
  rw [hp]
  dsimp only
  rw [if_pos hk,if_neg Bool.false_ne_true,hb]
 ·rw [step_beh hp hk]
  unfold behindM
  rcases hst with h0 | ⟨h4,ht⟩
  ·rw [if_neg (by omega),hb]
   by_cases c1 : t.kind = 4 ∧ (t.text = sRp ∨ t.text = sRb)
   ·rw [if_pos c1]
    unfold closesM
    dsimp only
    rw [if_neg (fun h => hr.a1 c1.1 h.1 h.2),if_neg (fun h => (hr.a2 c1.1 h.1).1 h.2),if_neg (fun h => (hr.a2 c1.1 h.1).2 h.2)]
   ·rw [if_neg c1]
    by_cases c2 : t.kind = 4 ∧ t.text = sCom
    ·rw [if_pos c2]
     unfold commaM
     dsimp only
     rw [if_pos (hr.a3 c2.1 c2.2)]
    ·rw [if_neg c2]
     by_cases c3 : t.kind = 2 ∧ (t.text = tThen ∨ t.text = tElse)
     ·rw [if_pos c3]
      unfold thenM
      dsimp only
      refine if_neg ?_
      rcases c3.2 with h | h
      ·rw [h,if_neg (by decide)]; exact hr.a4 c3.1 h
      ·rw [h,if_pos rfl]; exact hr.a5 c3.1 h
     ·rw [if_neg c3]
  ·rw [if_pos (by omega),if_pos ⟨h4,ht⟩]
/-- An expression behind a barrier. -/
theorem ctx_i {f : Nat} (hE : Sim L f .expr) {o : OM} (h1 : o.lv = -1) (h2 : o.op ≠ tElse) (st : PS) (h3 : o.op = sLb → o.cnt = 0 → ∀ t st1,peekB L st = .ok (t,st1) → isB t 4 sRb = false) (σ : List OM) (ω : List SM) (hne : prs L f .expr st ≠ .error (0,0)) :
  (∃ e,prs L f .expr st = .error e ∧ Out L ⟨true,st,o :: σ,ω⟩ (.error e)) ∨
  ∃ n st1 σ1 ω1,prs L f .expr st = .ok (n,st1) ∧ (∀ r,Out L ⟨false,st1,σ1,ω1⟩ r → Out L ⟨true,st,o :: σ,ω⟩ r) ∧ backM σ1 ω1 = (o :: σ,ω ++ flat n) ∧ ∀ t st2,peekB L st1 = .ok (t,st2) → levelT t = 0 ∨ (levelT t = 4 ∧ topLv (endsM 5 σ1 ω1).1 = 4) := by
 have hs : SimE L st (o :: σ) ω (prs L f .expr st) := hE st (o :: σ) ω (barPre h1 h3) hne
 cases hq : prs L f .expr st with
 | error e => rw [hq] at hs; exact .inl ⟨e,rfl,hs⟩
 | ok z =>
  obtain ⟨n,st1⟩ := z
  rw [hq] at hs
  obtain ⟨σ1,ω1,hD⟩ := hs
  exact .inr ⟨n,st1,σ1,ω1,rfl,hD.run,by rw [hD.rel,back_bar h1 h2],hD.stop⟩
/-- What must stand behind it. -/
theorem want_i {kind : Nat} {text : Txt} {st1 : PS} {σ1 σ : List OM} {ω1 ω2 : List SM} {o : OM} (hb : backM σ1 ω1 = (o :: σ,ω2)) (hst : ∀ t st2,peekB L st1 = .ok (t,st2) → levelT t = 0 ∨ (levelT t = 4 ∧ topLv (endsM 5 σ1 ω1).1 = 4)) (hrej : ∀ t st2,peekB L st1 = .ok (t,st2) → isB t kind text = false → Rej t o) :
  (∃ e,wantB L kind text st1 = .error e ∧ Out L ⟨false,st1,σ1,ω1⟩ (.error e)) ∨ ∃ t st2,peekB L st1 = .ok (t,st2) ∧ isB t kind text = true := by
 cases hp : peekB L st1 with
 | error e => exact .inl ⟨e,by rw [want_def,hp]; rfl,out_err hp⟩
 | ok y =>
  obtain ⟨t,st2⟩ := y
  cases hb2 : isB t kind text with
  | true => exact .inr ⟨t,st2,rfl,hb2⟩
  | false =>
   refine .inl ⟨(36,t.at_),?_,rej hb hp (hst t st2 hp) (hrej t st2 hp hb2)⟩
   rw [want_def,hp]
   show (if isB t kind text = true then _ else _) = _
   rw [if_neg (by rw [hb2]; exact Bool.false_ne_true)]
theorem isB_no {t : Tk} {kind : Nat} {text : Txt} (h : isB t kind text = false) : t.kind = kind → t.text ≠ text := fun hk hx => by
 unfold isB at h
 rw [decide_eq_true hk,hx] at h
 simp at h
/-- then and else stand behind a barrier that takes them. -/
theorem then_step {st1 st2 : PS} {σ1 σ : List OM} {ω1 ω2 : List SM} {o : OM} {t : Tk} {text : Txt} (hx : text = tThen ∨ text = tElse) (hb : backM σ1 ω1 = (o :: σ,ω2)) (hp : peekB L st1 = .ok (t,st2)) (ht : isB t 2 text = true) (ho : o.op = if text = tElse then tThen else tIf) :
  stepM L ⟨false,st1,σ1,ω1⟩ = .ok (.inr ⟨true,dropB st2,⟨text,-1,0⟩ :: σ,ω2⟩) := by
 have hk := isB_kind ht
 have hxx := isB_text ht
 rw [step_beh hp (by omega)]
 unfold behindM
 have h0 : levelT t = 0 := by
  unfold levelT
  rw [if_pos hk,hxx]
  rcases hx with rfl | rfl <;> rfl
 rw [if_neg (by omega),if_neg (by omega),if_neg (by omega),if_pos ⟨hk,by rw [hxx]; exact hx⟩,hb]
 unfold thenM
 dsimp only
 rw [hxx,if_pos ho]
theorem expr_sim {f : Nat} (hE : Sim L f .expr) (hO : Sim L f .or) : Sim L (f + 1) .expr := fun st σ ω hP hne => by
 show SimE L st σ ω _
 have hd : prs L (f + 1) .expr st = bindR (peekB L st) fun t st => if isB t 2 tIf = true then
    bindR (prs L f .expr (dropB st)) fun c st => bindR (wantB L 2 tThen st) fun _ st => bindR (prs L f .expr st) fun a st => bindR (wantB L 2 tElse st) fun _ st => bindR (prs L f .expr st) fun b st => .ok (.cnd c a b,st)
   else prs L f .or st := rfl
 rw [hd] at hne ⊢
 cases hp : peekB L st with
 | error e => exact out_err hp
 | ok y =>
 obtain ⟨t,st1⟩ := y
 have hpa := (peekB_again hp).1
 rw [hp] at hne
 have hne : (if isB t 2 tIf = true then
    bindR (prs L f .expr (dropB st1)) fun c st => bindR (wantB L 2 tThen st) fun _ st => bindR (prs L f .expr st) fun a st => bindR (wantB L 2 tElse st) fun _ st => bindR (prs L f .expr st) fun b st => .ok (.cnd c a b,st)
   else prs L f .or st1) ≠ .error (0,0) := hne
 show SimE L st σ ω (if isB t 2 tIf = true then
    bindR (prs L f .expr (dropB st1)) fun c st => bindR (wantB L 2 tThen st) fun _ st => bindR (prs L f .expr st) fun a st => bindR (wantB L 2 tElse st) fun _ st => bindR (prs L f .expr st) fun b st => .ok (.cnd c a b,st)
   else prs L f .or st1)
 by_cases hb : isB t 2 tIf = true
 ·rw [if_pos hb] at hne ⊢
  have hk := isB_kind hb
  have hx := isB_text hb
  have hfl := hP.fl0 rfl
  have hstep : stepM L ⟨true,st,σ,ω⟩ = .ok (.inr ⟨true,dropB st1,⟨tIf,-1,0⟩ :: σ,ω⟩) := by
   rw [step_want hp (by omega)]
   unfold operandM
   rw [if_neg (by omega),if_neg (by omega),if_neg (by omega),if_pos hk,hx,if_neg (by decide),if_pos rfl,if_neg (by omega)]
  rcases ctx_i hE (o := ⟨tIf,-1,0⟩) rfl (by show tIf ≠ tElse; decide) (dropB st1) (fun h => absurd h (by decide)) σ ω (fun h => hne (by rw [h]; rfl)) with ⟨e,hq,ho⟩ | ⟨c,st2,σ2,ω2,hq,hrun,hback,hstop⟩
  ·rw [hq]; exact .go hstep ho
  rw [hq] at hne ⊢
  have hne : (bindR (wantB L 2 tThen st2) fun _ st => bindR (prs L f .expr st) fun a st => bindR (wantB L 2 tElse st) fun _ st => bindR (prs L f .expr st) fun b st => (.ok (.cnd c a b,st) : R N)) ≠ .error (0,0) := hne
  show SimE L st σ ω (bindR (wantB L 2 tThen st2) fun _ st => bindR (prs L f .expr st) fun a st => bindR (wantB L 2 tElse st) fun _ st => bindR (prs L f .expr st) fun b st => .ok (.cnd c a b,st))
  have R2 : ∀ r,Out L ⟨false,st2,σ2,ω2⟩ r → Out L ⟨true,st,σ,ω⟩ r := fun r hr => .go hstep (hrun r hr)
  rcases want_i (kind := 2) (text := tThen) hback hstop (fun t _ _ h => ⟨fun _ _ => (by show tIf ≠ sLb; decide),fun _ _ => (by show tIf ≠ sLp ∧ takesM tIf ≠ 0 + 1; decide),fun _ _ => (by show (if tIf = sLb then 6 else takesM tIf) ≤ 0 + 1; decide),fun hk hx => absurd hx (isB_no h hk),fun _ _ => (by show tIf ≠ tThen; decide)⟩) with ⟨e,hw,ho⟩ | ⟨t2,st3,hp3,hb3⟩
  ·rw [hw]; exact R2 _ ho
  rw [want_at hp3 hb3,if_neg (by rintro ⟨h,_⟩; omega),if_neg (by rintro ⟨h,_⟩; omega)] at hne ⊢
  have hne : (bindR (prs L f .expr (dropB st3)) fun a st => bindR (wantB L 2 tElse st) fun _ st => bindR (prs L f .expr st) fun b st => (.ok (.cnd c a b,st) : R N)) ≠ .error (0,0) := hne
  show SimE L st σ ω (bindR (prs L f .expr (dropB st3)) fun a st => bindR (wantB L 2 tElse st) fun _ st => bindR (prs L f .expr st) fun b st => .ok (.cnd c a b,st))
  have hs3 := then_step (.inl rfl) hback hp3 hb3 (by rw [if_neg (by decide)])
  rcases ctx_i hE (o := ⟨tThen,-1,0⟩) rfl (by show tThen ≠ tElse; decide) (dropB st3) (fun h => absurd h (by decide)) σ (ω ++ flat c) (fun h => hne (by rw [h]; rfl)) with ⟨e,hq4,ho⟩ | ⟨a,st4,σ4,ω4,hq4,hrun4,hback4,hstop4⟩
  ·rw [hq4]; exact R2 _ (.go hs3 ho)
  rw [hq4] at hne ⊢
  have hne : (bindR (wantB L 2 tElse st4) fun _ st => bindR (prs L f .expr st) fun b st => (.ok (.cnd c a b,st) : R N)) ≠ .error (0,0) := hne
  show SimE L st σ ω (bindR (wantB L 2 tElse st4) fun _ st => bindR (prs L f .expr st) fun b st => .ok (.cnd c a b,st))
  have R4 : ∀ r,Out L ⟨false,st4,σ4,ω4⟩ r → Out L ⟨true,st,σ,ω⟩ r := fun r hr => R2 _ (.go hs3 (hrun4 r hr))
  rcases want_i (kind := 2) (text := tElse) hback4 hstop4 (fun t _ _ h => ⟨fun _ _ => (by show tThen ≠ sLb; decide),fun _ _ => (by show tThen ≠ sLp ∧ takesM tThen ≠ 0 + 1; decide),fun _ _ => (by show (if tThen = sLb then 6 else takesM tThen) ≤ 0 + 1; decide),fun _ _ => (by show tThen ≠ tIf; decide),fun hk hx => absurd hx (isB_no h hk)⟩) with ⟨e,hw,ho⟩ | ⟨t5,st5,hp5,hb5⟩
  ·rw [hw]; exact R4 _ ho
  rw [want_at hp5 hb5,if_neg (by rintro ⟨h,_⟩; omega),if_neg (by rintro ⟨h,_⟩; omega)] at hne ⊢
  have hne : (bindR (prs L f .expr (dropB st5)) fun b st => (.ok (.cnd c a b,st) : R N)) ≠ .error (0,0) := hne
  show SimE L st σ ω (bindR (prs L f .expr (dropB st5)) fun b st => .ok (.cnd c a b,st))
  have hs5 := then_step (.inr rfl) hback4 hp5 hb5 (by rw [if_pos rfl])
  have hs : SimE L (dropB st5) (⟨tElse,-1,0⟩ :: σ) (ω ++ flat c ++ flat a) (prs L f .expr (dropB st5)) := hE _ _ _ (barPre rfl (fun h => absurd h (by show ¬ tElse = sLb; decide))) (fun h => hne (by rw [h]; rfl))
  cases hq6 : prs L f .expr (dropB st5) with
  | error e => rw [hq6] at hs; exact R4 _ (.go hs5 hs)
  | ok z =>
   obtain ⟨d,st6⟩ := z
   rw [hq6] at hs
   obtain ⟨σ6,ω6,hD⟩ := hs
   refine ⟨σ6,ω6,fun r hr => R4 _ (.go hs5 (hD.run r hr)),?_,hD.stop⟩
   rw [hD.rel,backM,if_neg (by decide),if_pos rfl]
   simp only [flat,List.append_assoc]
 ·rw [if_neg hb] at hne ⊢
  have hpre : Pre L .or st1 σ := ⟨hP.top,hP.flo,(fun h => nomatch h),fun _ t' st' hp' hb' => (by
   rw [hpa] at hp'
   simp only [Except.ok.injEq,Prod.mk.injEq] at hp'
   obtain ⟨rfl,rfl⟩ := hp'
   exact absurd hb' hb),fun h => absurd h (by decide),fun t' st' hp' => hP.nrb t' st' (by rw [hp]; rw [hpa] at hp'; exact hp'),fun h => absurd h (by decide)⟩
  have hs : SimR L 1 st1 σ ω (prs L f .or st1) := hO st1 σ ω hpre hne
  cases hq : prs L f .or st1 with
  | error e => rw [hq] at hs; exact out_peek hp hs
  | ok z =>
   obtain ⟨c,st3⟩ := z
   rw [hq] at hs
   obtain ⟨σ3,ω3,hD3⟩ := hs
   have hE3 := hD3.e
   exact ⟨σ3,ω3,fun r hr => out_peek hp (hE3.run r hr),hE3.rel,hE3.stop⟩
/-- A closing bracket ends what its barrier began. -/
theorem close_step {st1 st2 : PS} {σ1 σ : List OM} {ω1 ω2 : List SM} {o : OM} {t : Tk} {text : Txt} (hx : text = sRp ∨ text = sRb) (hb : backM σ1 ω1 = (o :: σ,ω2)) (hp : peekB L st1 = .ok (t,st2)) (ht : isB t 4 text = true) :
  stepM L ⟨false,st1,σ1,ω1⟩ = closesM t (dropB st2) (o :: σ,ω2) := by
 have hk := isB_kind ht
 have hxx := isB_text ht
 rw [step_beh hp (by omega)]
 unfold behindM
 have h0 : levelT t = 0 := by
  unfold levelT
  rw [if_neg (by omega),if_pos hk,hxx]
  rcases hx with rfl | rfl <;> rfl
 rw [if_neg (by omega),if_pos ⟨hk,by rw [hxx]; exact hx⟩,hb]
theorem com_step {st1 st2 : PS} {σ1 σ : List OM} {ω1 ω2 : List SM} {o : OM} {t : Tk} (hb : backM σ1 ω1 = (o :: σ,ω2)) (hp : peekB L st1 = .ok (t,st2)) (ht : isB t 4 sCom = true) (hlt : o.cnt + 1 < if o.op = sLb then 6 else takesM o.op) :
  stepM L ⟨false,st1,σ1,ω1⟩ = .ok (.inr ⟨true,dropB st2,⟨o.op,o.lv,o.cnt + 1⟩ :: σ,ω2⟩) := by
 have hk := isB_kind ht
 have hxx := isB_text ht
 rw [step_beh hp (by omega)]
 unfold behindM
 have h0 : levelT t = 0 := by
  unfold levelT
  rw [if_neg (by omega),if_pos hk,hxx]
  rfl
 rw [if_neg (by omega),if_neg (by rw [hxx]; rintro ⟨_,h⟩; revert h; decide),if_pos ⟨hk,hxx⟩,hb]
 unfold commaM
 dsimp only
 rw [if_neg (by omega)]
/-- An opening bracket that is wanted. -/
theorem open_step {st1 st2 : PS} {σ : List OM} {ω : List SM} {t : Tk} {text : Txt} (hx : text = sLp ∨ text = sLb) (hp : peekB L st1 = .ok (t,st2)) (ht : isB t 4 text = true) :
  stepM L ⟨true,st1,σ,ω⟩ = bar L t text (dropB st2) σ ω := by
 have hk := isB_kind ht
 have hxx := isB_text ht
 rw [step_want hp (by omega)]
 unfold operandM
 rw [if_neg (by omega),if_neg (by omega),if_pos hk,if_neg (by rw [hxx]; rcases hx with rfl | rfl <;> decide),if_pos (by rw [hxx]; exact hx),hxx]
theorem open_want {st1 st2 : PS} {t : Tk} {text : Txt} (hx : text = sLp ∨ text = sLb) (hp : peekB L st1 = .ok (t,st2)) (ht : isB t 4 text = true) :
  wantB L 4 text st1 = if 10 < st2.op + 1 then .error (35,t.at_) else .ok ((),⟨st2.l,none,st2.op + 1⟩) := by
 rw [want_at hp ht,if_pos ⟨rfl,hx⟩]
theorem findB_name {i : Nat} (h : i < 14) : findB (nameB i) = some i := by
 have : ∀ i,i < 14 → findB (nameB i) = some i := by decide
 exact this i h
theorem name_no {i : Nat} (h : i < 14) : nameB i ≠ sLb ∧ nameB i ≠ sLp ∧ nameB i ≠ tIf ∧ nameB i ≠ tThen ∧ nameB i ≠ tElse ∧ 1 ≤ takesB i := by
 have : ∀ i,i < 14 → nameB i ≠ sLb ∧ nameB i ≠ sLp ∧ nameB i ≠ tIf ∧ nameB i ≠ tThen ∧ nameB i ≠ tElse ∧ 1 ≤ takesB i := by decide
 exact this i h
theorem takes_name {i : Nat} (h : i < 14) : takesM (nameB i) = takesB i := by unfold takesM; rw [findB_name h]; rfl
/-- The items of a list. -/
theorem items_sim {f : Nat} (hE : Sim L f .expr) {st0 : PS} {σs σ : List OM} {ωs ω : List SM} :
  ∀ (m : Nat) (acc : List N) (st1 : PS) (σ1 : List OM) (ω1 : List SM),1 ≤ acc.length → acc.length ≤ 6 → (∀ r,Out L ⟨false,st1,σ1,ω1⟩ r → Out L ⟨true,st0,σs,ωs⟩ r) → backM σ1 ω1 = (⟨sLb,-1,acc.length - 1⟩ :: σ,ω ++ flats acc) → (∀ t st2,peekB L st1 = .ok (t,st2) → levelT t = 0 ∨ (levelT t = 4 ∧ topLv (endsM 5 σ1 ω1).1 = 4)) → itemsB L (prs L f .expr) m acc st1 ≠ .error (0,0) →
   (∃ e,itemsB L (prs L f .expr) m acc st1 = .error e ∧ Out L ⟨true,st0,σs,ωs⟩ (.error e)) ∨
   ∃ l st2 σ2 ω2,itemsB L (prs L f .expr) m acc st1 = .ok (l,st2) ∧ 1 ≤ l.length ∧ l.length ≤ 6 ∧ (∀ r,Out L ⟨false,st2,σ2,ω2⟩ r → Out L ⟨true,st0,σs,ωs⟩ r) ∧ backM σ2 ω2 = (⟨sLb,-1,l.length - 1⟩ :: σ,ω ++ flats l) ∧ (∀ t st3,peekB L st2 = .ok (t,st3) → levelT t = 0 ∨ (levelT t = 4 ∧ topLv (endsM 5 σ2 ω2).1 = 4)) ∧ (l.length < 6 → ∀ t st3,peekB L st2 = .ok (t,st3) → isB t 4 sCom = false)
 | 0,_,_,_,_,_,_,_,_,_,hne => absurd rfl hne
 | m + 1,acc,st1,σ1,ω1,h1,h6,hrun,hback,hstop,hne => by
  have hd : itemsB L (prs L f .expr) (m + 1) acc st1 = if acc.length < 6 then bindR (peekB L st1) fun t st =>
    if isB t 4 sCom = true then bindR (prs L f .expr (dropB st)) fun n st => itemsB L (prs L f .expr) m (acc ++ [n]) st else .ok (acc,st)
   else .ok (acc,st1) := rfl
  rw [hd] at hne ⊢
  by_cases hlt : acc.length < 6
  ·rw [if_pos hlt] at hne ⊢
   cases hp : peekB L st1 with
   | error e => exact .inl ⟨e,rfl,hrun _ (out_err hp)⟩
   | ok y =>
   obtain ⟨t,st2⟩ := y
   rw [hp] at hne
   have hne : (if isB t 4 sCom = true then bindR (prs L f .expr (dropB st2)) fun n st => itemsB L (prs L f .expr) m (acc ++ [n]) st else .ok (acc,st2)) ≠ .error (0,0) := hne
   have hpa := (peekB_again hp).1
   simp only [bindR]
   by_cases hb : isB t 4 sCom = true
   ·rw [if_pos hb] at hne ⊢
    have hs := com_step hback hp hb (by show acc.length - 1 + 1 < if sLb = sLb then 6 else _; rw [if_pos rfl]; omega)
    have hcnt : acc.length - 1 + 1 = acc.length := by omega
    dsimp only at hs
    rw [hcnt] at hs
    rcases ctx_i hE (o := ⟨sLb,-1,acc.length⟩) rfl (by show sLb ≠ tElse; decide) (dropB st2) (fun _ h => by have h : acc.length = 0 := h; omega) σ (ω ++ flats acc) (fun h => hne (by rw [h]; rfl)) with ⟨e,hq,ho⟩ | ⟨n,st3,σ3,ω3,hq,hrun3,hback3,hstop3⟩
    ·rw [hq]; exact .inl ⟨e,rfl,hrun _ (.go hs ho)⟩
    rw [hq] at hne ⊢
    have hla : (acc ++ [n]).length = acc.length + 1 := by simp
    exact items_sim hE m (acc ++ [n]) st3 σ3 ω3 (by omega) (by omega) (fun r hr => hrun _ (.go hs (hrun3 r hr))) (by rw [hback3,hla,flats_app,Nat.add_sub_cancel,List.append_assoc]; simp [flats]) hstop3 hne
   ·rw [if_neg hb]
    refine .inr ⟨acc,st2,σ1,ω1,rfl,h1,h6,fun r hr => hrun r (out_peek hp hr),hback,fun t' st' hp' => ?_,fun _ t' st' hp' => ?_⟩
    ·rw [hpa] at hp'; rw [← hp] at hp'; exact hstop t' st' hp'
    ·rw [hpa] at hp'
     simp only [Except.ok.injEq,Prod.mk.injEq] at hp'
     obtain ⟨rfl,rfl⟩ := hp'
     exact (Bool.not_eq_true _).mp hb
  ·rw [if_neg hlt]
   exact .inr ⟨acc,st1,σ1,ω1,rfl,h1,h6,hrun,hback,hstop,fun h => absurd h hlt⟩
end
end Go.Proofs.YtmdmomccibpjbaaGreatDoor.E
namespace Go.Proofs.YtmdmomccibpjbaaGreatDoor.E
open Go Tr
set_option maxRecDepth 100000
set_option maxHeartbeats 2000000
section
variable {L : Nat}
theorem args_sim {f : Nat} (hE : Sim L f .expr) {i : Nat} (hi : i < 14) {st0 : PS} {σs σ : List OM} {ωs ω : List SM} :
  ∀ (k : Nat) (acc : List N) (st1 : PS) (σ1 : List OM) (ω1 : List SM),1 ≤ acc.length → acc.length + k = takesB i → (∀ r,Out L ⟨false,st1,σ1,ω1⟩ r → Out L ⟨true,st0,σs,ωs⟩ r) → backM σ1 ω1 = (⟨nameB i,-1,acc.length - 1⟩ :: σ,ω ++ flats acc) → (∀ t st2,peekB L st1 = .ok (t,st2) → levelT t = 0 ∨ (levelT t = 4 ∧ topLv (endsM 5 σ1 ω1).1 = 4)) → argsB L (prs L f .expr) k acc st1 ≠ .error (0,0) →
   (∃ e,argsB L (prs L f .expr) k acc st1 = .error e ∧ Out L ⟨true,st0,σs,ωs⟩ (.error e)) ∨
   ∃ l st2 σ2 ω2,argsB L (prs L f .expr) k acc st1 = .ok (l,st2) ∧ l.length = takesB i ∧ (∀ r,Out L ⟨false,st2,σ2,ω2⟩ r → Out L ⟨true,st0,σs,ωs⟩ r) ∧ backM σ2 ω2 = (⟨nameB i,-1,l.length - 1⟩ :: σ,ω ++ flats l) ∧ (∀ t st3,peekB L st2 = .ok (t,st3) → levelT t = 0 ∨ (levelT t = 4 ∧ topLv (endsM 5 σ2 ω2).1 = 4))
 | 0,acc,st1,σ1,ω1,h1,h6,hrun,hback,hstop,_ => .inr ⟨acc,st1,σ1,ω1,rfl,by omega,hrun,hback,hstop⟩
 | k + 1,acc,st1,σ1,ω1,h1,h6,hrun,hback,hstop,hne => by
  have hnn : ¬ acc = [] := fun h => by rw [h] at h1; simp at h1
  have hd : argsB L (prs L f .expr) (k + 1) acc st1 = bindR (wantB L 4 sCom st1) fun _ st => bindR (prs L f .expr st) fun n st => argsB L (prs L f .expr) k (acc ++ [n]) st := by
   rw [argsB,if_neg hnn]
  rw [hd] at hne ⊢
  obtain ⟨n1,n2,n3,n4,n5,n6⟩ := name_no hi
  have htk := takes_name hi
  have hcnt : acc.length - 1 + 1 = acc.length := by omega
  rcases want_i (kind := 4) (text := sCom) hback hstop (fun t _ _ h => ⟨fun _ _ => n1,fun _ _ => ⟨n2,by show takesM (nameB i) ≠ acc.length - 1 + 1; rw [htk]; omega⟩,fun hk hx => absurd hx (isB_no h hk),fun _ _ => n3,fun _ _ => n4⟩) with ⟨e,hw,ho⟩ | ⟨t,st2,hp,hb⟩
  ·rw [hw]; exact .inl ⟨e,rfl,hrun _ ho⟩
  have hs := com_step hback hp hb (by show acc.length - 1 + 1 < if nameB i = sLb then 6 else takesM (nameB i); rw [if_neg n1,htk]; omega)
  dsimp only at hs
  rw [hcnt] at hs
  rw [want_at hp hb,if_neg (by decide),if_neg (by decide)] at hne ⊢
  have hne : (bindR (prs L f .expr (dropB st2)) fun n st => argsB L (prs L f .expr) k (acc ++ [n]) st) ≠ .error (0,0) := hne
  simp only [bindR]
  rcases ctx_i hE (o := ⟨nameB i,-1,acc.length⟩) rfl n5 (dropB st2) (fun h => absurd h n1) σ (ω ++ flats acc) (fun h => hne (by rw [h]; rfl)) with ⟨e,hq,ho⟩ | ⟨n,st3,σ3,ω3,hq,hrun3,hback3,hstop3⟩
  ·rw [hq]; exact .inl ⟨e,rfl,hrun _ (.go hs ho)⟩
  rw [hq] at hne ⊢
  have hla : (acc ++ [n]).length = acc.length + 1 := by simp
  exact args_sim hE hi k (acc ++ [n]) st3 σ3 ω3 (by omega) (by omega) (fun r hr => hrun _ (.go hs (hrun3 r hr))) (by rw [hback3,hla,flats_app,Nat.add_sub_cancel,List.append_assoc]; simp [flats]) hstop3 hne
/-- One step and nothing is left open. -/
theorem leaf8 {st st1 : PS} {σ : List OM} {ω : List SM} {n : N} {ω1 : List SM} (hrun : ∀ r,Out L ⟨false,st1,σ,ω1⟩ r → Out L ⟨true,st,σ,ω⟩ r) (hf : ω1 = ω ++ flat n) : SimR L 8 st σ ω (.ok (n,st1)) :=
 ⟨σ,ω1,hrun,fun k _ => by rw [hf],fun t st2 _ => .inl (by have := levelT_le t; omega)⟩
theorem list_sim {f : Nat} (hE : Sim L f .expr) (st : PS) (σ : List OM) (ω : List SM) (t : Tk) (st1 : PS) (hp : peekB L st = .ok (t,st1)) (hb : isB t 4 sLb = true) (hne : prs L (f + 1) .list st ≠ .error (0,0)) : SimR L 8 st σ ω (prs L (f + 1) .list st) := by
 have hd : prs L (f + 1) .list st = bindR (wantB L 4 sLb st) fun _ st => bindR (peekB L st) fun t st =>
   if isB t 4 sRb = true then bindR (wantB L 4 sRb st) fun _ st => .ok (.lst [],st)
   else bindR (prs L f .expr st) fun n st => bindR (itemsB L (prs L f .expr) f [n] st) fun l st => bindR (wantB L 4 sRb st) fun _ st => .ok (.lst l,st) := rfl
 rw [hd,open_want (.inr rfl) hp hb] at hne ⊢
 have hs := open_step (σ := σ) (ω := ω) (.inr rfl) hp hb
 unfold bar at hs
 by_cases h10 : 10 < st1.op + 1
 ·have h10' : 10 < (dropB st1).op + 1 := h10
  rw [if_pos h10]
  rw [if_pos h10'] at hs
  exact .err hs
 have h10' : ¬ 10 < (dropB st1).op + 1 := h10
 rw [if_neg h10] at hne ⊢
 rw [if_neg h10'] at hs
 simp only [bindR] at hne ⊢
 have hs : stepM L ⟨true,st,σ,ω⟩ = .ok (.inr ⟨true,⟨st1.l,none,st1.op + 1⟩,⟨sLb,-1,0⟩ :: σ,ω⟩) := hs
 generalize (⟨st1.l,none,st1.op + 1⟩ : PS) = st2 at *
 cases hp2 : peekB L st2 with
 | error e => rw [hp2] at hne; exact .go hs (out_err hp2)
 | ok y =>
 obtain ⟨t2,st3⟩ := y
 rw [hp2] at hne
 dsimp only at hne ⊢
 by_cases hb2 : isB t2 4 sRb = true
 ·rw [if_pos hb2] at hne ⊢
  have hk := isB_kind hb2
  have hx := isB_text hb2
  have hs2 : stepM L ⟨true,st2,⟨sLb,-1,0⟩ :: σ,ω⟩ = .ok (.inr ⟨false,⟨st3.l,none,st3.op - 1⟩,σ,ω ++ [⟨nList,0,0,[]⟩]⟩) := by
   rw [step_want hp2 (by omega)]
   unfold operandM
   rw [if_neg (by omega),if_neg (by omega),if_pos hk,hx,if_neg (by decide),if_neg (by decide),if_pos rfl]
   dsimp only
   rw [if_pos ⟨rfl,by decide,rfl⟩]
   rfl
  rw [want_at (peekB_again hp2).1 hb2,if_neg (by decide),if_pos (by decide)]
  exact leaf8 (fun r hr => .go hs (.go hs2 hr)) (by simp [flat,flats])
 ·rw [if_neg hb2] at hne ⊢
  rcases ctx_i hE (o := ⟨sLb,-1,0⟩) rfl (by show sLb ≠ tElse; decide) st3 (fun _ _ t' st' hp' => (by
   rw [(peekB_again hp2).1] at hp'
   simp only [Except.ok.injEq,Prod.mk.injEq] at hp'
   obtain ⟨rfl,rfl⟩ := hp'
   exact (Bool.not_eq_true _).mp hb2)) σ ω (fun h => hne (by rw [h])) with ⟨e,hq,ho⟩ | ⟨n,st4,σ4,ω4,hq,hrun4,hback4,hstop4⟩
  ·rw [hq]; exact .go hs (out_peek hp2 ho)
  rw [hq] at hne ⊢
  dsimp only at hne ⊢
  rcases items_sim hE (st0 := st) (σs := σ) (ωs := ω) (σ := σ) (ω := ω) f [n] st4 σ4 ω4 (by simp) (by simp) (fun r hr => .go hs (out_peek hp2 (hrun4 r hr))) (by rw [hback4]; simp [flats]) hstop4 (fun h => hne (by rw [h])) with ⟨e,hq5,ho⟩ | ⟨l,st5,σ5,ω5,hq5,l1,l6,hrun5,hback5,hstop5,hcom⟩
  ·rw [hq5]; exact ho
  rw [hq5] at hne ⊢
  dsimp only at hne ⊢
  rcases want_i (kind := 4) (text := sRb) hback5 hstop5 (fun t _ hpt h => ⟨fun hk hx => absurd hx (isB_no h hk),fun _ _ => ⟨(by show sLb ≠ sLp; decide),by show takesM sLb ≠ l.length - 1 + 1; rw [show takesM sLb = 0 from rfl]; omega⟩,fun hk hx => by
    show (if sLb = sLb then 6 else takesM sLb) ≤ l.length - 1 + 1
    rw [if_pos rfl]
    rcases Nat.lt_or_ge l.length 6 with hlt | hge
    ·exact absurd hx (isB_no (hcom hlt t _ hpt) hk)
    ·omega,fun _ _ => (by show sLb ≠ tIf; decide),fun _ _ => (by show sLb ≠ tThen; decide)⟩) with ⟨e,hw,ho⟩ | ⟨t6,st6,hp6,hb6⟩
  ·rw [hw]; exact hrun5 _ ho
  have hs6 := close_step (.inr rfl) hback5 hp6 hb6
  unfold closesM at hs6
  dsimp only at hs6
  rw [isB_text hb6,if_pos ⟨rfl,rfl⟩,show l.length - 1 + 1 = l.length by omega] at hs6
  rw [want_at hp6 hb6,if_neg (by decide),if_pos (by decide)]
  exact leaf8 (fun r hr => hrun5 _ (.go hs6 hr)) (by simp only [flat,List.append_assoc])
theorem call_sim {f : Nat} (hE : Sim L f .expr) (st : PS) (σ : List OM) (ω : List SM) (t : Tk) (st1 : PS) (i : Nat) (hp : peekB L st = .ok (t,st1)) (hk : t.kind = 2) (hi : findB t.text = some i) (hi14 : i < 14) (hname : nameB i = t.text) (hnp : plainM.contains t.text = false) (hni : t.text ≠ tIf) (hnn : t.text ≠ tNot) (hne : prs L (f + 1) (.call i) st ≠ .error (0,0)) :
  SimR L 8 st σ ω (prs L (f + 1) (.call i) st) := by
 have hd : prs L (f + 1) (.call i) st = bindR (peekB L st) fun _ st => bindR (wantB L 4 sLp (dropB st)) fun _ st => bindR (argsB L (prs L f .expr) (takesB i) [] st) fun l st => bindR (wantB L 4 sRp st) fun _ st => .ok (.cal i l,st) := rfl
 rw [hd,hp] at hne ⊢
 simp only [bindR] at hne ⊢
 obtain ⟨n1,n2,n3,n4,n5,n6⟩ := name_no hi14
 have htk := takes_name hi14
 have hstep : stepM L ⟨true,st,σ,ω⟩ = match peekB L (dropB st1) with
    | .error e => .error e
    | .ok (t2,st2) => if isB t2 4 sLp = true then bar L t2 t.text (dropB st2) σ ω else .error (36,t2.at_) := by
  rw [step_want hp (by omega)]
  unfold operandM
  rw [if_neg (by omega),if_neg (by omega),if_neg (by omega),if_pos hk,if_neg (by rw [hnp]; exact Bool.false_ne_true),if_neg hni,if_neg hnn,hi]
  rfl
 cases hp2 : peekB L (dropB st1) with
 | error e =>
  rw [hp2] at hstep
  rw [want_def,hp2]
  exact .err hstep
 | ok y =>
 obtain ⟨t2,st2⟩ := y
 rw [hp2] at hstep
 dsimp only at hstep
 by_cases hb : ¬ isB t2 4 sLp = true
 ·rw [if_neg hb] at hstep
  rw [want_def,hp2]
  simp only [bindR]
  rw [if_neg hb]
  exact .err hstep
 have hb : isB t2 4 sLp = true := Classical.not_not.1 hb
 rw [if_pos hb] at hstep
 rw [open_want (.inl rfl) hp2 hb] at hne ⊢
 unfold bar at hstep
 by_cases h10 : 10 < st2.op + 1
 ·have h10' : 10 < (dropB st2).op + 1 := h10
  rw [if_pos h10]
  rw [if_pos h10'] at hstep
  exact .err hstep
 have h10' : ¬ 10 < (dropB st2).op + 1 := h10
 rw [if_neg h10] at hne ⊢
 rw [if_neg h10',← hname] at hstep
 dsimp only at hne ⊢
 have hstep : stepM L ⟨true,st,σ,ω⟩ = .ok (.inr ⟨true,⟨st2.l,none,st2.op + 1⟩,⟨nameB i,-1,0⟩ :: σ,ω⟩) := hstep
 generalize (⟨st2.l,none,st2.op + 1⟩ : PS) = st3 at *
 obtain ⟨k,hkk⟩ : ∃ k,takesB i = k + 1 := ⟨takesB i - 1,by omega⟩
 have ha : argsB L (prs L f .expr) (takesB i) [] st3 = bindR (prs L f .expr st3) fun n st => argsB L (prs L f .expr) k [n] st := by rw [hkk]; rfl
 rw [ha] at hne ⊢
 rcases ctx_i hE (o := ⟨nameB i,-1,0⟩) rfl n5 st3 (fun h => absurd h n1) σ ω (fun h => hne (by rw [h]; rfl)) with ⟨e,hq,ho⟩ | ⟨n,st4,σ4,ω4,hq,hrun4,hback4,hstop4⟩
 ·rw [hq]; exact .go hstep ho
 rw [hq] at hne ⊢
 simp only [bindR] at hne ⊢
 rcases args_sim hE hi14 (st0 := st) (σs := σ) (ωs := ω) (σ := σ) (ω := ω) k [n] st4 σ4 ω4 (by simp) (by rw [hkk,List.length_singleton]; omega) (fun r hr => .go hstep (hrun4 r hr)) (by rw [hback4]; simp [flats]) hstop4 (fun h => hne (by rw [h])) with ⟨e,hq5,ho⟩ | ⟨l,st5,σ5,ω5,hq5,hl,hrun5,hback5,hstop5⟩
 ·rw [hq5]; exact ho
 rw [hq5] at hne ⊢
 dsimp only at hne ⊢
 have hcnt : l.length - 1 + 1 = takesB i := by omega
 rcases want_i (kind := 4) (text := sRp) hback5 hstop5 (fun t _ hpt h => ⟨fun _ _ => n1,fun hk hx => absurd hx (isB_no h hk),fun _ _ => by
   show (if nameB i = sLb then 6 else takesM (nameB i)) ≤ l.length - 1 + 1
   rw [if_neg n1,htk]; omega,fun _ _ => n3,fun _ _ => n4⟩) with ⟨e,hw,ho⟩ | ⟨t6,st6,hp6,hb6⟩
 ·rw [hw]; exact hrun5 _ ho
 have hs6 := close_step (.inl rfl) hback5 hp6 hb6
 unfold closesM at hs6
 dsimp only at hs6
 rw [isB_text hb6,if_neg (fun h => n1 h.2),if_neg (fun h => n2 h.2),if_pos ⟨rfl,by rw [htk]; omega⟩,show l.length - 1 + 1 = l.length by omega] at hs6
 rw [want_at hp6 hb6,if_neg (by decide),if_pos (by decide)]
 exact leaf8 (fun r hr => hrun5 _ (.go hs6 hr)) (by simp only [flat,List.append_assoc])
theorem findB_spec {x : Txt} {i : Nat} (h : findB x = some i) : i < 14 ∧ nameB i = x := by
 have h0 := h
 unfold findB at h
 rw [List.findIdx?_eq_some_iff_getElem] at h
 obtain ⟨hi,hx,_⟩ := h
 have hlen : callsM.length = 14 := rfl
 refine ⟨by omega,?_⟩
 unfold nameB
 rw [List.getElem?_eq_getElem hi]
 exact beq_iff_eq.1 hx
theorem words_no {x : Txt} (h : plainM.contains x = true) : findB x = none ∧ x ≠ tIf ∧ x ≠ tNot := by
 have : ∀ x ∈ plainM,findB x = none ∧ x ≠ tIf ∧ x ≠ tNot := by decide
 exact this x (List.contains_iff_mem.1 h)
theorem atom_sim {f : Nat} (hE : Sim L f .expr) (hL : ∀ st σ ω t st1,peekB L st = .ok (t,st1) → isB t 4 sLb = true → prs L f .list st ≠ .error (0,0) → SimR L 8 st σ ω (prs L f .list st))
  (hC : ∀ st σ ω t st1 i,peekB L st = .ok (t,st1) → t.kind = 2 → findB t.text = some i → i < 14 → nameB i = t.text → plainM.contains t.text = false → t.text ≠ tIf → t.text ≠ tNot → prs L f (.call i) st ≠ .error (0,0) → SimR L 8 st σ ω (prs L f (.call i) st)) : Sim L (f + 1) .atom := fun st σ ω hP hne => by
 show SimR L 8 st σ ω _
 have hd : prs L (f + 1) .atom st = bindR (peekB L st) fun t st =>
   if t.kind = 1 then .ok (.num t.num,dropB st)
   else if t.kind = 3 then .ok (.quo t.text,dropB st)
   else if isB t 4 sLp = true then bindR (wantB L 4 sLp st) fun _ st => bindR (prs L f .expr st) fun n st => bindR (wantB L 4 sRp st) fun _ st => .ok (n,st)
   else if isB t 4 sLb = true then prs L f .list st
   else if t.kind = 2 then (match findB t.text with
    | some i => prs L f (.call i) st
    | none => if plainM.contains t.text = true then .ok (.wrd t.text,dropB st) else .error (36,t.at_))
   else .error (36,t.at_) := rfl
 rw [hd] at hne ⊢
 cases hp : peekB L st with
 | error e => exact out_err hp
 | ok y =>
 obtain ⟨t,st1⟩ := y
 have hpa := (peekB_again hp).1
 rw [hp] at hne
 simp only [bindR] at hne ⊢
 by_cases k1 : t.kind = 1
 ·rw [if_pos k1]
  refine leaf8 (ω1 := ω ++ [⟨nNum,0,t.num,[]⟩]) (fun r hr => .go ?_ hr) (by simp only [flat])
  rw [step_want hp (by omega)]; unfold operandM; rw [if_pos k1]
 rw [if_neg k1] at hne ⊢
 by_cases k3 : t.kind = 3
 ·rw [if_pos k3]
  refine leaf8 (ω1 := ω ++ [⟨nText,0,0,t.text⟩]) (fun r hr => .go ?_ hr) (by simp only [flat])
  rw [step_want hp (by omega)]; unfold operandM; rw [if_neg (by omega),if_pos k3]
 rw [if_neg k3] at hne ⊢
 by_cases hlp : isB t 4 sLp = true
 ·rw [if_pos hlp] at hne ⊢
  rw [open_want (.inl rfl) hpa hlp] at hne ⊢
  have hs := open_step (σ := σ) (ω := ω) (.inl rfl) hp hlp
  unfold bar at hs
  by_cases h10 : 10 < st1.op + 1
  ·have h10' : 10 < (dropB st1).op + 1 := h10
   rw [if_pos h10]
   rw [if_pos h10'] at hs
   exact .err hs
  have h10' : ¬ 10 < (dropB st1).op + 1 := h10
  rw [if_neg h10] at hne ⊢
  rw [if_neg h10'] at hs
  dsimp only at hne ⊢
  have hs : stepM L ⟨true,st,σ,ω⟩ = .ok (.inr ⟨true,⟨st1.l,none,st1.op + 1⟩,⟨sLp,-1,0⟩ :: σ,ω⟩) := hs
  generalize (⟨st1.l,none,st1.op + 1⟩ : PS) = st2 at *
  rcases ctx_i hE (o := ⟨sLp,-1,0⟩) rfl (by show sLp ≠ tElse; decide) st2 (fun h => absurd h (by decide)) σ ω (fun h => hne (by rw [h])) with ⟨e,hq,ho⟩ | ⟨n,st4,σ4,ω4,hq,hrun4,hback4,hstop4⟩
  ·rw [hq]; exact .go hs ho
  rw [hq] at hne ⊢
  dsimp only at hne ⊢
  rcases want_i (kind := 4) (text := sRp) hback4 hstop4 (fun t _ hpt h => ⟨fun _ _ => (by show sLp ≠ sLb; decide),fun hk hx => absurd hx (isB_no h hk),fun _ _ => (by show (if sLp = sLb then 6 else takesM sLp) ≤ 0 + 1; decide),fun _ _ => (by show sLp ≠ tIf; decide),fun _ _ => (by show sLp ≠ tThen; decide)⟩) with ⟨e,hw,ho⟩ | ⟨t6,st6,hp6,hb6⟩
  ·rw [hw]; exact .go hs (hrun4 _ ho)
  have hs6 := close_step (.inl rfl) hback4 hp6 hb6
  unfold closesM at hs6
  dsimp only at hs6
  rw [isB_text hb6,if_neg (by decide),if_pos ⟨rfl,rfl⟩] at hs6
  rw [want_at hp6 hb6,if_neg (by decide),if_pos (by decide)]
  exact leaf8 (fun r hr => .go hs (hrun4 _ (.go hs6 hr))) rfl
 rw [if_neg hlp] at hne ⊢
 by_cases hlb : isB t 4 sLb = true
 ·rw [if_pos hlb] at hne ⊢
  have := hL st1 σ ω t st1 hpa hlb hne
  cases hq : prs L f .list st1 with
  | error e => rw [hq] at this; exact out_peek hp this
  | ok z =>
   rw [hq] at this
   obtain ⟨σ3,ω3,hD⟩ := this
   exact ⟨σ3,ω3,fun r hr => out_peek hp (hD.run r hr),hD.rel,hD.stop⟩
 rw [if_neg hlb] at hne ⊢
 by_cases k2 : t.kind = 2
 ·rw [if_pos k2] at hne ⊢
  have hnif : t.text = tIf → 0 < floorM σ := fun h => hP.nif (by simp) t st1 hp (by unfold isB; rw [decide_eq_true k2,h]; rfl)
  have hnnot : t.text = tNot → 3 < floorM σ := fun h => hP.nnot (by decide) t st1 hp (by unfold isB; rw [decide_eq_true k2,h]; rfl)
  cases hfb : findB t.text with
  | some i =>
   rw [hfb] at hne
   dsimp only at hne ⊢
   obtain ⟨hi14,hname⟩ := findB_spec hfb
   have hnp : plainM.contains t.text = false := by
    cases h : plainM.contains t.text with
    | false => rfl
    | true => rw [(words_no h).1] at hfb; cases hfb
   have hni : t.text ≠ tIf := fun h => by rw [h] at hfb; cases hfb
   have hnn : t.text ≠ tNot := fun h => by rw [h] at hfb; cases hfb
   have := hC st1 σ ω t st1 i hpa k2 hfb hi14 hname hnp hni hnn hne
   cases hq : prs L f (.call i) st1 with
   | error e => rw [hq] at this; exact out_peek hp this
   | ok z =>
    rw [hq] at this
    obtain ⟨σ3,ω3,hD⟩ := this
    exact ⟨σ3,ω3,fun r hr => out_peek hp (hD.run r hr),hD.rel,hD.stop⟩
  | none =>
   dsimp only
   by_cases hpl : plainM.contains t.text = true
   ·rw [if_pos hpl]
    refine leaf8 (ω1 := ω ++ [⟨t.text,0,0,[]⟩]) (fun r hr => .go ?_ hr) (by simp only [flat])
    rw [step_want hp (by omega)]; unfold operandM; rw [if_neg k1,if_neg k3,if_neg (by omega),if_pos k2,if_pos hpl]
   ·rw [if_neg hpl]
    refine .err ?_
    rw [step_want hp (by omega)]; unfold operandM; rw [if_neg k1,if_neg k3,if_neg (by omega),if_pos k2,if_neg hpl]
    by_cases hi : t.text = tIf
    ·rw [if_pos hi,if_pos (hnif hi)]
    ·rw [if_neg hi]
     by_cases hn : t.text = tNot
     ·rw [if_pos hn,if_pos (hnnot hn)]
     ·rw [if_neg hn,hfb]
 ·rw [if_neg k2]
  by_cases k0 : t.kind = 0
  ·exact .err (step_want0 hp k0)
  ·by_cases k4 : t.kind = 4
   ·refine .err ?_
    have nb : ∀ {x : Txt},isB t 4 x = false → ¬ t.text = x := fun h => isB_no h k4
    have hlp' := nb ((Bool.not_eq_true _).mp hlp)
    have hlb' := nb ((Bool.not_eq_true _).mp hlb)
    have hmin := nb (hP.nmin (Nat.le_refl _) t st1 hp)
    rw [step_want hp k0]; unfold operandM
    rw [if_neg k1,if_neg k3,if_pos k4,if_neg hmin,if_neg (by rintro (h | h); exact hlp' h; exact hlb' h)]
    by_cases hrb : t.text = sRb
    ·rw [if_pos hrb]
     cases σ with
     | nil => rfl
     | cons o σ0 =>
      dsimp only
      rw [if_neg (hP.nrb t st1 hp (by unfold isB; rw [decide_eq_true k4,hrb]; rfl) o σ0 rfl)]
    ·rw [if_neg hrb]
   ·refine .err ?_
    rw [step_want hp k0]; unfold operandM; rw [if_neg k1,if_neg k3,if_neg k4,if_neg k2]
/-- All levels. -/
theorem all_sim : ∀ f : Nat,(∀ lv,lv ≠ .list → (∀ i,lv ≠ .call i) → Sim L f lv) ∧
  (∀ st σ ω t st1,peekB L st = .ok (t,st1) → isB t 4 sLb = true → prs L f .list st ≠ .error (0,0) → SimR L 8 st σ ω (prs L f .list st)) ∧
  (∀ st σ ω t st1 i,peekB L st = .ok (t,st1) → t.kind = 2 → findB t.text = some i → i < 14 → nameB i = t.text → plainM.contains t.text = false → t.text ≠ tIf → t.text ≠ tNot → prs L f (.call i) st ≠ .error (0,0) → SimR L 8 st σ ω (prs L f (.call i) st))
 | 0 => ⟨fun _ _ _ _ _ _ _ h => absurd rfl h,fun _ _ _ _ _ _ _ h => absurd rfl h,fun _ _ _ _ _ _ _ _ _ _ _ _ _ _ h => absurd rfl h⟩
 | f + 1 => by
  obtain ⟨h1,h2,h3⟩ := all_sim f
  have hE := h1 .expr (by simp) (by simp)
  refine ⟨fun lv hl hc => ?_,fun st σ ω t st1 hp hb hne => list_sim hE st σ ω t st1 hp hb hne,fun st σ ω t st1 i hp hk hi h14 hn hpl hni hnn hne => call_sim hE st σ ω t st1 i hp hk hi h14 hn hpl hni hnn hne⟩
  cases lv with
  | expr => exact expr_sim hE (h1 .or (by simp) (by simp))
  | or => exact or_sim (h1 .and (by simp) (by simp))
  | and => exact and_sim (h1 .not (by simp) (by simp))
  | not => exact not_sim (h1 .not (by simp) (by simp)) (h1 .cmp (by simp) (by simp))
  | cmp => exact cmp_sim (h1 .sum (by simp) (by simp))
  | sum => exact sum_sim (h1 .term (by simp) (by simp))
  | term => exact term_sim (h1 .neg (by simp) (by simp))
  | neg => exact neg_sim (h1 .neg (by simp) (by simp)) (h1 .atom (by simp) (by simp))
  | atom => exact atom_sim hE h2 h3
  | list => exact absurd rfl hl
  | call i => exact absurd rfl (hc i)
end
/-- What the machine comes to, over a whole text. -/
theorem read_out (l : Txt) (hl : l.length ≤ 100) : Out l.length ⟨true,⟨l,none,0⟩,[],[]⟩ (match parseE l with
  | .error e => .error e
  | .ok n => .ok (flat n)) := by
 have hne := prs_whole l
 have hpe : parseE l = match prs l.length (12 * l.length + 13) .expr ⟨l,none,0⟩ with
   | .error e => .error e
   | .ok (n,st) => match peekB l.length st with
    | .error e => .error e
    | .ok (t,_) => if t.kind = 0 then .ok n else .error (36,t.at_) := by
  unfold parseE
  rw [if_neg (by omega)]
  rfl
 have hs : SimE l.length ⟨l,none,0⟩ [] [] (prs l.length (12 * l.length + 13) .expr ⟨l,none,0⟩) :=
  (all_sim (12 * l.length + 13)).1 .expr (by simp) (by simp) ⟨l,none,0⟩ [] [] ⟨by show (-1 : Int) < 1; decide,fun _ => by show (0 : Int) ≤ 3; decide,fun _ => by show (0 : Int) ≤ 0; decide,fun h => absurd rfl h,fun h => absurd h (by decide),fun _ _ _ _ _ _ e => (by cases e),fun h => absurd h (by decide)⟩ hne
 rw [hpe]
 cases hq : prs l.length (12 * l.length + 13) .expr ⟨l,none,0⟩ with
 | error e => rw [hq] at hs; exact hs
 | ok z =>
 obtain ⟨n,st1⟩ := z
 rw [hq] at hs
 obtain ⟨σ1,ω1,hD⟩ := hs
 dsimp only
 cases hp : peekB l.length st1 with
 | error e => exact hD.run _ (out_err hp)
 | ok y =>
 obtain ⟨t,st2⟩ := y
 dsimp only
 have hb : backM σ1 ω1 = ([],flat n) := by rw [hD.rel]; simp [backM]
 by_cases hk : t.kind = 0
 ·rw [if_pos hk]
  refine hD.run _ (.fin ?_)
  unfold stepM
  dsimp only
  rw [hp]
  dsimp only
  rw [if_pos hk,if_neg Bool.false_ne_true,hb]
 ·rw [if_neg hk]
  refine hD.run _ (.err ?_)
  rw [step_beh hp hk]
  unfold behindM
  rcases hD.stop t st2 hp with h0 | ⟨h4,ht⟩
  ·rw [if_neg (by omega),hb]
   split
   ·rfl
   ·split
    ·rfl
    ·split <;> rfl
  ·rw [if_pos (by omega),if_pos ⟨h4,ht⟩]
end Go.Proofs.YtmdmomccibpjbaaGreatDoor.E
