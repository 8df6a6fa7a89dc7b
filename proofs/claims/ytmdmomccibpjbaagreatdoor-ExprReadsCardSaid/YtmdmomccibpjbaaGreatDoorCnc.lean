/- What the parser makes: its trees are well formed and small (plain law). -/
import Derived.Test.YtmdmomccibpjbaaGreatDoorCnb
import Derived.Test.YtmdmomccibpjbaaGreatDoorRwf
namespace Go.Proofs.YtmdmomccibpjbaaGreatDoor.E
open Go Tr
set_option maxRecDepth 100000
set_option maxHeartbeats 2000000
def TkB (t : Tk) : Prop := (t.kind = 1 → t.num ≤ 9223372036854775807) ∧ (t.kind = 3 → t.text.length ≤ 24)
def StB (st : PS) : Prop := ∀ t,st.tok = some t → TkB t
theorem bind_ok {α β : Type} {x : R α} {g : α → PS → R β} {b : β} {st : PS} (h : bindR x g = .ok (b,st)) : ∃ a st1,x = .ok (a,st1) ∧ g a st1 = .ok (b,st) := by
 cases x with
 | error c => cases h
 | ok y => exact ⟨y.1,y.2,rfl,h⟩
theorem numB_le : ∀ (l : Txt) (x n : Nat) (r : Txt),x ≤ 9223372036854775807 → numB x l = some (n,r) → n ≤ 9223372036854775807
 | [],x,n,r,hx,h => by rw [numB] at h; cases h; exact hx
 | c :: l,x,n,r,hx,h => by
  rw [numB] at h
  split at h
  ·split at h
   ·cases h
   ·exact numB_le l _ _ _ (by have := c.toNat_lt; omega) h
  ·cases h; exact hx
theorem meant_len {p t : Txt} (h : meantB p = some t) : t.length ≤ 24 := by
 unfold meantB at h
 split at h
 ·cases h
 ·split at h
  ·cases h
  ·split at h
   ·cases h; assumption
   ·cases h
theorem quo_len {l t r : Txt} (h : quoB (34 :: l) = some (t,r)) : t.length ≤ 24 := by
 rw [quo_law] at h
 cases hm : meantB ((34 :: l).take (1 + cloB false l)) with
 | none => rw [hm] at h; cases h
 | some t' =>
  rw [hm] at h
  simp only [Option.map_some,Option.some.injEq,Prod.mk.injEq] at h
  rw [← h.1]
  exact meant_len hm
theorem lex_tkb {L : Nat} {l r : Txt} {t : Tk} (h : lexB L l = .ok (t,r)) : TkB t := by
 unfold lexB at h
 split at h
 ·cases h
  exact ⟨(fun h => nomatch h),(fun h => nomatch h)⟩
 ·split at h
  ·split at h
   ·cases h
   ·rename_i n r' hn
    cases h
    exact ⟨fun _ => numB_le _ _ _ _ (by omega) hn,(fun h => nomatch h)⟩
  ·split at h
   ·split at h
    ·cases h
     exact ⟨(fun h => nomatch h),(fun h => nomatch h)⟩
    ·cases h
   ·split at h
    ·rename_i hc
     subst hc
     split at h
     ·cases h
     ·rename_i t' r' hq
      cases h
      exact ⟨(fun h => nomatch h),fun _ => quo_len hq⟩
    ·split at h
     ·cases h
      exact ⟨(fun h => nomatch h),(fun h => nomatch h)⟩
     ·cases h
section
variable {L : Nat}
theorem peek_stb {st st' : PS} {t : Tk} (hs : StB st) (h : peekB L st = .ok (t,st')) : TkB t ∧ StB st' ∧ StB (dropB st') := by
 have hd : StB (dropB st') := fun _ h => nomatch h
 unfold peekB at h
 split at h
 ·rename_i t' ht
  cases h
  exact ⟨hs _ ht,hs,hd⟩
 ·split at h
  ·cases h
  ·rename_i t' r hl
   cases h
   exact ⟨lex_tkb hl,fun t e => by cases e; exact lex_tkb hl,hd⟩
theorem want_stb {kind : Nat} {text : Txt} {st st' : PS} {u : Unit} (h : wantB L kind text st = .ok (u,st')) : StB st' := by
 have key : st'.tok = none := by
  unfold wantB at h
  split at h
  ·cases h
  ·split at h
   ·split at h
    ·split at h
     ·cases h
     ·cases h; rfl
    ·split at h
     ·cases h; rfl
     ·cases h; rfl
   ·cases h
 intro t e
 rw [key] at e
 cases e
/-- Trees from here on: well formed, no greater than what is read. -/
def Gd (m : Nat) (x : R N) : Prop := ∀ n st,x = .ok (n,st) → WfN n ∧ StB st ∧ szN n + sizeS st ≤ m
theorem op_mem {t : Tk} {kind : Nat} {ops : List Txt} {op : Txt} (h : opOf t kind ops = some op) : op ∈ ops := by
 unfold opOf at h
 split at h
 ·exact List.mem_of_find?_eq_some h
 ·cases h
theorem loop_gd {part : PS → R N} {kind : Nat} {ops : List Txt} (hk : kind ≠ 0) (ho : ∀ op ∈ ops,op ∈ binOps) (hp : ∀ st,StB st → Gd (sizeS st) (part st)) : ∀ (m : Nat) (a : N) (st : PS),WfN a → StB st → Gd (szN a + sizeS st) (loopB L part kind ops m a st)
 | 0,_,_,_,_ => fun n st h => nomatch h
 | m + 1,a,st,ha,hs => by
  intro n st' h
  obtain ⟨t,st1,e1,h⟩ := bind_ok (show bindR (peekB L st) _ = _ from h)
  obtain ⟨h1,h2,h3,h4⟩ := peek_fine e1
  obtain ⟨k1,k2,k3⟩ := peek_stb hs e1
  split at h
  ·cases h
   exact ⟨ha,k2,by omega⟩
  ·rename_i op hop
   have h5 := h3 (by rw [opOf_kind hop]; exact hk)
   obtain ⟨b,st2,e2,h⟩ := bind_ok h
   obtain ⟨b1,b2,b3⟩ := hp _ k3 b st2 e2
   obtain ⟨c1,c2,c3⟩ := loop_gd hk ho hp m (.bin op a b) st2 ⟨ho op (op_mem hop),ha,b1⟩ b2 n st' h
   refine ⟨c1,c2,?_⟩
   simp only [szN] at c3
   omega
theorem items_gd {part : PS → R N} (hp : ∀ st,StB st → Gd (sizeS st) (part st)) : ∀ (m : Nat) (acc : List N) (st : PS),WfL acc → StB st → ∀ l st',itemsB L part m acc st = .ok (l,st') → WfL l ∧ StB st' ∧ szL l + sizeS st' ≤ szL acc + sizeS st
 | 0,_,_,_,_ => fun n st h => nomatch h
 | m + 1,acc,st,ha,hs => by
  intro l st' h
  unfold itemsB at h
  split at h
  ·obtain ⟨t,st1,e1,h⟩ := bind_ok h
   obtain ⟨h1,h2,h3,h4⟩ := peek_fine e1
   obtain ⟨k1,k2,k3⟩ := peek_stb hs e1
   split at h
   ·obtain ⟨b,st2,e2,h⟩ := bind_ok h
    obtain ⟨b1,b2,b3⟩ := hp _ k3 b st2 e2
    obtain ⟨c1,c2,c3⟩ := items_gd hp m (acc ++ [b]) st2 ((WfL_app _ _).2 ⟨ha,b1,trivial⟩) b2 l st' h
    refine ⟨c1,c2,?_⟩
    rw [szL_app] at c3
    simp only [szL] at c3
    omega
   ·cases h
    exact ⟨ha,k2,by omega⟩
  ·cases h
   exact ⟨ha,hs,by omega⟩
theorem args_gd {part : PS → R N} (hp : ∀ st,StB st → Gd (sizeS st) (part st)) : ∀ (m : Nat) (acc : List N) (st : PS),WfL acc → StB st → ∀ l st',argsB L part m acc st = .ok (l,st') → WfL l ∧ StB st' ∧ l.length = acc.length + m ∧ szL l + sizeS st' ≤ szL acc + sizeS st
 | 0,acc,st,ha,hs => fun l st' h => by
  cases h
  exact ⟨ha,hs,rfl,by omega⟩
 | m + 1,acc,st,ha,hs => by
  intro l st' h
  unfold argsB at h
  obtain ⟨u,st1,e1,h⟩ := bind_ok h
  have k : StB st1 ∧ sizeS st1 ≤ sizeS st := by
   split at e1
   ·cases e1; exact ⟨hs,Nat.le_refl _⟩
   ·have := want_fine (by omega) e1
    exact ⟨want_stb e1,by omega⟩
  obtain ⟨b,st2,e2,h⟩ := bind_ok h
  obtain ⟨b1,b2,b3⟩ := hp _ k.1 b st2 e2
  obtain ⟨c1,c2,c3,c4⟩ := args_gd hp m (acc ++ [b]) st2 ((WfL_app _ _).2 ⟨ha,b1,trivial⟩) b2 l st' h
  refine ⟨c1,c2,by rw [c3,List.length_append,List.length_singleton]; omega,?_⟩
  rw [szL_app] at c4
  simp only [szL] at c4
  have := k.2
  omega
theorem find_lt {w : Txt} {i : Nat} (h : findB w = some i) : i < 14 := by
 unfold findB at h
 rw [List.findIdx?_eq_some_iff_getElem] at h
 obtain ⟨hl,_⟩ := h
 exact hl
/-- The levels: which calls may be asked for. -/
def LvB : Lv → Prop
 | .call i => i < 14
 | _ => True
theorem prs_gd : ∀ (f : Nat) (lv : Lv) (st : PS),LvB lv → StB st → Gd (sizeS st) (prs L f lv st)
 | 0,_,_,_,_ => fun n st h => nomatch h
 | f + 1,lv,st,hlv,hs => by
  have ih := prs_gd f
  have chain : ∀ (lv' : Lv) (kind : Nat) (ops : List Txt),kind ≠ 0 → LvB lv' → (∀ op ∈ ops,op ∈ binOps) → Gd (sizeS st) (bindR (prs L f lv' st) fun a st => loopB L (prs L f lv') kind ops f a st) := fun lv' kind ops hk hl ho n st' h => by
   obtain ⟨a,st1,e1,h⟩ := bind_ok h
   obtain ⟨a1,a2,a3⟩ := ih lv' st hl hs a st1 e1
   obtain ⟨c1,c2,c3⟩ := loop_gd hk ho (fun st2 h2 => ih lv' st2 hl h2) f a st1 a1 a2 n st' h
   exact ⟨c1,c2,by omega⟩
  cases lv with
  | expr =>
   intro n st' h
   obtain ⟨t,st1,e1,h⟩ := bind_ok (show bindR (peekB L st) _ = _ from h)
   obtain ⟨h1,h2,h3,h4⟩ := peek_fine e1
   obtain ⟨k1,k2,k3⟩ := peek_stb hs e1
   split at h
   ·rename_i hb
    have h5 := h3 (by rw [isB_kind hb]; omega)
    obtain ⟨c,st2,e2,h⟩ := bind_ok h
    obtain ⟨c1,c2,c3⟩ := ih .expr _ trivial k3 _ _ e2
    obtain ⟨u,st3,e3,h⟩ := bind_ok h
    have q1 := want_fine (by omega) e3
    obtain ⟨a,st4,e4,h⟩ := bind_ok h
    obtain ⟨a1,a2,a3⟩ := ih .expr _ trivial (want_stb e3) _ _ e4
    obtain ⟨u,st5,e5,h⟩ := bind_ok h
    have q2 := want_fine (by omega) e5
    obtain ⟨b,st6,e6,h⟩ := bind_ok h
    obtain ⟨b1,b2,b3⟩ := ih .expr _ trivial (want_stb e5) _ _ e6
    cases h
    refine ⟨⟨c1,a1,b1⟩,b2,?_⟩
    simp only [szN]
    omega
   ·obtain ⟨a1,a2,a3⟩ := ih .or _ trivial k2 _ _ h
    exact ⟨a1,a2,by omega⟩
  | or => exact chain .and _ _ (by omega) trivial (by decide)
  | and => exact chain .not _ _ (by omega) trivial (by decide)
  | sum => exact chain .term _ _ (by omega) trivial (by decide)
  | term => exact chain .neg _ _ (by omega) trivial (by decide)
  | not =>
   intro n st' h
   obtain ⟨t,st1,e1,h⟩ := bind_ok (show bindR (peekB L st) _ = _ from h)
   obtain ⟨h1,h2,h3,h4⟩ := peek_fine e1
   obtain ⟨k1,k2,k3⟩ := peek_stb hs e1
   split at h
   ·rename_i hb
    have h5 := h3 (by rw [isB_kind hb]; omega)
    obtain ⟨c,st2,e2,h⟩ := bind_ok h
    obtain ⟨c1,c2,c3⟩ := ih .not _ trivial k3 _ _ e2
    cases h
    refine ⟨⟨.inl rfl,c1⟩,c2,?_⟩
    simp only [szN]
    omega
   ·obtain ⟨a1,a2,a3⟩ := ih .cmp _ trivial k2 _ _ h
    exact ⟨a1,a2,by omega⟩
  | neg =>
   intro n st' h
   obtain ⟨t,st1,e1,h⟩ := bind_ok (show bindR (peekB L st) _ = _ from h)
   obtain ⟨h1,h2,h3,h4⟩ := peek_fine e1
   obtain ⟨k1,k2,k3⟩ := peek_stb hs e1
   split at h
   ·rename_i hb
    have h5 := h3 (by rw [isB_kind hb]; omega)
    obtain ⟨c,st2,e2,h⟩ := bind_ok h
    obtain ⟨c1,c2,c3⟩ := ih .neg _ trivial k3 _ _ e2
    cases h
    refine ⟨⟨.inr rfl,c1⟩,c2,?_⟩
    simp only [szN]
    omega
   ·obtain ⟨a1,a2,a3⟩ := ih .atom _ trivial k2 _ _ h
    exact ⟨a1,a2,by omega⟩
  | cmp =>
   intro n st' h
   obtain ⟨a,st1,e1,h⟩ := bind_ok (show bindR (prs L f .sum st) _ = _ from h)
   obtain ⟨a1,a2,a3⟩ := ih .sum _ trivial hs _ _ e1
   obtain ⟨t,st2,e2,h⟩ := bind_ok h
   obtain ⟨h1,h2,h3,h4⟩ := peek_fine e2
   obtain ⟨k1,k2,k3⟩ := peek_stb a2 e2
   split at h
   ·cases h
    exact ⟨a1,k2,by omega⟩
   ·rename_i op hop
    have h5 := h3 (by rw [opOf_kind hop]; omega)
    obtain ⟨b,st3,e3,h⟩ := bind_ok h
    obtain ⟨b1,b2,b3⟩ := ih .sum _ trivial k3 _ _ e3
    cases h
    refine ⟨⟨(by decide : ∀ op ∈ cmpOps,op ∈ binOps) op (op_mem hop),a1,b1⟩,b2,?_⟩
    simp only [szN]
    omega
  | atom =>
   intro n st' h
   obtain ⟨t,st1,e1,h⟩ := bind_ok (show bindR (peekB L st) _ = _ from h)
   obtain ⟨h1,h2,h3,h4⟩ := peek_fine e1
   obtain ⟨k1,k2,k3⟩ := peek_stb hs e1
   split at h
   ·rename_i hk
    have h5 := h3 (by omega)
    cases h
    refine ⟨⟨by omega,?_⟩,k3,by simp only [szN]; omega⟩
    have := k1.1 hk
    omega
   split at h
   ·rename_i hk
    have h5 := h3 (by omega)
    cases h
    exact ⟨k1.2 hk,k3,by simp only [szN]; omega⟩
   split at h
   ·obtain ⟨u,st2,e2,h⟩ := bind_ok h
    have q1 := want_fine (by omega) e2
    obtain ⟨a,st3,e3,h⟩ := bind_ok h
    obtain ⟨a1,a2,a3⟩ := ih .expr _ trivial (want_stb e2) _ _ e3
    obtain ⟨u,st4,e4,h⟩ := bind_ok h
    have q2 := want_fine (by omega) e4
    cases h
    exact ⟨a1,want_stb e4,by omega⟩
   split at h
   ·obtain ⟨a1,a2,a3⟩ := ih .list _ trivial k2 _ _ h
    exact ⟨a1,a2,by omega⟩
   split at h
   ·rename_i hk
    have h5 := h3 (by omega)
    split at h
    ·rename_i i hi
     obtain ⟨a1,a2,a3⟩ := ih (.call i) _ (find_lt hi) k2 _ _ h
     exact ⟨a1,a2,by omega⟩
    ·split at h
     ·rename_i hw
      cases h
      exact ⟨List.contains_iff_mem.1 hw,k3,by simp only [szN]; omega⟩
     ·cases h
   ·cases h
  | list =>
   intro n st' h
   obtain ⟨u,st1,e1,h⟩ := bind_ok (show bindR (wantB L 4 sLb st) _ = _ from h)
   have q1 := want_fine (by omega) e1
   obtain ⟨t,st2,e2,h⟩ := bind_ok h
   obtain ⟨h1,h2,h3,h4⟩ := peek_fine e2
   obtain ⟨k1,k2,k3⟩ := peek_stb (want_stb e1) e2
   split at h
   ·obtain ⟨u,st3,e3,h⟩ := bind_ok h
    have q3 := want_fine (by omega) e3
    cases h
    exact ⟨trivial,want_stb e3,by simp only [szN,szL]; omega⟩
   ·obtain ⟨a,st3,e3,h⟩ := bind_ok h
    obtain ⟨a1,a2,a3⟩ := ih .expr _ trivial k2 _ _ e3
    obtain ⟨l,st4,e4,h⟩ := bind_ok h
    obtain ⟨b1,b2,b3⟩ := items_gd (fun st2 h2 => ih .expr st2 trivial h2) f [a] st3 ⟨a1,trivial⟩ a2 l st4 e4
    obtain ⟨u,st5,e5,h⟩ := bind_ok h
    have q4 := want_fine (by omega) e5
    cases h
    simp only [szL] at b3
    exact ⟨b1,want_stb e5,by simp only [szN]; omega⟩
  | call i =>
   intro n st' h
   obtain ⟨t,st1,e1,h⟩ := bind_ok (show bindR (peekB L st) _ = _ from h)
   obtain ⟨h1,h2,h3,h4⟩ := peek_fine e1
   obtain ⟨u,st2,e2,h⟩ := bind_ok h
   have q1 := want_fine (by omega) e2
   obtain ⟨l,st3,e3,h⟩ := bind_ok h
   obtain ⟨b1,b2,b3,b4⟩ := args_gd (fun st2 h2 => ih .expr st2 trivial h2) (takesB i) [] st2 trivial (want_stb e2) l st3 e3
   obtain ⟨u,st4,e4,h⟩ := bind_ok h
   have q2 := want_fine (by omega) e4
   cases h
   simp only [szL] at b4
   exact ⟨⟨hlv,by simpa using b3,b1⟩,want_stb e4,by simp only [szN]; omega⟩
/-- A text's tree. -/
theorem parse_gd {l : Txt} {n : N} (h : parseE l = .ok n) : WfN n ∧ szN n ≤ 100 ∧ l.length ≤ 100 := by
 unfold parseE at h
 split at h
 ·cases h
 ·rename_i hl
  split at h
  ·cases h
  ·rename_i m st hp
   obtain ⟨c1,c2,c3⟩ := prs_gd _ .expr ⟨l,none,0⟩ trivial (fun _ h => nomatch h) m st hp
   have : sizeS ⟨l,none,0⟩ = l.length := rfl
   split at h
   ·cases h
   ·split at h
    ·cases h
     exact ⟨c1,by omega,by omega⟩
    ·cases h
end
end Go.Proofs.YtmdmomccibpjbaaGreatDoor.E
