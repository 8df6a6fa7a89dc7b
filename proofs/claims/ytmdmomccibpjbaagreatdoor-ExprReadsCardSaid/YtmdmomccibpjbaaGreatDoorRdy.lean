/- Values whose memory lies in blocks of a kind; rows of values. Plain law: what the reader reads is a value within the limits. Plain law: what is read with its faults told is what is read. -/
import Derived.Test.YtmdmomccibpjbaaGreatDoorRdp
import Derived.Test.YtmdmomccibpjbaaGreatDoorRdx
import Derived.Test.YtmdmomccibpjbaaGreatDoorRdi
namespace Go.Proofs.YtmdmomccibpjbaaGreatDoor.V
open Go Tr
open Go.RowKit (Below)
set_option maxRecDepth 100000
mutual
def RItB (B : Nat → Prop) (w : World) : VT → Option Addr → Nat → Prop
 | .mk _ _ _ l,p,n => l.length = n ∧ (0 < n → ∃ ad,p = some ad ∧ B ad.block ∧ RLB B w l ad 0)
def RLB (B : Nat → Prop) (w : World) : List VT → Addr → Nat → Prop
 | [],_,_ => True
 | x :: r,ad,j => (∃ p n c,CellsV w (ad.add (j * 4)) x p n c ∧ n ≤ c ∧ c ≤ 9223372036854775807 ∧ RItB B w x p n) ∧ RLB B w r ad (j + 1)
end
theorem RItB_def (B : Nat → Prop) (w : World) (x : VT) (p : Option Addr) (n : Nat) : RItB B w x p n = (x.items.length = n ∧ (0 < n → ∃ ad,p = some ad ∧ B ad.block ∧ RLB B w x.items ad 0)) := by
 cases x
 simp only [RItB,VT.items]
theorem _root_.Go.Proofs.YtmdmomccibpjbaaGreatDoor.CellsV.keep {w w' : World} {S : Nat → Prop} {a : Addr} {x : VT} {p : Option Addr} {n c : Nat} (h : CellsV w a x p n c) (hc : Ch S w w') (hn : ¬ S a.block) : CellsV w' a x p n c :=
 ⟨hc.cellv h.c0 hn,hc.cellv h.c1 (by rw [add_block]; exact hn),hc.cellv h.c2 (by rw [add_block]; exact hn),hc.cellv h.c3 (by rw [add_block]; exact hn)⟩
mutual
theorem RItB.ch {B S : Nat → Prop} {w w' : World} (hc : Ch S w w') (hB : ∀ k,B k → ¬ S k) : ∀ (x : VT) (p : Option Addr) (n : Nat),RItB B w x p n → RItB B w' x p n
 | .mk _ _ _ l,p,n,h => by
  simp only [RItB] at h ⊢
  refine ⟨h.1,fun hn => ?_⟩
  obtain ⟨ad,e,hb,hl⟩ := h.2 hn
  exact ⟨ad,e,hb,RLB.ch hc hB l ad 0 hb hl⟩
theorem RLB.ch {B S : Nat → Prop} {w w' : World} (hc : Ch S w w') (hB : ∀ k,B k → ¬ S k) : ∀ (l : List VT) (ad : Addr) (j : Nat),B ad.block → RLB B w l ad j → RLB B w' l ad j
 | [],_,_,_,_ => trivial
 | x :: r,ad,j,hb,h => by
  simp only [RLB] at h ⊢
  obtain ⟨⟨p,n,c,h1,h2,h3,h4⟩,hr⟩ := h
  exact ⟨⟨p,n,c,h1.keep hc (by rw [add_block]; exact hB _ hb),h2,h3,RItB.ch hc hB x p n h4⟩,RLB.ch hc hB r ad (j + 1) hb hr⟩
end
mutual
theorem RItB.mono {B B' : Nat → Prop} {w : World} (hB : ∀ k,B k → B' k) : ∀ (x : VT) (p : Option Addr) (n : Nat),RItB B w x p n → RItB B' w x p n
 | .mk _ _ _ l,p,n,h => by
  simp only [RItB] at h ⊢
  refine ⟨h.1,fun hn => ?_⟩
  obtain ⟨ad,e,hb,hl⟩ := h.2 hn
  exact ⟨ad,e,hB _ hb,RLB.mono hB l ad 0 hl⟩
theorem RLB.mono {B B' : Nat → Prop} {w : World} (hB : ∀ k,B k → B' k) : ∀ (l : List VT) (ad : Addr) (j : Nat),RLB B w l ad j → RLB B' w l ad j
 | [],_,_,_ => trivial
 | x :: r,ad,j,h => by
  simp only [RLB] at h ⊢
  obtain ⟨⟨p,n,c,h1,h2,h3,h4⟩,hr⟩ := h
  exact ⟨⟨p,n,c,h1,h2,h3,RItB.mono hB x p n h4⟩,RLB.mono hB r ad (j + 1) hr⟩
end
/-- x stands in w as this value; its memory lies in blocks of B. -/
structure IsVB (B : Nat → Prop) (w : World) (x : VT) (p : Option Addr) (n c : Nat) : Prop where
 cap : n ≤ c
 big : c ≤ 9223372036854775807
 its : RItB B w x p n
namespace IsVB
variable {B B' S : Nat → Prop} {w w' : World} {x : VT} {p : Option Addr} {n c : Nat}
theorem ch (h : IsVB B w x p n c) (hc : Ch S w w') (hB : ∀ k,B k → ¬ S k) : IsVB B w' x p n c := ⟨h.cap,h.big,RItB.ch hc hB _ _ _ h.its⟩
theorem mono (h : IsVB B w x p n c) (hB : ∀ k,B k → B' k) : IsVB B' w x p n c := ⟨h.cap,h.big,RItB.mono hB _ _ _ h.its⟩
theorem flat (k i : Int) (s : ByteArray) : IsVB B w (.mk k i s []) none 0 0 := ⟨by omega,by omega,by rw [RItB_def]; exact ⟨rfl,fun h => by omega⟩⟩
end IsVB
theorem add_add (a : Addr) (i j : Nat) : (a.add i).add j = a.add (i + j) := by
 cases a with
 | mk b o s =>
  cases s with
  | none => rw [addr_add,addr_add,addr_add,Nat.add_assoc]
  | some t =>
   unfold Addr.add
   by_cases hi : i = 0 <;> by_cases hj : j = 0 <;> simp_all [Addr.add] <;> omega
theorem infoVal : (Tryz.prog.info? 94).map (fun i => (i.zero,i.size,i.bytes)) = some (some (.agg #[.int .i64 0,.int .i64 0,.string (bytesL []),.slice none 0 0]),4,56) := by kernel_rfl
abbrev Elt := VT × Option Addr × Nat × Nat
def Elt.cells (y : Elt) : List Value := cellsV y.1 y.2.1 y.2.2.1 y.2.2.2
theorem flat4 : ∀ (acc : List Elt) (i r : Nat) (y : Elt),acc[i]? = some y → r < 4 → (acc.flatMap Elt.cells)[i * 4 + r]? = y.cells[r]?
 | [],i,_,_,h,_ => by simp at h
 | z :: acc,0,r,y,h,hr => by
  simp at h
  subst h
  rw [List.flatMap_cons,Nat.zero_mul,Nat.zero_add,List.getElem?_append_left (by simpa [Elt.cells,cellsV] using hr)]
 | z :: acc,i + 1,r,y,h,hr => by
  have hl : (Elt.cells z).length = 4 := rfl
  rw [List.flatMap_cons,List.getElem?_append_right (by omega),hl,show (i + 1) * 4 + r - 4 = i * 4 + r by omega]
  exact flat4 acc i r y (by simpa using h) hr
theorem RLB_of {B : Nat → Prop} {w : World} {ad : Addr} : ∀ (l : List Elt) (j : Nat),(∀ i y,l[i]? = some y → CellsV w (ad.add ((j + i) * 4)) y.1 y.2.1 y.2.2.1 y.2.2.2 ∧ IsVB B w y.1 y.2.1 y.2.2.1 y.2.2.2) → RLB B w (l.map (·.1)) ad j
 | [],_,_ => trivial
 | y :: r,j,h => by
  simp only [List.map_cons,RLB]
  refine ⟨?_,RLB_of r (j + 1) fun i z hz => ?_⟩
  ·obtain ⟨h1,h2⟩ := h 0 y rfl
   exact ⟨_,_,_,h1,h2.cap,h2.big,h2.its⟩
  ·have := h (i + 1) z (by simpa using hz)
   rw [show j + 1 + i = j + (i + 1) by omega]
   exact this
/-- A list of values of one's own: the elements' memory lies elsewhere. -/
structure RowV (w : World) (base : Nat) (p : Option Addr) (n c : Nat) (acc : List Elt) : Prop where
 row : Row w base 94 4 p n c (acc.flatMap Elt.cells)
 len : acc.length = n
 elts : ∀ y ∈ acc,IsVB (fun k => base ≤ k ∧ k < w.heap.size ∧ ¬ rowS p n c k) w y.1 y.2.1 y.2.2.1 y.2.2.2
namespace RowV
variable {w w' : World} {base : Nat} {p : Option Addr} {n c : Nat} {acc : List Elt} {S : Nat → Prop}
theorem nil (w : World) (base : Nat) : RowV w base none 0 0 [] := ⟨Row.nil _ _ _ _,rfl,fun _ h => by cases h⟩
theorem ch (h : RowV w base p n c acc) (hc : Ch S w w') (hS : ∀ k,base ≤ k → ¬ S k) : RowV w' base p n c acc :=
 ⟨h.row.ch hc (fun k hk => hS k (h.row.lt hk).1),h.len,fun y hy => ((h.elts y hy).ch hc (fun k hk => hS k hk.1)).mono fun k hk => ⟨hk.1,Nat.lt_of_lt_of_le hk.2.1 hc.size,hk.2.2⟩⟩
theorem cap (h : RowV w base p n c acc) : n ≤ c := by
 have hh := h.row
 rcases hh.2 with ⟨e,he⟩ | ⟨g,cap,cur,e,_,_,hnc,_⟩
 ·omega
 ·simp only [Value.slice.injEq,true_and] at e
  omega
theorem big (h : RowV w base p n c acc) : c ≤ 9223372036854775807 := by
 have hh := h.row
 rcases hh.2 with ⟨e,he⟩ | ⟨g,cap,cur,e,_,_,_,hm,_⟩
 ·simp only [Value.slice.injEq] at e
  omega
 ·simp only [Value.slice.injEq,true_and] at e
  have : maxLen = 9223372036854775807 := by decide
  omega
theorem is (h : RowV w base p n c acc) (k i : Int) (s : ByteArray) : IsVB (fun b => base ≤ b ∧ b < w.heap.size) w (.mk k i s (acc.map (·.1))) p n c := by
 refine ⟨h.cap,h.big,?_⟩
 rw [RItB_def]
 refine ⟨by simp [VT.items,h.len],fun hn => ?_⟩
 have hh := h.row
 rcases hh.2 with ⟨_,he⟩ | ⟨g,cap,cur,e,hb,hg,_⟩
 ·omega
 ·simp only [Value.slice.injEq,true_and] at e
  obtain ⟨rfl,rfl⟩ := e
  refine ⟨_,rfl,⟨hb,(Array.getElem?_eq_some_iff.1 hg).1⟩,RLB_of acc 0 fun i y hy => ⟨?_,(h.elts y (List.mem_of_getElem? hy)).mono fun k hk => ⟨hk.1,hk.2.1⟩⟩⟩
  have cell : ∀ r,r < 4 → w.cell? (Addr.add ⟨g,0,none⟩ (i * 4 + r)) = y.cells[r]? := fun r hr => by
   have hf := flat4 acc i r y hy hr
   have : r < y.cells.length := hr
   rw [List.getElem?_eq_getElem this] at hf ⊢
   exact World.ownsRow.cells (g := g) h.row rfl (i * 4 + r) _ hf
  rw [Nat.zero_add]
  have e0 := cell 0 (by omega)
  rw [Nat.add_zero] at e0
  refine ⟨e0,?_,?_,?_⟩
  ·rw [add_add]; exact cell 1 (by omega)
  ·rw [add_add]; exact cell 2 (by omega)
  ·rw [add_add]; exact cell 3 (by omega)
end RowV
end Go.Proofs.YtmdmomccibpjbaaGreatDoor.V
namespace Go.Proofs.YtmdmomccibpjbaaGreatDoor.V
open Go Tr
set_option maxRecDepth 100000
theorem part_flat (n depth : Int) (kd : Int) (i : Int) (s : ByteArray) (c1 : ¬ n + 1 > 12) (h0 : 0 ≤ kd) (h2 : kd ≤ 2) (hi : kd ≠ 1 → i = 0) (hs : kd ≠ 2 → s.toList = []) (h24 : s.size ≤ 24) : partV n depth (.mk kd i s []) = (0,n + 1) := by
 let x : VT := .mk kd i s []
 show partV n depth x = _
 have a1 : ¬ (x.kind < 0 ∨ x.kind > 3) := by show ¬ (kd < 0 ∨ kd > 3); omega
 have a2 : ¬ ((x.int ≠ 0 ∧ x.kind ≠ 1) ∨ (x.text.toList ≠ [] ∧ x.kind ≠ 2) ∨ (0 < x.items.length ∧ x.kind ≠ 3)) := by
  rintro (⟨h,h'⟩ | ⟨h,h'⟩ | ⟨h,_⟩)
  ·exact h (hi h')
  ·exact h (hs h')
  ·exact absurd (show 0 < ([] : List VT).length from h) (by simp)
 have a3 : ¬ (x.kind = 3 ∧ depth ≥ 3) := by show ¬ (kd = 3 ∧ depth ≥ 3); omega
 have a4 : ¬ x.text.size > 24 := by show ¬ s.size > 24; omega
 have a5 : ¬ x.items.length > 6 := by show ¬ ([] : List VT).length > 6; simp
 rw [partV_def,if_neg c1,if_neg a1,if_neg a2,if_neg a3,if_neg a4,if_neg a5]
 rfl
theorem numM_rng {neg : Bool} {ds : List UInt8} {v : Int} (h : numM neg ds = some v) : Rng v := by
 unfold numM at h
 unfold Rng
 split at h
 ·split at h
  ·cases h; omega
  ·cases h
 ·split at h
  ·cases h; omega
  ·cases h
theorem rdigM_rng {neg : Bool} {l : List UInt8} {v : Int} {r : List UInt8} (h : rdigM neg l = some (v,r)) : Rng v := by
 unfold rdigM at h
 split at h
 ·split at h
  ·cases h
  ·cases h; unfold Rng; decide
 ·split at h
  ·cases h
  ·cases hn : numM neg (l.takeWhile isDig) with
   | none => rw [hn] at h; cases h
   | some v' => rw [hn] at h; cases h; exact numM_rng hn
theorem rintM_rng {l : List UInt8} {v : Int} {r : List UInt8} (h : rintM l = some (v,r)) : Rng v := by
 unfold rintM at h
 split at h
 ·exact rdigM_rng h
 ·exact rdigM_rng h
theorem rtextM_size {l : List UInt8} {s : ByteArray} {r : List UInt8} (h : rtextM l = some (s,r)) : s.size ≤ 24 := by
 unfold rtextM at h
 cases hq : readQ (l.length + 1) [] l with
 | none => rw [hq] at h; cases h
 | some y =>
  obtain ⟨b,r'⟩ := y
  rw [hq] at h
  dsimp only at h
  split at h
  ·cases h
  ·cases h
   show b.toArray.size ≤ 24
   simp; omega
theorem rd_is (k : Nat) : ∀ (l : List UInt8) (n depth : Int) (x : VT) (l' : List UInt8) (n' : Int),rdV k depth l n = some (x,l',n') → partV n depth x = (0,n') ∧ Fit x := by
 induction k with
 | zero => intro l n depth x l' n' h; cases h
 | succ k ih =>
  intro l n depth x l' n' h
  have rng0 : Rng 0 := by unfold Rng; decide
  have bs0 : (bytesL []).size ≤ 9223372036854775807 := by decide
  rw [rdV_succ] at h
  by_cases c0 : begs (pk l) = false
  ·rw [if_pos c0] at h; cases h
  rw [if_neg c0] at h
  by_cases c1 : n + 1 > 12
  ·rw [if_pos c1] at h; cases h
  rw [if_neg c1] at h
  by_cases k1 : pk l = 110
  ·rw [if_pos k1] at h
   split at h
   ·cases h
    exact ⟨part_flat n depth 0 0 (bytesL []) c1 (by decide) (by decide) (fun _ => rfl) (fun _ => bytesL_nil) (by decide),noneV_fit⟩
   ·cases h
  rw [if_neg k1] at h
  by_cases k2 : pk l = 34
  ·rw [if_pos k2] at h
   cases ht : rtextM l.tail with
   | none => rw [ht] at h; cases h
   | some y =>
    obtain ⟨s,r⟩ := y
    rw [ht] at h
    cases h
    have := rtextM_size ht
    refine ⟨part_flat n depth 2 0 s c1 (by decide) (by decide) (fun _ => rfl) (fun h => absurd rfl h) this,?_⟩
    rw [Fit_def]
    exact ⟨by show Rng 2; unfold Rng; decide,rng0,by show s.size ≤ _; omega,trivial⟩
  rw [if_neg k2] at h
  by_cases k3 : pk l = 91
  ·rw [if_pos k3] at h
   unfold rlistM at h
   by_cases hd : depth ≥ 3
   ·rw [if_pos hd] at h; cases h
   rw [if_neg hd] at h
   have fin : ∀ (xs : List VT),xs.length ≤ 6 → partL (n + 1) depth xs = (0,n') → FitL xs → partV n depth (.mk 3 0 (bytesL []) xs) = (0,n') ∧ Fit (.mk 3 0 (bytesL []) xs) := by
    intro xs h6 hp hf
    refine ⟨?_,?_⟩
    ·rw [partV_def]
     simp only [VT.kind,VT.int,VT.text,VT.items,bytesL_nil]
     rw [if_neg c1]
     have b24 : ¬ (bytesL []).size > 24 := by decide
     have x6 : ¬ xs.length > 6 := by omega
     simp only [hd,b24,x6,if_false,and_false,ne_eq,not_true_eq_false,or_self,hp]
     simp
    ·rw [Fit_def]
     exact ⟨by show Rng 3; unfold Rng; decide,rng0,bs0,hf⟩
   by_cases he : pk (blanksM l.tail) = 93
   ·rw [if_pos he] at h
    cases h
    exact fin [] (by simp) rfl trivial
   rw [if_neg he] at h
   have key : ∀ (m : Nat) (acc : List VT) (l : List UInt8) (n : Int) (xs : List VT) (l' : List UInt8) (n' : Int),ritems (rdV k (depth + 1)) m acc l n = some (xs,l',n') → ∃ ys,xs = acc ++ ys ∧ ys.length ≤ m ∧ partL n depth ys = (0,n') ∧ FitL ys := by
    intro m
    induction m with
    | zero => intro acc l n xs l' n' h; cases h
    | succ m ihm =>
     intro acc l n xs l' n' h
     unfold ritems at h
     cases hx : rdV k (depth + 1) l n with
     | none => rw [hx] at h; cases h
     | some y =>
      obtain ⟨z,l1,n1⟩ := y
      rw [hx] at h
      dsimp only at h
      obtain ⟨z1,z2⟩ := ih _ _ _ _ _ _ hx
      split at h
      ·cases h
       exact ⟨[z],rfl,by simp,by simp [partL,z1],⟨z2,trivial⟩⟩
      ·split at h
       ·obtain ⟨ys,y1,y2,y3,y4⟩ := ihm _ _ _ _ _ _ h
        refine ⟨z :: ys,by rw [y1,List.append_assoc]; rfl,by simp; omega,?_,⟨z2,y4⟩⟩
        simp only [partL,z1]
        rw [if_neg (by simp)]; exact y3
       ·cases h
   cases hi : ritems (rdV k (depth + 1)) 6 [] (blanksM l.tail) (n + 1) with
   | none => rw [hi] at h; cases h
   | some y =>
    obtain ⟨xs,l2,n2⟩ := y
    rw [hi] at h
    cases h
    obtain ⟨ys,y1,y2,y3,y4⟩ := key _ _ _ _ _ _ _ hi
    rw [List.nil_append] at y1
    subst y1
    exact fin xs y2 y3 y4
  rw [if_neg k3] at h
  cases hi : rintM l with
  | none => rw [hi] at h; cases h
  | some y =>
   obtain ⟨v,r⟩ := y
   rw [hi] at h
   cases h
   refine ⟨part_flat n depth 1 v (bytesL []) c1 (by decide) (by decide) (fun h => absurd rfl h) (fun _ => bytesL_nil) (by decide),?_⟩
   rw [Fit_def]
   exact ⟨by show Rng 1; unfold Rng; decide,rintM_rng hi,bs0,trivial⟩
end Go.Proofs.YtmdmomccibpjbaaGreatDoor.V
namespace Go.Proofs.YtmdmomccibpjbaaGreatDoor.V
open Go Tr
open Go.Lib (decodeL)
set_option maxRecDepth 100000
theorem escX_is (l : List UInt8) : escM l = (escX l).toOption := by
 unfold escM escX
 by_cases h1 : pk l = 34
 ·rw [if_pos h1,if_pos h1]; rfl
 rw [if_neg h1,if_neg h1]
 by_cases h2 : pk l = 92
 ·rw [if_pos h2,if_pos h2]; rfl
 rw [if_neg h2,if_neg h2]
 by_cases h3 : pk l = 110
 ·rw [if_pos h3,if_pos h3]; rfl
 rw [if_neg h3,if_neg h3]
 by_cases h4 : pk l = 116
 ·rw [if_pos h4,if_pos h4]; rfl
 rw [if_neg h4,if_neg h4]
 by_cases h5 : pk l = 120
 ·rw [if_pos h5,if_pos h5]
  cases hexP (pk l.tail) <;> cases hexP (pk l.tail.tail) <;> rfl
 ·rw [if_neg h5,if_neg h5]; rfl
theorem readX_is : ∀ (k : Nat) (acc l : List UInt8),readQ k acc l = (readX k acc l).toOption
 | 0,_,_ => rfl
 | k + 1,acc,l => by
  by_cases h1 : pk l = 34
  ·rw [readQ_end _ _ _ h1,readX_end _ _ _ h1]; rfl
  by_cases h2 : pk l = 92
  ·rw [readQ_back _ _ _ h2,readX_back _ _ _ h2,escX_is]
   cases escX l.tail with
   | error e => rfl
   | ok y => exact readX_is k _ _
  by_cases h3 : 32 ≤ pk l ∧ pk l ≤ 126
  ·rw [readQ_plain _ _ _ h1 h2 h3,readX_plain _ _ _ h1 h2 h3]
   exact readX_is k _ _
  ·rw [readQ_rune _ _ _ h1 h2 h3,readX_rune _ _ _ h1 h2 h3]
   by_cases h4 : pk l < 128 ∨ (decodeL l).2 < 2
   ·rw [if_pos h4,if_pos h4]; rfl
   ·rw [if_neg h4,if_neg h4]
    exact readX_is k _ _
theorem rtextX_is (l : List UInt8) : rtextM l.tail = (rtextX l).toOption := by
 unfold rtextM rtextX
 rw [readX_is]
 cases readX (l.tail.length + 1) [] l.tail with
 | error e => rfl
 | ok y =>
  obtain ⟨b,r⟩ := y
  show (if b.length > 24 then none else _) = _
  dsimp only
  by_cases h : b.length > 24
  ·rw [if_pos h,if_pos h]; rfl
  ·rw [if_neg h,if_neg h]; rfl
theorem rdigX_is (f : Nat) (neg : Bool) (l : List UInt8) : rdigM neg l = (rdigX f neg l).toOption := by
 unfold rdigM rdigX
 by_cases h : pk l = 48
 ·rw [if_pos h,if_pos h]
  cases neg <;> rfl
 rw [if_neg h,if_neg h]
 by_cases h2 : l.takeWhile isDig = []
 ·rw [if_pos h2,if_pos h2]; rfl
 rw [if_neg h2,if_neg h2]
 cases numM neg (l.takeWhile isDig) <;> rfl
theorem rintX_is (l : List UInt8) : rintM l = (rintX l).toOption := by
 unfold rintM rintX
 by_cases h : pk l = 45
 ·rw [if_pos h,if_pos h]; exact rdigX_is _ _ _
 ·rw [if_neg h,if_neg h]; exact rdigX_is _ _ _
theorem wantX_is : ∀ (w l : List UInt8),(∀ c ∈ w,c ≠ 0) → (if l.take w.length = w then some (l.drop w.length) else none) = (wantX w l).toOption
 | [],l,_ => by simp [wantX,Except.toOption]
 | c :: w,l,h => by
  have hc := h c (.head _)
  have hc0 : c.toNat ≠ 0 := fun e => hc (UInt8.toNat_inj.1 (by rw [e]; rfl))
  unfold wantX
  cases l with
  | nil =>
   rw [if_neg (by simp),if_neg (by show ¬ (0 : Nat) = _; omega)]
   rfl
  | cons d l =>
   have ih := wantX_is w l (fun c hc => h c (.tail _ hc))
   by_cases e : d = c
   ·subst e
    rw [if_pos (show pk (d :: l) = d.toNat from rfl),List.tail_cons,← ih]
    simp
   ·rw [if_neg (show ¬ pk (d :: l) = c.toNat from fun h => e (UInt8.toNat_inj.1 h)),if_neg (by simp [e])]
    rfl
theorem ritemsX_is (f : List UInt8 → Int → Option (VT × List UInt8 × Int)) (g : List UInt8 → Int → Except Flt (VT × List UInt8 × Int)) (h : ∀ l n,f l n = (g l n).toOption) :
  ∀ (m : Nat) (acc : List VT) (l : List UInt8) (n : Int),ritems f m acc l n = (ritemsX g m acc l n).toOption
 | 0,_,_,_ => rfl
 | m + 1,acc,l,n => by
  unfold ritems ritemsX
  rw [h]
  cases g l n with
  | error e => rfl
  | ok y =>
   obtain ⟨x,l1,n1⟩ := y
   show (if pk (blanksM l1) = 93 then _ else _) = _
   dsimp only
   by_cases h1 : pk (blanksM l1) = 93
   ·rw [if_pos h1,if_pos h1]; rfl
   rw [if_neg h1,if_neg h1]
   by_cases h2 : pk (blanksM l1) = 44
   ·rw [if_pos h2,if_pos h2]
    by_cases h3 : m = 0
    ·rw [if_pos h3]; subst h3; rfl
    ·rw [if_neg h3]; exact ritemsX_is f g h m _ _ _
   ·rw [if_neg h2,if_neg h2]; rfl
theorem rlistX_is (f : List UInt8 → Int → Option (VT × List UInt8 × Int)) (g : List UInt8 → Int → Except Flt (VT × List UInt8 × Int)) (h : ∀ l n,f l n = (g l n).toOption) (depth : Int) (l : List UInt8) (n : Int) :
  rlistM f depth l n = (rlistX g depth l n).toOption := by
 unfold rlistM rlistX
 by_cases h1 : depth ≥ 3
 ·rw [if_pos h1,if_pos h1]; rfl
 rw [if_neg h1,if_neg h1]
 by_cases h2 : pk (blanksM l.tail) = 93
 ·rw [if_pos h2,if_pos h2]; rfl
 rw [if_neg h2,if_neg h2,ritemsX_is f g h]
 cases ritemsX g 6 [] (blanksM l.tail) n with
 | error e => rfl
 | ok y => rfl
theorem rdX_is : ∀ (k : Nat) (depth : Int) (l : List UInt8) (n : Int),rdV k depth l n = (rdX k depth l n).toOption
 | 0,_,_,_ => rfl
 | k + 1,depth,l,n => by
  rw [rdV_succ,rdX_succ]
  by_cases h1 : begs (pk l) = false
  ·rw [if_pos h1,if_pos h1]; rfl
  rw [if_neg h1,if_neg h1]
  by_cases h2 : n + 1 > 12
  ·rw [if_pos h2,if_pos h2]; rfl
  rw [if_neg h2,if_neg h2]
  by_cases h3 : pk l = 110
  ·rw [if_pos h3,if_pos h3]
   have := wantX_is [110,111,110,101] l (by decide)
   cases hw : wantX [110,111,110,101] l with
   | error e =>
    rw [hw] at this
    have hn : ¬ l.take 4 = [110,111,110,101] := fun e => by
     rw [if_pos (show l.take [(110 : UInt8),111,110,101].length = _ from e)] at this
     cases this
    rw [if_neg hn]; rfl
   | ok r =>
    rw [hw] at this
    by_cases hn : l.take 4 = [110,111,110,101]
    ·rw [if_pos (show l.take [(110 : UInt8),111,110,101].length = _ from hn)] at this
     rw [if_pos hn]
     have e : l.drop 4 = r := by simpa [Except.toOption] using this
     rw [e]; rfl
    ·rw [if_neg (show ¬ l.take [(110 : UInt8),111,110,101].length = _ from hn)] at this
     cases this
  rw [if_neg h3,if_neg h3]
  by_cases h4 : pk l = 34
  ·rw [if_pos h4,if_pos h4,rtextX_is]
   cases rtextX l <;> rfl
  rw [if_neg h4,if_neg h4]
  by_cases h5 : pk l = 91
  ·rw [if_pos h5,if_pos h5]
   exact rlistX_is _ _ (fun l n => rdX_is k (depth + 1) l n) depth l (n + 1)
  rw [if_neg h5,if_neg h5,rintX_is]
  cases rintX l <;> rfl
theorem rdX_ok {k : Nat} {depth : Int} {l : List UInt8} {n : Int} {y : VT × List UInt8 × Int} (h : rdX k depth l n = .ok y) : rdV k depth l n = some y := by rw [rdX_is,h]; rfl
end Go.Proofs.YtmdmomccibpjbaaGreatDoor.V
