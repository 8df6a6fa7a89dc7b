/- The decoder: text, list, value. -/
import Derived.Test.YtjellmblammiaaaDoorDcw
namespace Go.Proofs.YtjellmblammiaaaDoor
open Go Tr
open Go.RowKit (Below)
set_option maxRecDepth 100000
/-! ### Values whose memory lies in blocks of a kind -/
mutual
def RItB (B : Nat → Prop) (w : World) : VT → Option Addr → Nat → Prop
  | .mk _ _ _ l, p, n => l.length = n ∧ (0 < n → ∃ ad, p = some ad ∧ B ad.block ∧ RLB B w l ad 0)
def RLB (B : Nat → Prop) (w : World) : List VT → Addr → Nat → Prop
  | [], _, _ => True
  | x :: r, ad, j => (∃ p n c, CellsV w (ad.add (j * 4)) x p n c ∧ n ≤ c ∧ c ≤ 9223372036854775807 ∧ RItB B w x p n) ∧ RLB B w r ad (j + 1)
end
theorem RItB_def (B : Nat → Prop) (w : World) (x : VT) (p : Option Addr) (n : Nat) : RItB B w x p n = (x.items.length = n ∧ (0 < n → ∃ ad, p = some ad ∧ B ad.block ∧ RLB B w x.items ad 0)) := by
  cases x
  simp only [RItB, VT.items]
mutual
theorem RItB.is {B : Nat → Prop} {w : World} : ∀ (x : VT) (p : Option Addr) (n : Nat), RItB B w x p n → RIt w x p n
  | .mk _ _ _ l, p, n, h => by
    simp only [RItB] at h
    simp only [RIt]
    refine ⟨h.1, fun hn => ?_⟩
    obtain ⟨ad, e, _, hl⟩ := h.2 hn
    exact ⟨ad, e, RLB.is l ad 0 hl⟩
theorem RLB.is {B : Nat → Prop} {w : World} : ∀ (l : List VT) (ad : Addr) (j : Nat), RLB B w l ad j → RL w l ad j
  | [], _, _, _ => trivial
  | x :: r, ad, j, h => by
    simp only [RLB] at h
    simp only [RL]
    obtain ⟨⟨p, n, c, h1, h2, h3, h4⟩, hr⟩ := h
    exact ⟨⟨p, n, c, h1, h2, h3, RItB.is x p n h4⟩, RLB.is r ad (j + 1) hr⟩
end
theorem CellsV.keep {w w' : World} {S : Nat → Prop} {a : Addr} {x : VT} {p : Option Addr} {n c : Nat} (h : CellsV w a x p n c) (hc : Ch S w w') (hn : ¬ S a.block) : CellsV w' a x p n c :=
  ⟨hc.cellv h.c0 hn, hc.cellv h.c1 (by rw [add_block]; exact hn), hc.cellv h.c2 (by rw [add_block]; exact hn), hc.cellv h.c3 (by rw [add_block]; exact hn)⟩
mutual
theorem RItB.ch {B S : Nat → Prop} {w w' : World} (hc : Ch S w w') (hB : ∀ k, B k → ¬ S k) : ∀ (x : VT) (p : Option Addr) (n : Nat), RItB B w x p n → RItB B w' x p n
  | .mk _ _ _ l, p, n, h => by
    simp only [RItB] at h ⊢
    refine ⟨h.1, fun hn => ?_⟩
    obtain ⟨ad, e, hb, hl⟩ := h.2 hn
    exact ⟨ad, e, hb, RLB.ch hc hB l ad 0 hb hl⟩
theorem RLB.ch {B S : Nat → Prop} {w w' : World} (hc : Ch S w w') (hB : ∀ k, B k → ¬ S k) : ∀ (l : List VT) (ad : Addr) (j : Nat), B ad.block → RLB B w l ad j → RLB B w' l ad j
  | [], _, _, _, _ => trivial
  | x :: r, ad, j, hb, h => by
    simp only [RLB] at h ⊢
    obtain ⟨⟨p, n, c, h1, h2, h3, h4⟩, hr⟩ := h
    exact ⟨⟨p, n, c, h1.keep hc (by rw [add_block]; exact hB _ hb), h2, h3, RItB.ch hc hB x p n h4⟩, RLB.ch hc hB r ad (j + 1) hb hr⟩
end
mutual
theorem RItB.mono {B B' : Nat → Prop} {w : World} (hB : ∀ k, B k → B' k) : ∀ (x : VT) (p : Option Addr) (n : Nat), RItB B w x p n → RItB B' w x p n
  | .mk _ _ _ l, p, n, h => by
    simp only [RItB] at h ⊢
    refine ⟨h.1, fun hn => ?_⟩
    obtain ⟨ad, e, hb, hl⟩ := h.2 hn
    exact ⟨ad, e, hB _ hb, RLB.mono hB l ad 0 hl⟩
theorem RLB.mono {B B' : Nat → Prop} {w : World} (hB : ∀ k, B k → B' k) : ∀ (l : List VT) (ad : Addr) (j : Nat), RLB B w l ad j → RLB B' w l ad j
  | [], _, _, _ => trivial
  | x :: r, ad, j, h => by
    simp only [RLB] at h ⊢
    obtain ⟨⟨p, n, c, h1, h2, h3, h4⟩, hr⟩ := h
    exact ⟨⟨p, n, c, h1, h2, h3, RItB.mono hB x p n h4⟩, RLB.mono hB r ad (j + 1) hr⟩
end
/-- x stands in w as this value; its memory lies in blocks of B. -/
structure IsVB (B : Nat → Prop) (w : World) (x : VT) (p : Option Addr) (n c : Nat) : Prop where
  cap : n ≤ c
  big : c ≤ 9223372036854775807
  its : RItB B w x p n
namespace IsVB
variable {B B' S : Nat → Prop} {w w' : World} {x : VT} {p : Option Addr} {n c : Nat}
theorem is (h : IsVB B w x p n c) : IsV w x p n c := ⟨h.cap, h.big, RItB.is _ _ _ h.its⟩
theorem ch (h : IsVB B w x p n c) (hc : Ch S w w') (hB : ∀ k, B k → ¬ S k) : IsVB B w' x p n c := ⟨h.cap, h.big, RItB.ch hc hB _ _ _ h.its⟩
theorem mono (h : IsVB B w x p n c) (hB : ∀ k, B k → B' k) : IsVB B' w x p n c := ⟨h.cap, h.big, RItB.mono hB _ _ _ h.its⟩
theorem flat (k i : Int) (s : ByteArray) : IsVB B w (.mk k i s []) none 0 0 := ⟨by omega, by omega, by rw [RItB_def]; exact ⟨rfl, fun h => by omega⟩⟩
end IsVB
/-- What the decoder's value and list answer. -/
def DecR (w : World) (nd : Nat) (p : Option Addr) (m c : Nat) (bs : List UInt8) (res : Except Int (VT × List UInt8 × Int)) (e : Ending) (w' : World) : Prop :=
  Ch (· = nd) w w' ∧ match res with
    | .error er => e = .panicked (thrown er 0)
    | .ok (x, l', n') => ∃ q k d i', e = .returned (valV x q k d) ∧ IsVB (fun b => w.heap.size ≤ b ∧ b < w'.heap.size) w' x q k d ∧ DecS w' nd p m c bs i' n' ∧ l' = bs.drop i'
theorem add_add (a : Addr) (i j : Nat) : (a.add i).add j = a.add (i + j) := by
  cases a with
  | mk b o s =>
    cases s with
    | none => rw [addr_add, addr_add, addr_add, Nat.add_assoc]
    | some t =>
      unfold Addr.add
      by_cases hi : i = 0 <;> by_cases hj : j = 0 <;> simp_all [Addr.add] <;> omega
theorem AtB.part {w : World} {p : Option Addr} {m c : Nat} {bs : List UInt8} (h : AtB w p m bs) (hmc : m ≤ c) (lo hi : Nat) (h1 : lo ≤ hi) (h2 : hi ≤ m) :
    AtB w (if c = lo then p else p.map (·.add (lo * 1))) (hi - lo) ((bs.drop lo).take (hi - lo)) := by
  have hl := h.1
  refine ⟨by rw [List.length_take, List.length_drop]; omega, fun hn => ?_⟩
  obtain ⟨ad, e, hj⟩ := h.2 (by omega)
  rw [if_neg (by omega), e, Nat.mul_one]
  refine ⟨_, rfl, fun j u hu => ?_⟩
  rw [add_add]
  rw [List.getElem?_take] at hu
  split at hu
  · rw [List.getElem?_drop] at hu
    exact hj _ _ hu
  · cases hu
/-! the tree of function 52 -/
abbrev fx52_2 (qa0 : Addr) (x1 : Int) : List (Tmp × Value) := [(0, .pointer (some qa0)), (3, .int .i64 (IntKind.i64.wrap x1))]
abbrev mx52_2 : List (Tmp × Comp) := []
def s52_2 : Script := .sym (.clx .nil) .nil
theorem t52_2 (qa0 : Addr) (x1 : Int) (g : Nat → Value) : pieceT Tryd.prog (at_ Tryd.f52 [1, 1, 0]) 49 (fx52_2 qa0 x1) g (mx52_2.map (·.1)) [] [] s52_2 =
  .br (Decidable.decide (IntKind.i64.wrap x1 > 24))
    (.callx 50 #[.pointer (some qa0), .int .i64 21] (fun ch3 =>
      .done (.panicked ch3)))
    (.fin .normal []) := by kernel_rfl
abbrev fx52_5 (qa0 : Addr) (x1 : Int) : List (Tmp × Value) := [(0, .pointer (some qa0)), (3, .int .i64 (IntKind.i64.wrap x1))]
abbrev mx52_5 : List (Tmp × Comp) := []
def s52_5 : Script := .qt (.ld .sl (.ld (.int .i64) (.sym (.clx .nil) .nil)))
theorem t52_5 (qa0 : Addr) (x1 : Int) (g : Nat → Value) : pieceT Tryd.prog (at_ Tryd.f52 [1, 1, 1, 0]) 49 (fx52_5 qa0 x1) g (mx52_5.map (·.1)) [] [] s52_5 =
  .drawn
    (.load qa0 .sl (fun l6 =>
      .load (qa0.add 1) (.int .i64) (fun x7 =>
        .undrawn
          (.br (Decidable.decide (IntKind.i64.wrap ((↑l6.snd.fst : Int) - x7) < IntKind.i64.wrap x1))
            (.callx 50 #[.pointer (some qa0), .int .i64 28] (fun ch8 =>
              .done (.panicked ch8)))
            (.fin .normal []))))) := by kernel_rfl
def s52 : Script := .clp (.one (.leaf (.int .u8))) (.ct 0 [0, 3] mx52_2 (.ct 0 [0, 3] mx52_5 (.ld (.int .i64) (.qt (.ld .sl (.ld (.int .i64) (.ld (.int .i64) (.nd (.rn (.one (.leaf .str)) .nil))))))))) .nil
theorem t52 (qa0 : Addr) : fnT Tryd.prog Tryd.f52 #[.pointer (some qa0)] s52 =
  .callp 49 #[.pointer (some qa0)] (.one (.leaf (.int .u8))) (fun x1 =>
    .cut (at_ Tryd.f52 [1, 1, 0]) 49 (fx52_2 qa0 x1) mx52_2 (fun u4 g4 =>
      .cut (at_ Tryd.f52 [1, 1, 1, 0]) 49 (fx52_5 qa0 x1) mx52_5 (fun u9 g9 =>
        .load (qa0.add 1) (.int .i64) (fun x10 =>
          .store (qa0.add 1) (.int .i64 (IntKind.i64.wrap (x10 + IntKind.i64.wrap x1)))
            (.drawn
              (.load qa0 .sl (fun l11 =>
                .load (qa0.add 1) (.int .i64) (fun x12 =>
                  .load (qa0.add 1) (.int .i64) (fun x13 =>
                    .need (Decidable.decide (0 ≤ IntKind.i64.wrap (x12 - IntKind.i64.wrap x1) ∧ IntKind.i64.wrap (x12 - IntKind.i64.wrap x1) ≤ x13 ∧ x13 ≤ (↑l11.snd.snd : Int)))
                      (.run (vNext (convert 29 9 (.slice (if l11.snd.snd = (IntKind.i64.wrap (x12 - IntKind.i64.wrap x1)).toNat then l11.fst else Option.map (fun q ↦ q.add ((IntKind.i64.wrap (x12 - IntKind.i64.wrap x1)).toNat * 1)) l11.fst) (x13.toNat - (IntKind.i64.wrap (x12 - IntKind.i64.wrap x1)).toNat) (l11.snd.snd - (IntKind.i64.wrap (x12 - IntKind.i64.wrap x1)).toNat)))) (.one (.leaf .str)) (fun s14 =>
                        .undrawn
                          (.done (.returned (.string s14)))))))))))))) (fun ch15 =>
    .done (.panicked ch15)) := by kernel_rfl

theorem text_any (w : World) (nd : Nat) (p : Option Addr) (m c : Nat) (bs : List UInt8) (i : Nat) (parts : Int) (D : DecS w nd p m c bs i parts) :
    Calls Tryd.prog 52 #[.pointer (some ⟨nd, 0, none⟩)] w fun e w' => Ch (· = nd) w w' ∧ match textM (bs.drop i) with
      | .error er => e = .panicked (thrown er 0)
      | .ok (x, l') => e = .returned (.string x) ∧ ∃ i', DecS w' nd p m c bs i' parts ∧ l' = bs.drop i' := by
  refine calls_of_fnT mixed Tryd.func52 (s := s52) ?_
  rw [t52]
  simp only [addr_add, Nat.zero_add]
  have hl := D.len
  have hle := D.le
  have hcap := D.cap
  have hbig := D.big
  refine cp_i (next_any w nd p m c bs i parts D) ?_
  rintro e w1 ⟨h1, hn⟩
  cases hd : bs.drop i with
  | nil =>
    rw [hd] at hn
    right
    exact ⟨_, hn, h1, rfl⟩
  | cons u l' =>
    rw [hd] at hn
    obtain ⟨rfl, D1, hl'⟩ := hn
    left
    refine ⟨_, rfl, ?_⟩
    have hu := u.toNat_lt
    have hwu : IntKind.i64.wrap (u.toNat : Int) = (u.toNat : Int) := by rw [IntKind.wrap_i64]; omega
    have hle1 := D1.le
    have hll : l'.length = m - (i + 1) := by rw [hl', List.length_drop]; omega
    refine cut_i mixed s52_2 (fun (v : Unit) w' => ¬ u.toNat > 24 ∧ w' = w1) (by kernel_rfl) (fun g => ?_) ?_
    · rw [t52_2, hwu]
      refine br_both (fun e => ?_) fun e => ?_
      · have e : (u.toNat : Int) > 24 := of_decide_eq_true e
        refine cx_i (fail_any _ _ w1) ?_
        rintro r w3 ⟨rfl, rfl⟩
        refine ⟨_, rfl, h1, ?_⟩
        unfold textM
        dsimp only
        rw [if_pos (by omega)]
      · have e : ¬ (u.toNat : Int) > 24 := of_decide_eq_false e
        exact ⟨rfl, (), rfl, by omega, rfl⟩
    rintro ⟨⟩ g w2 ⟨h24, rfl⟩
    refine cut_i mixed s52_5 (fun (v : Unit) w' => ¬ l'.length < u.toNat ∧ Ch No w2 w') (by kernel_rfl) (fun g => ?_) ?_
    · rw [t52_5]
      simp only [addr_add, Nat.zero_add]
      refine ⟨fun w'' => Ch No w2 w'', (Ch.refl _ _).drew, ?_⟩
      refine ⟨(p, m, c), fun w'' h => (D1.no h).c0, _, fun w'' h => (D1.no h).c1, fun w'' h => ?_⟩
      have hw2 : IntKind.i64.wrap ((m : Int) - ((i + 1 : Nat) : Int)) = ((m - (i + 1) : Nat) : Int) := by rw [IntKind.wrap_i64]; omega
      rw [hwu]
      refine br_both (fun e => ?_) fun e => ?_
      · have e := of_decide_eq_true e
        dsimp only at e
        rw [hw2] at e
        refine cx_i (fail_any _ _ w'') ?_
        rintro r w3 ⟨rfl, rfl⟩
        refine ⟨_, rfl, h1.trans h.no, ?_⟩
        unfold textM
        dsimp only
        rw [if_neg h24, if_pos (by omega)]
      · have e := of_decide_eq_false e
        dsimp only at e
        rw [hw2] at e
        exact ⟨rfl, (), rfl, by omega, h⟩
    rintro ⟨⟩ g w3 ⟨hlen, h3⟩
    have D3 := D1.no h3
    refine ld_int D3.c1 ?_
    have hw4 : IntKind.i64.wrap (((i + 1 : Nat) : Int) + IntKind.i64.wrap (u.toNat : Int)) = ((i + 1 + u.toNat : Nat) : Int) := by rw [hwu, IntKind.wrap_i64]; omega
    rw [hw4]
    refine st_blk D3.blk (by simp) rfl fun w4 h4 z4 b4 => ?_
    have D4 : DecS w4 nd p m c bs (i + 1 + u.toNat) parts := D3.set h4 b4 (by omega)
    have hle4 := D4.le
    refine ⟨fun w'' => Ch No w4 w'', (Ch.refl _ _).drew, ?_⟩
    refine ⟨(p, m, c), fun w'' h => (D4.no h).c0, _, fun w'' h => (D4.no h).c1, _, fun w'' h => (D4.no h).c1, ?_⟩
    have hw5 : IntKind.i64.wrap (((i + 1 + u.toNat : Nat) : Int) - IntKind.i64.wrap (u.toNat : Int)) = ((i + 1 : Nat) : Int) := by rw [hwu, IntKind.wrap_i64]; omega
    dsimp only
    rw [hw5, Int.toNat_natCast, Int.toNat_natCast]
    refine ⟨decide_eq_true ⟨by omega, by omega, ?_⟩, ?_⟩
    · show ((i + 1 + u.toNat : Nat) : Int) ≤ (c : Int)
      omega
    have hb : ∀ w'', Ch No w4 w'' → AtB w'' (if c = i + 1 then p else p.map (·.add ((i + 1) * 1))) (i + 1 + u.toNat - (i + 1)) ((bs.drop (i + 1)).take (i + 1 + u.toNat - (i + 1))) := fun w'' h => (D4.no h).byt.part hcap _ _ (by omega) (by omega)
    refine ⟨⟨((bs.drop (i + 1)).take (i + 1 + u.toNat - (i + 1))).toArray⟩, fun w'' h => run_conv (hb w'' h), fun w'' h => ⟨(h1.trans h3.no).trans (h4.trans h.no), ?_⟩⟩
    unfold textM
    dsimp only
    rw [if_neg h24, if_neg hlen, hl', show i + 1 + u.toNat - (i + 1) = u.toNat by omega]
    refine ⟨rfl, _, D4.no h, ?_⟩
    rw [List.drop_drop]
end Go.Proofs.YtjellmblammiaaaDoor
