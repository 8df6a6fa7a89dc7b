/- The parser's pieces: giving up, numbers, the calls' table, words. -/
import Derived.Test.YtkebljkdkaagfaaGreatDoorPmd
import Derived.Test.YtkebljkdkaagfaaGreatDoorRdz
namespace Go.Proofs.YtkebljkdkaagfaaGreatDoor.E
open Go Tr
open V (rest rest_cases restL sizeB pk_rest cx_i cp_i)
set_option maxRecDepth 100000
set_option maxHeartbeats 1000000
abbrev tPars : TypeId := 99
abbrev tTok : TypeId := 97
abbrev tBlt : TypeId := 120
/-! the tree of function 48 -/
def s48 : Script := .nil
theorem t48 (qx0 : Int) (qx1 : Int) : fnT Tryz.prog Tryz.f48 #[.int .i64 qx0, .int .i64 qx1] s48 = .new (.cells #[.int .i64 0, .int .i64 qx1, .iface 32 (.int .i64 qx0)] 103 (0, 0)) (fun n1 => .done (.panicked [⟨.iface 93 (.pointer (some ⟨n1, 0, none⟩)), false, false⟩])) := by kernel_rfl
/-! the tree of function 58 -/
abbrev fx58_1 (qa0 : Addr) (qa1 : Addr) : List (Tmp × Value) := [(0, .pointer (some qa0)), (1, .pointer (some qa1))]
abbrev m58_1 : List (Tmp × Comp) := []
abbrev mx58_1 : List (Tmp × Comp) := []
abbrev mr58_1 : List (Tmp × Comp) := []
abbrev fx58_2 (qa0 : Addr) (qa1 : Addr) : List (Tmp × Value) := [(0, .pointer (some qa0)), (1, .pointer (some qa1))]
abbrev mx58_2 : List (Tmp × Comp) := [(41, .leaf .bool)]
def s58_2 : Script := .qt (.ld (.int .i64) (.ld .str (.sym (.lit (.lit (.lit (.ld .str (.lit (.lit (.lit (.lit (.ld (.int .i64) (.lit (.ix (.lit (.lit (.sym (.lit (.lit (.lit (.ld .str (.lit (.lit (.lit (.lit (.ld (.int .i64) (.lit (.ix (.lit (.lit .nil))))))))))))) (.lit (.lit (.lit (.lit (.lit (.lit (.lit (.lit (.lit (.lit .nil)))))))))))))))))))))))) (.lit (.lit (.lit (.lit (.lit (.lit (.lit (.lit (.lit (.lit (.lit (.lit (.lit (.lit (.lit (.lit (.lit (.lit (.lit (.lit (.lit .nil))))))))))))))))))))))))
theorem t58_2 (qa0 : Addr) (qa1 : Addr) (gg2 : Nat → Value) : pieceT Tryz.prog (at_ Tryz.f58 [1, 0, 0, 0, 0]) 83 (fx58_2 qa0 qa1) gg2 (mx58_2.map (·.1)) [] [] s58_2 = .drawn (.load (qa0.add 1) (.int .i64) (fun x3 => .load qa0 .str (fun s4 => .br (Decidable.decide (x3 < (↑s4.size : Int))) (.load qa0 .str (fun s5 => .load (qa0.add 1) (.int .i64) (fun x6 => .bidx s5 x6 (fun c7 => .br (Decidable.decide (c7 ≥ 48)) (.load qa0 .str (fun s8 => .load (qa0.add 1) (.int .i64) (fun x9 => .bidx s8 x9 (fun c10 => .undrawn (.fin .normal [(41, .bool (Decidable.decide (c10 ≤ 57)))]))))) (.undrawn (.fin .normal [(41, .bool false)])))))) (.undrawn (.fin .normal [(41, .bool false)]))))) := by kernel_rfl
abbrev fx58_15 (qa0 : Addr) (qa1 : Addr) (c14 : Int) : List (Tmp × Value) := [(0, .pointer (some qa0)), (1, .pointer (some qa1)), (4, .int .i64 (IntKind.i64.wrap (IntKind.u8.wrap (c14 - 48))))]
abbrev mx58_15 : List (Tmp × Comp) := []
def s58_15 : Script := .ld (.int .i64) (.sym (.ld (.int .i64) (.clx .nil)) .nil)
theorem t58_15 (qa0 : Addr) (qa1 : Addr) (c14 : Int) (gg15 : Nat → Value) : pieceT Tryz.prog (at_ Tryz.f58 [1, 0, 0, 1, 0, 1, 0]) 83 (fx58_15 qa0 qa1 c14) gg15 (mx58_15.map (·.1)) [] [] s58_15 = .load (qa1.add 3) (.int .i64) (fun x16 => .br (Decidable.decide (x16 > IntKind.i64.wrap ((IntKind.i64.wrap (9223372036854775807 - IntKind.i64.wrap (IntKind.u8.wrap (c14 - 48)))).tdiv 10))) (.load (qa1.add 1) (.int .i64) (fun x17 => .callx 48 #[.int .i64 32, .int .i64 x17] (fun ch18 => .done (.panicked ch18)))) (.fin .normal [])) := by kernel_rfl
def s58_1 : Script := .ct 1 [0, 1] mx58_2 (.sym (.qt (.ld .str (.ld (.int .i64) (.ix (.ct 0 [0, 1, 4] mx58_15 (.ld (.int .i64) (.ld (.int .i64) .nil))))))) .nil)
theorem t58_1 (qa0 : Addr) (qa1 : Addr) (gg1 : Nat → Value) : pieceT Tryz.prog (at_ Tryz.f58 [1, 0, 0]) 83 (fx58_1 qa0 qa1 ++ mvals m58_1 (())) gg1 (m58_1.map (·.1)) (mx58_1.map (·.1)) (mr58_1.map (·.1)) s58_1 = .cut (at_ Tryz.f58 [1, 0, 0, 0, 0]) 83 (fx58_2 qa0 qa1) mx58_2 (fun u11 g11 => .br u11.1 (.drawn (.load qa0 .str (fun s12 => .load (qa0.add 1) (.int .i64) (fun x13 => .bidx s12 x13 (fun c14 => .undrawn (.cut (at_ Tryz.f58 [1, 0, 0, 1, 0, 1, 0]) 83 (fx58_15 qa0 qa1 c14) mx58_15 (fun u19 g19 => .load (qa1.add 3) (.int .i64) (fun x20 => .store (qa1.add 3) (.int .i64 (IntKind.i64.wrap (IntKind.i64.wrap (10 * x20) + IntKind.i64.wrap (IntKind.u8.wrap (c14 - 48))))) (.load (qa0.add 1) (.int .i64) (fun x21 => .store (qa0.add 1) (.int .i64 (IntKind.i64.wrap (x21 + 1))) (.fin .normal []))))))))))) (.fin (.exit 0) [])) := by kernel_rfl
def s58 : Script := .lp 0 [0, 1] [] mx58_1 mr58_1 .nil .nil
theorem t58 (qa0 : Addr) (qa1 : Addr) : fnT Tryz.prog Tryz.f58 #[.pointer (some qa0), .pointer (some qa1)] s58 = .store qa1 (.int .i64 1) (.loop (at_ Tryz.f58 [1, 0, 0]) 83 (fx58_1 qa0 qa1) [] mx58_1 mr58_1 0 (fun u22 g22 => .done (.returned (.tuple #[]))) (fun u23 g23 => .stuck)) := by kernel_rfl
/-- A fault was thrown; it lies in new memory. -/
def Thrown (w w' : World) (e : Ending) (c a : Int) : Prop :=
  ∃ fb, w.heap.size ≤ fb ∧ e = .panicked [⟨.iface tFaultP (.pointer (some ⟨fb, 0, none⟩)), false, false⟩] ∧ Blk w' fb [.int .i64 0, .int .i64 a, .iface tErrno (.int .i64 c)] tFault
theorem Thrown.from {w0 w w' : World} {e : Ending} {c a : Int} (h : Thrown w w' e c a) (hs : w0.heap.size ≤ w.heap.size) : Thrown w0 w' e c a := by
  obtain ⟨fb, h1, h2, h3⟩ := h
  exact ⟨fb, Nat.le_trans hs h1, h2, h3⟩
theorem giveUp_any (c a : Int) (w : World) : Calls Tryz.prog 48 #[.int .i64 c, .int .i64 a] w fun e w' => Ch No w w' ∧ Thrown w w' e c a := by
  refine calls_of_fnT mixed Tryz.func48 (s := s48) ?_
  rw [t48]
  exact nw fun w1 h1 z1 b1 => ⟨h1, _, Nat.le_refl _, rfl, b1⟩
/-- The cells behind a parser's text and place. -/
structure PQ where
  k : Int
  a : Int
  t : ByteArray
  n : Int
  hv : Bool
  op : Int
def PB (w : World) (b : Nat) (s : ByteArray) (i : Nat) (q : PQ) : Prop := Blk w b [.string s, .int .i64 (i : Nat), .int .i64 q.k, .int .i64 q.a, .string q.t, .int .i64 q.n, .bool q.hv, .int .i64 q.op] tPars
theorem PB.ch {S : Nat → Prop} {w w' : World} {b : Nat} {s : ByteArray} {i : Nat} {q : PQ} (h : PB w b s i q) (hc : Ch S w w') (hn : ¬ S b) : PB w' b s i q := Blk.ch h hc hn
theorem PB.c0 {w : World} {b : Nat} {s : ByteArray} {i : Nat} {q : PQ} (h : PB w b s i q) : w.cell? ⟨b, 0, none⟩ = some (.string s) := Blk.cell h 0
theorem PB.c1 {w : World} {b : Nat} {s : ByteArray} {i : Nat} {q : PQ} (h : PB w b s i q) : w.cell? ⟨b, 1, none⟩ = some (.int .i64 (i : Nat)) := Blk.cell h 1
def TB (w : World) (n : Nat) (k a : Int) (t : Txt) (x : Int) : Prop := Blk w n [.int .i64 k, .int .i64 a, .string (bytesL t), .int .i64 x] tTok
/-- The measure of a loop that goes through the parser's text. -/
def left_ (b : Nat) (s : ByteArray) (w : World) : Nat := match w.cell? ⟨b, 1, none⟩ with
  | some (.int _ x) => s.size - x.toNat
  | _ => 0
theorem left_at {w : World} {b : Nat} {s : ByteArray} {i : Nat} {q : PQ} (h : PB w b s i q) : left_ b s w = s.size - i := by
  unfold left_
  rw [h.c1]
  rfl
section
variable {R : Ending → World → Prop} {Q : Exit → List (Tmp × Value) → World → Prop} {w : World}
/-- The place is one farther. -/
theorem st_next {b : Nat} {s : ByteArray} {i : Nat} {q : PQ} (hb : PB w b s i q) (hi : i < 1000) {k : T} (h : ∀ w1, Ch (· = b) w w1 → PB w1 b s (i + 1) q → wpT Tryz.prog R Q k .pl w1) :
    wpT Tryz.prog R Q (.store ⟨b, 1, none⟩ (.int .i64 (IntKind.i64.wrap ((i : Int) + 1))) k) .pl w := by
  have hw : IntKind.i64.wrap ((i : Int) + 1) = ((i + 1 : Nat) : Int) := by rw [IntKind.wrap_i64]; omega
  rw [hw]
  exact st_blk hb (by simp) rfl fun w1 h1 z1 b1 => h w1 h1 b1
def hdP (lo hi : Int) : Txt → Bool
  | [] => false
  | c :: _ => decide (lo ≤ (c.toNat : Int)) && decide ((c.toNat : Int) ≤ hi)
theorem hdP_cons (lo up : Int) (c : UInt8) (r : Txt) : hdP lo up (c :: r) = (decide (lo ≤ (c.toNat : Int)) && decide ((c.toNat : Int) ≤ up)) := rfl
theorem dg_i {b : Nat} {s : ByteArray} {i : Nat} {q : PQ} (hb : PB w b s i q) (hi : i ≤ s.size) (lo up : Int) {K : Bool → T} (h : wpT Tryz.prog R Q (K (hdP lo up (rest s i))) .pl w.drew) :
    wpT Tryz.prog R Q (.drawn (.load ⟨b, 1, none⟩ (.int .i64) (fun x3 => .load ⟨b, 0, none⟩ .str (fun s4 => .br (Decidable.decide (x3 < (↑s4.size : Int)))
      (.load ⟨b, 0, none⟩ .str (fun s5 => .load ⟨b, 1, none⟩ (.int .i64) (fun x6 => .bidx s5 x6 (fun c7 => .br (Decidable.decide (c7 ≥ lo))
        (.load ⟨b, 0, none⟩ .str (fun s8 => .load ⟨b, 1, none⟩ (.int .i64) (fun x9 => .bidx s8 x9 (fun c10 => .undrawn (K (Decidable.decide (c10 ≤ up)))))))
        (.undrawn (K false))))))
      (.undrawn (K false)))))) .pl w := by
  have b1 : PB w.drew b s i q := hb.ch (Ch.refl No w).drew (fun h => h)
  refine dr_eq (lq_int b1.c1 (lq_str b1.c0 (br_both (fun e => ?_) fun e => ?_)))
  · have e := lt_t e
    have hlt : i < s.size := by omega
    have hr := pk_rest hlt
    refine lq_str b1.c0 (lq_int b1.c1 (bi_i (by omega) hlt (br_both (fun e => ?_) fun e => ?_)))
    · have e := ge_t e
      refine lq_str b1.c0 (lq_int b1.c1 (bi_i (by omega) hlt (un_eq ?_)))
      have hv : hdP lo up (rest s i) = decide ((((s[i]'hlt).toNat : Nat) : Int) ≤ up) := by
        rw [hr, hdP_cons, decide_eq_true (show lo ≤ (((s[i]'hlt).toNat : Nat) : Int) from e), Bool.true_and]
      rw [hv] at h
      exact h
    · have e := ge_f e
      have hv : hdP lo up (rest s i) = false := by
        rw [hr, hdP_cons, decide_eq_false (show ¬ lo ≤ (((s[i]'hlt).toNat : Nat) : Int) from by have e' : (((s[i]'hlt).toNat : Nat) : Int) < lo := e; omega), Bool.false_and]
      rw [hv] at h
      exact un_eq h
  · have e := lt_f e
    rcases rest_cases s i hi with ⟨hr, _⟩ | ⟨hlt, _⟩
    · rw [hr] at h
      exact un_eq h
    · omega
end
theorem hdP_dig (c : UInt8) (r : Txt) : hdP 48 57 (c :: r) = isD c := by
  rw [hdP_cons, isD, decide_eq_decide.2 (show (48 : Int) ≤ (c.toNat : Int) ↔ 48 ≤ c.toNat by omega), decide_eq_decide.2 (show (c.toNat : Int) ≤ 57 ↔ c.toNat ≤ 57 by omega)]
theorem hdP_low (c : UInt8) (r : Txt) : hdP 97 122 (c :: r) = isL c := by
  rw [hdP_cons, isL, decide_eq_decide.2 (show (97 : Int) ≤ (c.toNat : Int) ↔ 97 ≤ c.toNat by omega), decide_eq_decide.2 (show (c.toNat : Int) ≤ 122 ↔ c.toNat ≤ 122 by omega)]
theorem numB_dig {c : UInt8} (h : isD c = true) (x : Nat) (r : Txt) : numB x (c :: r) = if (9223372036854775807 - (c.toNat - 48)) / 10 < x then none else numB (10 * x + (c.toNat - 48)) r := by
  rw [numB, if_pos h]
theorem numB_end {c : UInt8} (h : isD c = false) (x : Nat) (r : Txt) : numB x (c :: r) = some (x, c :: r) := by
  rw [numB, if_neg (by rw [h]; exact Bool.false_ne_true)]
theorem isD_iff {c : UInt8} : isD c = true ↔ 48 ≤ c.toNat ∧ c.toNat ≤ 57 := by
  rw [isD, Bool.and_eq_true, decide_eq_true_eq, decide_eq_true_eq]
theorem num_le {x d : Nat} (h : ¬ (9223372036854775807 - d) / 10 < x) (hd : d ≤ 9) : 10 * x + d ≤ 9223372036854775807 := by omega
theorem num_step {x d : Nat} (h : ¬ (9223372036854775807 - d) / 10 < x) (hd : d ≤ 9) : IntKind.i64.wrap (IntKind.i64.wrap (10 * ((x : Nat) : Int)) + ((d : Nat) : Int)) = ((10 * x + d : Nat) : Int) := by
  have h1 := num_le h hd
  have h2 : 10 * (x : Int) + (d : Int) ≤ 9223372036854775807 := by omega
  rw [wrap_in (x := 10 * (x : Int)) (by omega) (by omega), wrap_in (by omega) (by omega)]
  omega
theorem number_any (w : World) (b n : Nat) (s : ByteArray) (i : Nat) (q : PQ) (at_ : Int) (hb : PB w b s i q) (hn : TB w n 0 at_ [] 0) (hne : b ≠ n) (hi : i ≤ s.size) (hs : s.size ≤ 100) :
    Calls Tryz.prog 58 #[.pointer (some ⟨b, 0, none⟩), .pointer (some ⟨n, 0, none⟩)] w fun e w' => Ch (fun k => k = b ∨ k = n) w w' ∧ match numB 0 (rest s i) with
      | none => Thrown w w' e 32 at_
      | some (x, r) => e = .returned (.tuple #[]) ∧ ∃ j, i ≤ j ∧ j ≤ s.size ∧ r = rest s j ∧ PB w' b s j q ∧ TB w' n 1 at_ [] (x : Nat) := by
  refine calls_of_fnT mixed Tryz.func58 (s := s58) ?_
  rw [t58]
  refine st_blk hn (by simp) rfl fun w1 h1 z1 n1 => ?_
  have b1 := hb.ch h1 (fun e => hne e)
  refine loop_i mixed m58_1 s58_1 (by kernel_rfl) (by kernel_rfl)
    (fun (_ : Unit) w' => ∃ j x : Nat, i ≤ j ∧ j ≤ s.size ∧ x ≤ 9223372036854775807 ∧ PB w' b s j q ∧ TB w' n 1 at_ [] (x : Nat) ∧ Ch (fun k => k = b ∨ k = n) w w' ∧ numB 0 (rest s i) = numB x (rest s j))
    (fun (_ : Unit) w' => left_ b s w') () rfl ⟨i, 0, Nat.le_refl _, hi, by omega, b1, n1, h1.mono fun k h => .inr h, rfl⟩ ?_
  rintro ⟨⟩ g w2 ⟨j, x, hij, hj, hx, b2, n2, h2, hm⟩
  rw [t58_1]
  simp only [addr_add, Nat.zero_add]
  refine cut_i mixed s58_2 (fun (v : Bool × Unit) w' => w' = w2.drew ∧ v.1 = hdP 48 57 (rest s j)) (by kernel_rfl) (fun g => ?_) ?_
  · rw [t58_2]
    simp only [addr_add, Nat.zero_add]
    exact dg_i b2 hj 48 57 (K := fun v => .fin .normal [(_, .bool v)]) ⟨rfl, (_, ()), rfl, rfl, rfl⟩
  rintro ⟨u, ⟨⟩⟩ g w3 ⟨rfl, hu⟩
  dsimp only at hu
  subst hu
  have hd := (Ch.refl No w2).drew
  have b3 := b2.ch hd (fun h => h)
  have n3 : TB w2.drew n 1 at_ [] (x : Nat) := Blk.ch n2 hd (fun h => h)
  have h3 := h2.trans hd.no
  have l3 : left_ b s w2 = s.size - j := left_at b2
  generalize w2.drew = w3 at *
  refine br_both (fun e => ?_) fun e => ?_
  · rcases rest_cases s j hj with ⟨hr, _⟩ | ⟨hlt, hr⟩
    · rw [hr] at e; cases e
    obtain ⟨c, hc⟩ : ∃ c, c = s[j]'hlt := ⟨_, rfl⟩
    rw [hr, ← hc, hdP_dig] at e
    rw [hr, ← hc] at hm
    have e0 := isD_iff.1 e
    have hnum := numB_dig e x (rest s (j + 1))
    have hd3 := (Ch.refl No w3).drew
    have b4 := b3.ch hd3 (fun h => h)
    have n4 : TB w3.drew n 1 at_ [] (x : Nat) := Blk.ch n3 hd3 (fun h => h)
    have h4 := h3.trans hd3.no
    refine dr_eq (lq_str b4.c0 (lq_int b4.c1 (bi_i (by omega) hlt (un_eq ?_))))
    generalize w3.drew = w4 at *
    rw [show s[((j : Nat) : Int).toNat]'hlt = c from hc.symm]
    clear hc hr
    have hD : IntKind.i64.wrap (IntKind.u8.wrap ((c.toNat : Int) - 48)) = ((c.toNat - 48 : Nat) : Int) := by
      rw [show IntKind.u8.wrap ((c.toNat : Int) - 48) = ((c.toNat - 48 : Nat) : Int) by rw [IntKind.wrap_u8']; omega, IntKind.wrap_i64]
      omega
    have hT : IntKind.i64.wrap ((IntKind.i64.wrap (9223372036854775807 - ((c.toNat - 48 : Nat) : Int))).tdiv 10) = (((9223372036854775807 - (c.toNat - 48)) / 10 : Nat) : Int) := by
      rw [IntKind.wrap_i64, IntKind.wrap_i64, Int.tdiv_eq_ediv_of_nonneg (by omega)]
      omega
    refine cut_i mixed s58_15 (fun (_ : Unit) w' => w' = w4 ∧ ¬ (9223372036854775807 - (c.toNat - 48)) / 10 < x) (by kernel_rfl) (fun g => ?_) ?_
    · rw [t58_15]
      simp only [addr_add, Nat.zero_add]
      rw [hD, hT]
      refine ld_int (Blk.cell n4 3) (br_both (fun e => ?_) fun e => ?_)
      · have e := gt_t e
        refine ld_int (Blk.cell n4 1) (cx_i (giveUp_any _ _ w4) ?_)
        rintro r w5 ⟨h5, ht⟩
        obtain ⟨fb, f1, rfl, f3⟩ := ht
        refine ⟨_, rfl, h4.trans h5.no, ?_⟩
        rw [hm, hnum, if_pos (by omega)]
        exact ⟨fb, Nat.le_trans h4.size f1, rfl, f3⟩
      · have e := gt_f e
        exact ⟨rfl, (), rfl, rfl, by omega⟩
    rintro ⟨⟩ g w5 ⟨rfl, hle⟩
    rw [hnum, if_neg hle] at hm
    rw [hD]
    have hw : IntKind.i64.wrap (IntKind.i64.wrap (10 * ((x : Nat) : Int)) + ((c.toNat - 48 : Nat) : Int)) = ((10 * x + (c.toNat - 48) : Nat) : Int) := num_step hle (by omega)
    refine ld_int (Blk.cell n4 3) ?_
    rw [hw]
    refine st_blk n4 (by simp) rfl fun w6 h6 z6 n6 => ?_
    have b6 := b4.ch h6 (fun e => hne e)
    refine ld_int b6.c1 (st_next b6 (by omega) fun w7 h7 b7 => ?_)
    refine ⟨(), rfl, ⟨j + 1, 10 * x + (c.toNat - 48), by omega, by omega, num_le hle (by omega), b7, Blk.ch n6 h7 (fun e => hne e.symm), h4.trans ((h6.mono fun k h => .inr h).trans (h7.mono fun k h => .inl h)), hm⟩, ?_⟩
    show left_ b s w7 < left_ b s w2
    rw [left_at b7, l3]
    omega
  · refine ⟨rfl, (), rfl, fun g => ⟨h3, ?_⟩⟩
    rw [hm]
    rcases rest_cases s j hj with ⟨hr, hje⟩ | ⟨hlt, hr⟩
    · rw [hr]
      exact ⟨rfl, j, hij, hj, hr.symm, b3, n3⟩
    · rw [hr, hdP_dig] at e
      rw [hr, numB_end e]
      exact ⟨rfl, j, hij, hj, hr.symm, b3, n3⟩
end Go.Proofs.YtkebljkdkaagfaaGreatDoor.E
