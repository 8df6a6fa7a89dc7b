/- The decoder: value. -/
import Derived.Test.YtjellmblammiaaaDoorDcy
namespace Go.Proofs.YtjellmblammiaaaDoor
open Go Tr
open Go.RowKit (Below)
set_option maxRecDepth 100000
/-! the tree of function 34 -/
abbrev fx34_4 (qa0 : Addr) (qx1 : Int) (n1 : Nat) (x2 : Int) : List (Tmp × Value) := [(0, .pointer (some qa0)), (1, .int .i64 qx1), (4, .pointer (some ⟨n1, 0, none⟩)), (5, .int .u8 x2)]
abbrev mx34_4 : List (Tmp × Comp) := []
def s34_4 : Script := .ld (.int .i64) (.sym (.clx .nil) (.sym (.clx .nil) (.sym (.lit (.lit (.sym (.clx .nil) .nil))) (.lit (.lit (.lit .nil))))))
theorem t34_4 (qa0 : Addr) (qx1 : Int) (n1 : Nat) (x2 : Int) (g : Nat → Value) : pieceT Tryd.prog (at_ Tryd.f34 [1, 1, 1, 0]) 54 (fx34_4 qa0 qx1 n1 x2) g (mx34_4.map (·.1)) [] [] s34_4 =
  .load (qa0.add 2) (.int .i64) (fun x5 =>
    .br (Decidable.decide (x5 > 12))
      (.callx 50 #[.pointer (some qa0), .int .i64 22] (fun ch6 =>
        .done (.panicked ch6)))
      (.br (Decidable.decide (x2 > 3))
        (.callx 50 #[.pointer (some qa0), .int .i64 28] (fun ch7 =>
          .done (.panicked ch7)))
        (.br (x2 == 3)
          (.br (Decidable.decide (qx1 ≥ 3))
            (.callx 50 #[.pointer (some qa0), .int .i64 23] (fun ch8 =>
              .done (.panicked ch8)))
            (.fin .normal []))
          (.fin .normal [])))) := by kernel_rfl
def s34 : Script := .clp (.one (.leaf (.int .u8))) (.ld (.int .i64) (.ct 0 [0, 1, 4, 5] mx34_4 (.sym (.clp (.one (.leaf (.int .i64))) (.ld (.int .i64) (.ld (.int .i64) (.ld .str (.ld .sl .nil)))) .nil) (.sym (.clp (.one (.leaf .str)) (.ld (.int .i64) (.ld (.int .i64) (.ld .str (.ld .sl .nil)))) .nil) (.sym (.clp (.one (.agg [.int .i64, .int .i64, .str, .sl])) (.ld (.int .i64) (.ld (.int .i64) (.ld .str (.ld .sl .nil)))) .nil) (.ld (.int .i64) (.ld (.int .i64) (.ld .str (.ld .sl .nil))))))))) .nil
theorem t34 (qa0 : Addr) (qx1 : Int) : fnT Tryd.prog Tryd.f34 #[.pointer (some qa0), .int .i64 qx1] s34 =
  .new (.cells #[.int .i64 0, .int .i64 0, .string (bytesL []), .slice none 0 0] 24 (0, 0)) (fun n1 =>
    .callp 49 #[.pointer (some qa0)] (.one (.leaf (.int .u8))) (fun x2 =>
      .load (qa0.add 2) (.int .i64) (fun x3 =>
        .store (qa0.add 2) (.int .i64 (IntKind.i64.wrap (x3 + 1)))
          (.cut (at_ Tryd.f34 [1, 1, 1, 0]) 54 (fx34_4 qa0 qx1 n1 x2) mx34_4 (fun u9 g9 =>
            .br (x2 == 1)
              (.callp 51 #[.pointer (some qa0)] (.one (.leaf (.int .i64))) (fun x10 =>
                .store ⟨n1, 0, none⟩ (.int .i64 1)
                  (.store ⟨n1, 1, none⟩ (.int .i64 x10)
                    (.store ⟨n1, 2, none⟩ (.string (bytesL []))
                      (.store ⟨n1, 3, none⟩ (.slice none 0 0)
                        (.load ⟨n1, 0, none⟩ (.int .i64) (fun x11 =>
                          .load ⟨n1, 1, none⟩ (.int .i64) (fun x12 =>
                            .load ⟨n1, 2, none⟩ .str (fun s13 =>
                              .load ⟨n1, 3, none⟩ .sl (fun l14 =>
                                .done (.returned (.agg #[.int .i64 x11, .int .i64 x12, .string s13, .slice l14.1 l14.2.1 l14.2.2]))))))))))) (fun ch15 =>
                .done (.panicked ch15)))
              (.br (x2 == 2)
                (.callp 52 #[.pointer (some qa0)] (.one (.leaf .str)) (fun s16 =>
                  .store ⟨n1, 0, none⟩ (.int .i64 2)
                    (.store ⟨n1, 1, none⟩ (.int .i64 0)
                      (.store ⟨n1, 2, none⟩ (.string s16)
                        (.store ⟨n1, 3, none⟩ (.slice none 0 0)
                          (.load ⟨n1, 0, none⟩ (.int .i64) (fun x17 =>
                            .load ⟨n1, 1, none⟩ (.int .i64) (fun x18 =>
                              .load ⟨n1, 2, none⟩ .str (fun s19 =>
                                .load ⟨n1, 3, none⟩ .sl (fun l20 =>
                                  .done (.returned (.agg #[.int .i64 x17, .int .i64 x18, .string s19, .slice l20.1 l20.2.1 l20.2.2]))))))))))) (fun ch21 =>
                  .done (.panicked ch21)))
                (.br (x2 == 3)
                  (.callp 53 #[.pointer (some qa0), .int .i64 qx1] (.one (.agg [.int .i64, .int .i64, .str, .sl])) (fun r22 =>
                    .store ⟨n1, 0, none⟩ (.int .i64 r22.1)
                      (.store ⟨n1, 1, none⟩ (.int .i64 r22.2.1)
                        (.store ⟨n1, 2, none⟩ (.string r22.2.2.1)
                          (.store ⟨n1, 3, none⟩ (.slice r22.2.2.2.1.1 r22.2.2.2.1.2.1 r22.2.2.2.1.2.2)
                            (.load ⟨n1, 0, none⟩ (.int .i64) (fun x23 =>
                              .load ⟨n1, 1, none⟩ (.int .i64) (fun x24 =>
                                .load ⟨n1, 2, none⟩ .str (fun s25 =>
                                  .load ⟨n1, 3, none⟩ .sl (fun l26 =>
                                    .done (.returned (.agg #[.int .i64 x23, .int .i64 x24, .string s25, .slice l26.1 l26.2.1 l26.2.2]))))))))))) (fun ch27 =>
                    .done (.panicked ch27)))
                  (.store ⟨n1, 0, none⟩ (.int .i64 0)
                    (.store ⟨n1, 1, none⟩ (.int .i64 0)
                      (.store ⟨n1, 2, none⟩ (.string (bytesL []))
                        (.store ⟨n1, 3, none⟩ (.slice none 0 0)
                          (.load ⟨n1, 0, none⟩ (.int .i64) (fun x28 =>
                            .load ⟨n1, 1, none⟩ (.int .i64) (fun x29 =>
                              .load ⟨n1, 2, none⟩ .str (fun s30 =>
                                .load ⟨n1, 3, none⟩ .sl (fun l31 =>
                                  .done (.returned (.agg #[.int .i64 x28, .int .i64 x29, .string s30, .slice l31.1 l31.2.1 l31.2.2]))))))))))))))))) (fun ch32 =>
      .done (.panicked ch32))) := by kernel_rfl

theorem decV_cons (k : Nat) (depth : Int) (c : UInt8) (l : List UInt8) (n : Int) : decV (k + 1) depth (c :: l) n = (if n + 1 > 12 then .error 22
    else if c.toNat > 3 then .error 28
    else if c.toNat = 3 ∧ depth ≥ 3 then .error 23
    else if c.toNat = 1 then match intM 10 0 0 l with
      | .error e => .error e
      | .ok (i, l') => .ok (.mk 1 i (bytesL []) [], l', n + 1)
    else if c.toNat = 2 then match textM l with
      | .error e => .error e
      | .ok (s, l') => .ok (.mk 2 0 s [], l', n + 1)
    else if c.toNat = 3 then listM k depth l (n + 1)
    else .ok (noneV, l, n + 1)) := rfl
theorem value_any (nd : Nat) (p : Option Addr) (m c : Nat) (bs : List UInt8) (k : Nat) : ∀ (depth : Int), 0 ≤ depth → depth ≤ 3 → 3 - depth < (k : Int) → ∀ (w : World) (i : Nat) (parts : Int), DecS w nd p m c bs i parts → 0 ≤ parts → parts ≤ 12 →
    Calls Tryd.prog 34 #[.pointer (some ⟨nd, 0, none⟩), .int .i64 depth] w (DecR w nd p m c bs (decV k depth (bs.drop i) parts)) := by
  induction k with
  | zero => intro depth _ _ h; omega
  | succ k ih =>
    intro depth d0 d1 dk w i parts D p0 p1
    refine calls_of_fnT mixed Tryd.func34 (s := s34) ?_
    rw [t34]
    simp only [addr_add, Nat.zero_add]
    refine nw fun w1 h1 z1 b1 => ?_
    refine cp_i (next_any w1 nd p m c bs i parts (D.no h1)) ?_
    rintro e w2 ⟨h2, hn⟩
    have H2 : Ch (· = nd) w w2 := h1.no.trans h2
    have hnd := D.blk.lt
    cases hd : bs.drop i with
    | nil =>
      rw [hd] at hn
      right
      exact ⟨_, hn, H2, rfl⟩
    | cons u l' =>
      rw [hd] at hn
      obtain ⟨rfl, D2, hl'⟩ := hn
      left
      refine ⟨_, rfl, ?_⟩
      have hu := u.toNat_lt
      have B2 := b1.ch h2 (fun e : w.heap.size = nd => by omega)
      rw [decV_cons]
      refine ld_int D2.c2 ?_
      have hwp : IntKind.i64.wrap (parts + 1) = parts + 1 := by rw [IntKind.wrap_i64]; omega
      rw [hwp]
      refine st_blk D2.blk (by simp) rfl fun w3 h3 z3 b3 => ?_
      have D3 : DecS w3 nd p m c bs (i + 1) (parts + 1) := D2.set h3 b3 D2.le
      have H3 := H2.trans h3
      have B3 := B2.ch h3 (fun e : w.heap.size = nd => by omega)
      have hsz1 := h1.size
      have hsz2 := h2.size
      have hsz3 := h3.size
      refine cut_i mixed s34_4 (fun (v : Unit) w' => ¬ parts + 1 > 12 ∧ ¬ u.toNat > 3 ∧ ¬ (u.toNat = 3 ∧ depth ≥ 3) ∧ w' = w3) (by kernel_rfl) (fun g => ?_) ?_
      · rw [t34_4]
        simp only [addr_add, Nat.zero_add]
        refine ld_int D3.c2 (br_both (fun e => ?_) fun e1 => br_both (fun e => ?_) fun e2 => br_both (fun e => br_both (fun e' => ?_) fun e' => ?_) fun e => ?_)
        · have e := of_decide_eq_true e
          refine cx_i (fail_any _ _ w3) ?_
          rintro r w4 ⟨rfl, rfl⟩
          refine ⟨_, rfl, H3, ?_⟩
          rw [if_pos e]
        · have e1 := of_decide_eq_false e1
          have e : (u.toNat : Int) > 3 := of_decide_eq_true e
          refine cx_i (fail_any _ _ w3) ?_
          rintro r w4 ⟨rfl, rfl⟩
          refine ⟨_, rfl, H3, ?_⟩
          rw [if_neg e1, if_pos (by omega)]
        · have e1 := of_decide_eq_false e1
          have e2 : ¬ (u.toNat : Int) > 3 := of_decide_eq_false e2
          have e : (u.toNat : Int) = 3 := by simpa using e
          have e' := of_decide_eq_true e'
          refine cx_i (fail_any _ _ w3) ?_
          rintro r w4 ⟨rfl, rfl⟩
          refine ⟨_, rfl, H3, ?_⟩
          rw [if_neg e1, if_neg (by omega), if_pos ⟨by omega, e'⟩]
        · have e1 := of_decide_eq_false e1
          have e2 : ¬ (u.toNat : Int) > 3 := of_decide_eq_false e2
          have e' := of_decide_eq_false e'
          exact ⟨rfl, (), rfl, e1, by omega, fun h => e' h.2, rfl⟩
        · have e1 := of_decide_eq_false e1
          have e2 : ¬ (u.toNat : Int) > 3 := of_decide_eq_false e2
          have e : ¬ (u.toNat : Int) = 3 := by simpa using e
          exact ⟨rfl, (), rfl, e1, by omega, fun h => e (by omega), rfl⟩
      rintro ⟨⟩ g w4 ⟨c1, c2, c3, rfl⟩
      rw [if_neg c1, if_neg c2, if_neg c3]
      -- the result's block written and read
      have fin : ∀ (w5 : World) (x : VT) (q : Option Addr) (n d : Nat) (i' : Nat) (n' : Int) (l1 : List UInt8), Ch (· = nd) w4 w5 → Blk w5 w.heap.size [.int .i64 0, .int .i64 0, .string (bytesL []), .slice none 0 0] 24 → IsVB (fun b => w4.heap.size ≤ b ∧ b < w5.heap.size) w5 x q n d → DecS w5 nd p m c bs i' n' → l1 = bs.drop i' →
          ∀ w6, Ch (· = w.heap.size) w5 w6 → DecR w nd p m c bs (.ok (x, l1, n')) (.returned (valV x q n d)) w6 := by
        intro w5 x q n d i' n' l1 h5 b5 hI D5 hl w6 h6
        refine ⟨(H3.trans h5).then_ h6 (fun b hb (e : b = w.heap.size) => by omega), q, n, d, i', rfl, ?_, D5.keep h6 (fun b (e : b = w.heap.size) => by omega), hl⟩
        have := h6.size
        exact (hI.ch h6 (fun b hb (e : b = w.heap.size) => by omega)).mono fun b hb => ⟨by omega, by omega⟩
      refine br_both (fun e => ?_) fun e1 => br_both (fun e => ?_) fun e2 => br_both (fun e => ?_) fun e3 => ?_
      · have e : (u.toNat : Int) = 1 := by simpa using e
        rw [if_pos (by omega), hl']
        refine cp_i (int_any w4 nd p m c bs (i + 1) (parts + 1) D3) ?_
        rintro e2 w5 ⟨h5, hr⟩
        cases hx : intM 10 0 0 (bs.drop (i + 1)) with
        | error er =>
          rw [hx] at hr
          exact .inr ⟨_, hr, H3.trans h5, rfl⟩
        | ok y =>
          obtain ⟨x, l1⟩ := y
          rw [hx] at hr
          obtain ⟨rfl, i', D5, hl1⟩ := hr
          refine .inl ⟨_, rfl, ?_⟩
          have B5 := B3.ch h5 (fun e : w.heap.size = nd => by omega)
          refine st_blk B5 (by simp) rfl fun w6 h6 z6 b6 => st_blk b6 (by simp) rfl fun w7 h7 z7 b7 => st_blk b7 (by simp) rfl fun w8 h8 z8 b8 => st_blk b8 (by simp) rfl fun w9 h9 z9 b9 => ?_
          refine ld_int (b9.cell 0) (ld_int (b9.cell 1) (ld_str (b9.cell 2) (ld_sl (b9.cell 3) ?_)))
          exact fin w5 (.mk 1 x (bytesL []) []) none 0 0 i' (parts + 1) l1 h5 B5 (IsVB.flat _ _ _) D5 hl1 w9 (h6.trans (h7.trans (h8.trans h9)))
      · have e : (u.toNat : Int) = 2 := by simpa using e
        rw [if_neg (by omega), if_pos (by omega), hl']
        refine cp_i (text_any w4 nd p m c bs (i + 1) (parts + 1) D3) ?_
        rintro e2 w5 ⟨h5, hr⟩
        cases hx : textM (bs.drop (i + 1)) with
        | error er =>
          rw [hx] at hr
          exact .inr ⟨_, hr, H3.trans h5, rfl⟩
        | ok y =>
          obtain ⟨x, l1⟩ := y
          rw [hx] at hr
          obtain ⟨rfl, i', D5, hl1⟩ := hr
          refine .inl ⟨_, rfl, ?_⟩
          have B5 := B3.ch h5 (fun e : w.heap.size = nd => by omega)
          refine st_blk B5 (by simp) rfl fun w6 h6 z6 b6 => st_blk b6 (by simp) rfl fun w7 h7 z7 b7 => st_blk b7 (by simp) rfl fun w8 h8 z8 b8 => st_blk b8 (by simp) rfl fun w9 h9 z9 b9 => ?_
          refine ld_int (b9.cell 0) (ld_int (b9.cell 1) (ld_str (b9.cell 2) (ld_sl (b9.cell 3) ?_)))
          exact fin w5 (.mk 2 0 x []) none 0 0 i' (parts + 1) l1 h5 B5 (IsVB.flat _ _ _) D5 hl1 w9 (h6.trans (h7.trans (h8.trans h9)))
      · have e : (u.toNat : Int) = 3 := by simpa using e
        rw [if_neg (by omega), if_neg (by omega), if_pos (by omega), hl']
        have hd3 : depth < 3 := Int.not_le.1 fun h => c3 ⟨by omega, h⟩
        refine cp_i (list_any k nd p m c bs depth d0 d1 (fun w i parts D p0 p1 => ih (depth + 1) (by omega) (by omega) (by omega) w i parts D p0 p1) w4 (i + 1) (parts + 1) D3 (by omega) (by omega)) ?_
        rintro e2 w5 ⟨h5, hr⟩
        cases hx : listM k depth (bs.drop (i + 1)) (parts + 1) with
        | error er =>
          rw [hx] at hr
          exact .inr ⟨_, hr, H3.trans h5, rfl⟩
        | ok y =>
          obtain ⟨x, l1, n1⟩ := y
          rw [hx] at hr
          obtain ⟨q, n, d, i', rfl, hI, D5, hl1⟩ := hr
          refine .inl ⟨(x.kind, x.int, x.text, (q, n, d), ()), rfl, ?_⟩
          have B5 := B3.ch h5 (fun e : w.heap.size = nd => by omega)
          refine st_blk B5 (by simp) rfl fun w6 h6 z6 b6 => st_blk b6 (by simp) rfl fun w7 h7 z7 b7 => st_blk b7 (by simp) rfl fun w8 h8 z8 b8 => st_blk b8 (by simp) rfl fun w9 h9 z9 b9 => ?_
          refine ld_int (b9.cell 0) (ld_int (b9.cell 1) (ld_str (b9.cell 2) (ld_sl (b9.cell 3) ?_)))
          exact fin w5 x q n d i' n1 l1 h5 B5 hI D5 hl1 w9 (h6.trans (h7.trans (h8.trans h9)))
      · have e1 : ¬ (u.toNat : Int) = 1 := by simpa using e1
        have e2 : ¬ (u.toNat : Int) = 2 := by simpa using e2
        have e3 : ¬ (u.toNat : Int) = 3 := by simpa using e3
        rw [if_neg (by omega), if_neg (by omega), if_neg (by omega)]
        refine st_blk B3 (by simp) rfl fun w6 h6 z6 b6 => st_blk b6 (by simp) rfl fun w7 h7 z7 b7 => st_blk b7 (by simp) rfl fun w8 h8 z8 b8 => st_blk b8 (by simp) rfl fun w9 h9 z9 b9 => ?_
        refine ld_int (b9.cell 0) (ld_int (b9.cell 1) (ld_str (b9.cell 2) (ld_sl (b9.cell 3) ?_)))
        exact fin w4 noneV none 0 0 (i + 1) (parts + 1) l' (Ch.refl _ _) B3 (IsVB.flat _ _ _) D3 hl' w9 (h6.trans (h7.trans (h8.trans h9)))
end Go.Proofs.YtjellmblammiaaaDoor
