/- The decoder: what next, int and text read of the bytes. -/
import Derived.Test.YtjellmblammiaaaDoorDcm
import Derived.Test.YtjellmblammiaaaDoorTrD
namespace Go.Proofs.YtjellmblammiaaaDoor
open Go Tr
open Go.RowKit (Below)
set_option maxRecDepth 100000
section
variable {P : Program} {R : Ending → World → Prop} {Q : Exit → List (Tmp × Value) → World → Prop} {md : Md} [hmd : md.Runs] {w : World}
/-- A call that panics. -/
theorem cx_i {f : FuncId} {args : Array Value} {kp : List PanicEntry → T} {R' : Ending → World → Prop} (hc : Calls P f args w R') (h : ∀ e w', R' e w' → ∃ ch, e = .panicked ch ∧ wpT P R Q (kp ch) md w') : wpT P R Q (.callx f args kp) md w := by
  rw [wpT_callx]
  refine hc.mono fun e w' he => ?_
  obtain ⟨ch, rfl, hx⟩ := h e w' he
  exact hx
/-- A call that returns or panics. -/
theorem cp_i {f : FuncId} {args : Array Value} {s : Shape} {k : s.Vars → T} {kp : List PanicEntry → T} {R' : Ending → World → Prop} (hc : Calls P f args w R')
    (h : ∀ e w', R' e w' → (∃ x, e = .returned (s.val x) ∧ wpT P R Q (k x) md w') ∨ (∃ ch, e = .panicked ch ∧ wpT P R Q (kp ch) md w')) : wpT P R Q (.callp f args s k kp) md w := by
  rw [wpT_callp]
  refine hc.mono fun e w' he => ?_
  rcases h e w' he with ⟨x, rfl, hx⟩ | ⟨ch, rfl, hx⟩
  · exact ⟨x, rfl, hx⟩
  · exact hx
end
/-- What fail throws. -/
def thrown (e at_ : Int) : List PanicEntry := [⟨.iface 79 (.agg #[.int .i64 e, .int .i64 at_]), false, false⟩]
theorem add_block (a : Addr) (i : Nat) : (a.add i).block = a.block := by unfold Addr.add; split <;> rfl
/-- The decoder's state: at nd; m bytes at p; i of them are read. -/
structure DecS (w : World) (nd : Nat) (p : Option Addr) (m c : Nat) (bs : List UInt8) (i : Nat) (parts : Int) : Prop where
  blk : Blk w nd [.slice p m c, .int .i64 i, .int .i64 parts] 62
  byt : AtB w p m bs
  far : ∀ ad, p = some ad → 0 < m → ad.block < nd
  le : i ≤ m
  cap : m ≤ c
  big : c ≤ 9223372036854775807
namespace DecS
variable {w w' : World} {nd : Nat} {p : Option Addr} {m c : Nat} {bs : List UInt8} {i : Nat} {parts : Int}
theorem c0 (D : DecS w nd p m c bs i parts) : w.cell? ⟨nd, 0, none⟩ = some (.slice p m c) := D.blk.cell 0
theorem c1 (D : DecS w nd p m c bs i parts) : w.cell? ⟨nd, 1, none⟩ = some (.int .i64 i) := D.blk.cell 1
theorem c2 (D : DecS w nd p m c bs i parts) : w.cell? ⟨nd, 2, none⟩ = some (.int .i64 parts) := D.blk.cell 2
theorem len (D : DecS w nd p m c bs i parts) : bs.length = m := D.byt.1
theorem bytes (D : DecS w nd p m c bs i parts) {S : Nat → Prop} (h : Ch S w w') (hS : ∀ k, S k → nd ≤ k) : AtB w' p m bs := ⟨D.byt.1, fun hn => by
  obtain ⟨ad, e, hj⟩ := D.byt.2 hn
  exact ⟨ad, e, fun j u hu => h.cellv (hj j u hu) (fun hs => by have := hS _ hs; rw [add_block] at this; have := D.far ad e hn; omega)⟩⟩
theorem no (D : DecS w nd p m c bs i parts) (h : Ch No w w') : DecS w' nd p m c bs i parts := ⟨D.blk.ch h (fun h => h), D.bytes h (fun _ h => h.elim), D.far, D.le, D.cap, D.big⟩
theorem set (D : DecS w nd p m c bs i parts) (h : Ch (· = nd) w w') {i' : Nat} {parts' : Int} (hb : Blk w' nd [.slice p m c, .int .i64 i', .int .i64 parts'] 62) (hi : i' ≤ m) : DecS w' nd p m c bs i' parts' :=
  ⟨hb, D.bytes h (fun k (h : k = nd) => by omega), D.far, hi, D.cap, D.big⟩
theorem keep (D : DecS w nd p m c bs i parts) {S : Nat → Prop} (h : Ch S w w') (hS : ∀ k, S k → nd < k) : DecS w' nd p m c bs i parts := ⟨D.blk.ch h (fun h => by have := hS _ h; omega), D.bytes h (fun k hk => by have := hS k hk; omega), D.far, D.le, D.cap, D.big⟩
theorem at_some (D : DecS w nd p m c bs i parts) {u : UInt8} (hu : bs[i]? = some u) : ∃ ad, p = some ad ∧ w.cell? (ad.add i) = some (.int .u8 u.toNat) := by
  have := (List.getElem?_eq_some_iff.1 hu).1
  obtain ⟨ad, e, hj⟩ := D.byt.2 (by have := D.len; omega)
  exact ⟨ad, e, hj i u hu⟩
end DecS
/-! the tree of function 50 -/
def s50 : Script := .nil
theorem t50 (qa0 : Addr) (qx1 : Int) : fnT Tryd.prog Tryd.f50 #[.pointer (some qa0), .int .i64 qx1] s50 =
  .done (.panicked [⟨.iface 79 (.agg #[.int .i64 qx1, .int .i64 0]), false, false⟩]) := by kernel_rfl
/-! the tree of function 49 -/
abbrev fx49_1 (qa0 : Addr) : List (Tmp × Value) := [(0, .pointer (some qa0))]
abbrev mx49_1 : List (Tmp × Comp) := []
def s49_1 : Script := .qt (.ld (.int .i64) (.ld .sl (.sym (.clx .nil) .nil)))
theorem t49_1 (qa0 : Addr) (g : Nat → Value) : pieceT Tryd.prog (at_ Tryd.f49 [1, 0]) 33 (fx49_1 qa0) g (mx49_1.map (·.1)) [] [] s49_1 =
  .drawn
    (.load (qa0.add 1) (.int .i64) (fun x2 =>
      .load qa0 .sl (fun l3 =>
        .undrawn
          (.br (x2 == (↑l3.snd.fst : Int))
            (.callx 50 #[.pointer (some qa0), .int .i64 28] (fun ch4 =>
              .done (.panicked ch4)))
            (.fin .normal []))))) := by kernel_rfl
def s49 : Script := .ct 1 [0] mx49_1 (.ld (.int .i64) (.qt (.ld .sl (.ld (.int .i64) (.ix (.ld (.int .u8) .nil))))))
theorem t49 (qa0 : Addr) : fnT Tryd.prog Tryd.f49 #[.pointer (some qa0)] s49 =
  .cut (at_ Tryd.f49 [1, 0]) 33 (fx49_1 qa0) mx49_1 (fun u5 g5 =>
    .load (qa0.add 1) (.int .i64) (fun x6 =>
      .store (qa0.add 1) (.int .i64 (IntKind.i64.wrap (x6 + 1)))
        (.drawn
          (.load qa0 .sl (fun l7 =>
            .load (qa0.add 1) (.int .i64) (fun x8 =>
              .idx l7.1 (IntKind.i64.wrap (x8 - 1)) l7.2.1 1 (fun a9 =>
                .load a9 (.int .u8) (fun x10 =>
                  .undrawn
                    (.done (.returned (.int .u8 x10))))))))))) := by kernel_rfl

theorem fail_any (a : Addr) (e : Int) (w : World) : Calls Tryd.prog 50 #[.pointer (some a), .int .i64 e] w fun r w' => r = .panicked (thrown e 0) ∧ w' = w := by
  refine calls_of_fnT mixed Tryd.func50 (s := s50) ?_
  rw [t50]
  exact ⟨rfl, rfl⟩
theorem drop_cases {α : Type} (l : List α) (i : Nat) : (l.drop i = [] ∧ l.length ≤ i) ∨ ∃ u, l[i]? = some u ∧ l.drop i = u :: l.drop (i + 1) := by
  cases h : l[i]? with
  | none =>
    have := List.getElem?_eq_none_iff.1 h
    exact .inl ⟨List.drop_of_length_le this, this⟩
  | some u =>
    refine .inr ⟨u, rfl, ?_⟩
    rw [List.drop_eq_getElem?_toList_append, h]; rfl
theorem next_any (w : World) (nd : Nat) (p : Option Addr) (m c : Nat) (bs : List UInt8) (i : Nat) (parts : Int) (D : DecS w nd p m c bs i parts) :
    Calls Tryd.prog 49 #[.pointer (some ⟨nd, 0, none⟩)] w fun e w' => Ch (· = nd) w w' ∧ match bs.drop i with
      | [] => e = .panicked (thrown 28 0)
      | u :: l' => e = .returned (.int .u8 u.toNat) ∧ DecS w' nd p m c bs (i + 1) parts ∧ l' = bs.drop (i + 1) := by
  refine calls_of_fnT mixed Tryd.func49 (s := s49) ?_
  rw [t49]
  simp only [addr_add, Nat.zero_add]
  have hl := D.len
  have hle := D.le
  have hcap := D.cap
  have hbig := D.big
  refine cut_i mixed s49_1 (fun (v : Unit) w' => i < m ∧ Ch No w w') (by kernel_rfl) (fun g => ?_) ?_
  · rw [t49_1]
    simp only [addr_add, Nat.zero_add]
    refine ⟨fun w'' => Ch No w w'', (Ch.refl _ _).drew, ?_⟩
    refine ⟨_, fun w'' h => (D.no h).c1, (p, m, c), fun w'' h => (D.no h).c0, fun w'' h => ?_⟩
    refine br_both (fun e => ?_) fun e => ?_
    · have e : (i : Int) = (m : Int) := by simpa using e
      refine cx_i (fail_any _ _ w'') ?_
      rintro r w3 ⟨rfl, rfl⟩
      refine ⟨_, rfl, h.no, ?_⟩
      rw [List.drop_of_length_le (by omega)]
    · have e : ¬ (i : Int) = (m : Int) := by simpa using e
      exact ⟨rfl, (), rfl, by omega, h⟩
  rintro ⟨⟩ g w1 ⟨him, h1⟩
  have D1 := D.no h1
  refine ld_int D1.c1 ?_
  have hw : IntKind.i64.wrap ((i : Int) + 1) = ((i + 1 : Nat) : Int) := by rw [IntKind.wrap_i64]; omega
  rw [hw]
  refine st_blk D1.blk (by simp) rfl fun w2 h2 z2 b2 => ?_
  have D2 : DecS w2 nd p m c bs (i + 1) parts := D1.set h2 b2 (by omega)
  refine ⟨fun w'' => Ch No w2 w'', (Ch.refl _ _).drew, ?_⟩
  refine ⟨(p, m, c), fun w'' h => (D2.no h).c0, _, fun w'' h => (D2.no h).c1, ?_⟩
  have hw2 : IntKind.i64.wrap (((i + 1 : Nat) : Int) - 1) = (i : Int) := by rw [IntKind.wrap_i64]; omega
  dsimp only
  rw [hw2]
  rcases drop_cases bs i with ⟨_, hh⟩ | ⟨u, hu, hd⟩
  · omega
  obtain ⟨ad, rfl, _⟩ := D.at_some hu
  refine ⟨ad, rfl, by omega, by omega, ?_⟩
  refine ⟨(u.toNat : Int), fun w'' h => ?_, fun w'' h => ⟨(h1.no.trans h2).trans h.no, ?_⟩⟩
  · obtain ⟨ad', e, hj⟩ := (D2.no h).byt.2 (by omega)
    cases e
    rw [Int.toNat_natCast, Nat.mul_one]
    exact hj i u hu
  · rw [hd]
    exact ⟨rfl, D2.no h, rfl⟩
/-! ### The whole numbers -/
theorem low7 (u : UInt8) : IntKind.u64.wrap (IntKind.u8.wrap (((BitVec.ofInt IntKind.u8.bits (u.toNat : Int) &&& BitVec.ofInt IntKind.u8.bits 127).toNat : Nat) : Int)) = ((u.toNat % 128 : Nat) : Int) := by
  have key : ∀ n : Fin 256, IntKind.u64.wrap (IntKind.u8.wrap (((BitVec.ofInt IntKind.u8.bits (n.val : Int) &&& BitVec.ofInt IntKind.u8.bits 127).toNat : Nat) : Int)) = ((n.val % 128 : Nat) : Int) := by decide
  exact key ⟨u.toNat, u.toNat_lt⟩
theorem pow7 (j : Nat) : 128 ^ j = 2 ^ (7 * j) := by rw [Nat.pow_mul]
theorem shl_run (w : World) (a j : Nat) (hj : j ≤ 9) (h : a * 128 ^ j < 18446744073709551616) : (vNext (binOp .shl 89 (.int .u64 (a : Int)) (.int .i64 (IntKind.i64.wrap (7 * (j : Int)))))).run Tryd.prog w = .ok (.value (.int .u64 ((a * 128 ^ j : Nat) : Int))) w := by
  have hw : IntKind.i64.wrap (7 * (j : Int)) = ((7 * j : Nat) : Int) := by rw [IntKind.wrap_i64]; omega
  have hsh := shift_shl .u64 .i64 (a : Int) ((7 * j : Nat) : Int) (by omega) (by show ((7 * j : Nat) : Int) ≤ 64; omega)
  have e : IntKind.u64.wrap ((a : Int) * 2 ^ (((7 * j : Nat) : Int)).toNat) = ((a * 128 ^ j : Nat) : Int) := by
    rw [Int.toNat_natCast, pow7, IntKind.wrap_u64]
    have : (a : Int) * 2 ^ (7 * j) = ((a * 2 ^ (7 * j) : Nat) : Int) := by push_cast; rfl
    rw [this]
    rw [pow7] at h
    omega
  unfold vNext
  rw [hw, binOp_shl, hsh, e]
  rfl
theorem or_add (u b j : Nat) (hu : u < 128 ^ j) (h : u + b * 128 ^ j < 18446744073709551616) : IntKind.u64.wrap (((BitVec.ofInt IntKind.u64.bits (u : Int) ||| BitVec.ofInt IntKind.u64.bits ((b * 128 ^ j : Nat) : Int)).toNat : Nat) : Int) = ((u + b * 128 ^ j : Nat) : Int) := by
  show IntKind.u64.wrap (((BitVec.ofInt 64 _ ||| BitVec.ofInt 64 _).toNat : Nat) : Int) = _
  rw [BitVec.ofInt_natCast, BitVec.ofInt_natCast, BitVec.toNat_or, BitVec.toNat_ofNat, BitVec.toNat_ofNat, Nat.mod_eq_of_lt (by omega), Nat.mod_eq_of_lt (by omega), IntKind.wrap_u64]
  rw [pow7] at hu h ⊢
  have := Nat.two_pow_add_eq_or_of_lt hu b
  rw [Nat.or_comm, Nat.mul_comm b, ← this]
  rw [Nat.mul_comm b] at h
  omega
theorem unzag (u : Nat) (h : u < 18446744073709551616) : IntKind.i64.wrap (((BitVec.ofInt IntKind.i64.bits (IntKind.i64.wrap ((u : Int).fdiv (2 ^ Min.min (Int.toNat 1) IntKind.u64.bits))) ^^^ BitVec.ofInt IntKind.i64.bits (IntKind.i64.wrap (0 - IntKind.i64.wrap (IntKind.u64.wrap (((BitVec.ofInt IntKind.u64.bits (u : Int) &&& BitVec.ofInt IntKind.u64.bits 1).toNat : Nat) : Int))))).toNat : Nat) : Int) = unzig u := by
  have e1 : (u : Int).fdiv (2 ^ Min.min (Int.toNat 1) IntKind.u64.bits) = ((u / 2 : Nat) : Int) := by
    rw [show (2 : Int) ^ Min.min (Int.toNat 1) IntKind.u64.bits = 2 by decide, Int.fdiv_eq_ediv_of_nonneg _ (by decide)]; omega
  have e2 : IntKind.u64.wrap (((BitVec.ofInt IntKind.u64.bits (u : Int) &&& BitVec.ofInt IntKind.u64.bits 1).toNat : Nat) : Int) = ((u % 2 : Nat) : Int) := by
    show IntKind.u64.wrap (((BitVec.ofInt 64 _ &&& BitVec.ofInt 64 _).toNat : Nat) : Int) = _
    rw [BitVec.ofInt_natCast, show BitVec.ofInt 64 1 = BitVec.ofNat 64 1 by decide, BitVec.toNat_and, BitVec.toNat_ofNat, BitVec.toNat_ofNat, Nat.mod_eq_of_lt (by omega), show 1 % 2 ^ 64 = 1 by decide, Nat.and_one_is_mod, IntKind.wrap_u64]
    omega
  rw [e1, e2]
  have w1 : IntKind.i64.wrap ((u / 2 : Nat) : Int) = ((u / 2 : Nat) : Int) := by rw [IntKind.wrap_i64]; omega
  have w2 : IntKind.i64.wrap ((u % 2 : Nat) : Int) = ((u % 2 : Nat) : Int) := by rw [IntKind.wrap_i64]; omega
  rw [w1, w2]
  show IntKind.i64.wrap (((BitVec.ofInt 64 _ ^^^ BitVec.ofInt 64 _).toNat : Nat) : Int) = _
  unfold unzig
  by_cases hu : u % 2 = 0
  · rw [if_pos hu, hu, show IntKind.i64.wrap (0 - ((0 : Nat) : Int)) = 0 by decide, show BitVec.ofInt 64 0 = 0#64 by decide, BitVec.xor_zero, BitVec.ofInt_natCast, BitVec.toNat_ofNat, Nat.mod_eq_of_lt (by omega), IntKind.wrap_i64]
    omega
  · have h1 : u % 2 = 1 := by omega
    rw [if_neg hu, h1, show IntKind.i64.wrap (0 - ((1 : Nat) : Int)) = -1 by decide, show BitVec.ofInt 64 (-1) = BitVec.allOnes 64 by decide, BitVec.xor_allOnes, BitVec.ofInt_natCast, BitVec.toNat_not, BitVec.toNat_ofNat, Nat.mod_eq_of_lt (by omega), IntKind.wrap_i64]
    omega
/-! the tree of function 51 -/
abbrev fx51_1 (qa0 : Addr) : List (Tmp × Value) := [(0, .pointer (some qa0))]
abbrev m51_1 : List (Tmp × Comp) := [(3, .leaf (.int .u64)), (4, .leaf (.int .i64))]
abbrev mx51_1 : List (Tmp × Comp) := []
abbrev mr51_1 : List (Tmp × Comp) := [(2, .leaf (.int .i64))]
abbrev fx51_3 (qa0 : Addr) (x_3 : Int) (x_4 : Int) (x2 : Int) : List (Tmp × Value) := [(0, .pointer (some qa0)), (3, .int .u64 x_3), (4, .int .i64 x_4), (5, .int .u8 x2)]
abbrev mx51_3 : List (Tmp × Comp) := []
def s51_3 : Script := .sym (.lit (.lit (.sym (.lit (.lit (.lit (.lit (.lit (.clx .nil)))))) (.lit (.lit (.sym (.lit (.lit (.lit (.lit (.sym (.clx .nil) .nil))))) (.lit (.lit (.lit (.lit (.lit .nil))))))))))) (.lit (.lit (.lit (.lit (.lit (.sym (.lit (.lit (.lit (.lit (.sym (.clx .nil) .nil))))) (.lit (.lit (.lit (.lit (.lit .nil)))))))))))
theorem t51_3 (qa0 : Addr) (x_3 : Int) (x_4 : Int) (x2 : Int) (g : Nat → Value) : pieceT Tryd.prog (at_ Tryd.f51 [1, 1, 1, 0, 0, 0, 0, 1, 0]) 44 (fx51_3 qa0 x_3 x_4 x2) g (mx51_3.map (·.1)) [] [] s51_3 =
  .br (x_4 == 9)
    (.br (Decidable.decide (x2 > 1))
      (.callx 50 #[.pointer (some qa0), .int .i64 28] (fun ch4 =>
        .done (.panicked ch4)))
      (.br (Decidable.decide (x_4 > 0))
        (.br (x2 == 0)
          (.callx 50 #[.pointer (some qa0), .int .i64 28] (fun ch5 =>
            .done (.panicked ch5)))
          (.fin .normal []))
        (.fin .normal [])))
    (.br (Decidable.decide (x_4 > 0))
      (.br (x2 == 0)
        (.callx 50 #[.pointer (some qa0), .int .i64 28] (fun ch6 =>
          .done (.panicked ch6)))
        (.fin .normal []))
      (.fin .normal [])) := by kernel_rfl
def s51_1 : Script := .clp (.one (.leaf (.int .u8))) (.ct 0 [0, 3, 4, 5] mx51_3 (.nop (.nop (.nop (.nop (.nop (.nop (.rn (.one (.leaf (.int .u64))) (.sym .nil .nil))))))))) .nil
theorem t51_1 (qa0 : Addr) (x_3 : Int) (x_4 : Int) (g : Nat → Value) : pieceT Tryd.prog (at_ Tryd.f51 [1, 1, 1, 0, 0]) 44 (fx51_1 qa0 ++ mvals m51_1 (x_3, x_4, ())) g (m51_1.map (·.1)) (mx51_1.map (·.1)) (mr51_1.map (·.1)) s51_1 =
  .callp 49 #[.pointer (some qa0)] (.one (.leaf (.int .u8))) (fun x2 =>
    .cut (at_ Tryd.f51 [1, 1, 1, 0, 0, 0, 0, 1, 0]) 44 (fx51_3 qa0 x_3 x_4 x2) mx51_3 (fun u7 g7 =>
      .run (vNext (binOp .shl 89 (.int .u64 (IntKind.u64.wrap (IntKind.u8.wrap (↑(BitVec.ofInt IntKind.u8.bits x2 &&& BitVec.ofInt IntKind.u8.bits 127).toNat : Int)))) (.int .i64 (IntKind.i64.wrap (7 * x_4))))) (.one (.leaf (.int .u64))) (fun x8 =>
        .br (Decidable.decide (x2 < 128))
          (.fin .ret [(2, .int .i64 (IntKind.i64.wrap (↑(BitVec.ofInt IntKind.i64.bits (IntKind.i64.wrap ((IntKind.u64.wrap (↑(BitVec.ofInt IntKind.u64.bits x_3 ||| BitVec.ofInt IntKind.u64.bits x8).toNat : Int)).fdiv (2 ^ Min.min (Int.toNat 1) IntKind.u64.bits))) ^^^ BitVec.ofInt IntKind.i64.bits (IntKind.i64.wrap (0 - IntKind.i64.wrap (IntKind.u64.wrap (↑(BitVec.ofInt IntKind.u64.bits (IntKind.u64.wrap (↑(BitVec.ofInt IntKind.u64.bits x_3 ||| BitVec.ofInt IntKind.u64.bits x8).toNat : Int)) &&& BitVec.ofInt IntKind.u64.bits 1).toNat : Int))))).toNat : Int)))])
          (.fin .normal [(3, .int .u64 (IntKind.u64.wrap (↑(BitVec.ofInt IntKind.u64.bits x_3 ||| BitVec.ofInt IntKind.u64.bits x8).toNat : Int))), (4, .int .i64 (IntKind.i64.wrap (x_4 + 1)))])))) (fun ch9 =>
    .done (.panicked ch9)) := by kernel_rfl
def s51 : Script := .lp 0 [0] [3, 4] mx51_1 mr51_1 .nil .nil
theorem t51 (qa0 : Addr) : fnT Tryd.prog Tryd.f51 #[.pointer (some qa0)] s51 =
  .loop (at_ Tryd.f51 [1, 1, 1, 0, 0]) 44 (fx51_1 qa0) [(3, .int .u64 0), (4, .int .i64 0)] mx51_1 mr51_1 0 (fun u10 g10 =>
    .done (.returned (if h : ((Array.emptyWithCapacity Tryd.f51.results.size).push (#[Go.Value.pointer (Option.some qa0), g10 1, g10 2, g10 3, g10 4, g10 5, g10 6, g10 7, g10 8, g10 9, g10 10, g10 11, g10 12, g10 13, g10 14, g10 15, g10 16, g10 17, g10 18, g10 19, g10 20, g10 21, g10 22, g10 23, g10 24, g10 25, g10 26, g10 27, g10 28, g10 29, g10 30, g10 31, g10 32, g10 33, g10 34, g10 35, g10 36, g10 37, g10 38, g10 39, g10 40, g10 41, g10 42, g10 43].getD 2 undef)).size = 1 then ((Array.emptyWithCapacity Tryd.f51.results.size).push (#[Go.Value.pointer (Option.some qa0), g10 1, g10 2, g10 3, g10 4, g10 5, g10 6, g10 7, g10 8, g10 9, g10 10, g10 11, g10 12, g10 13, g10 14, g10 15, g10 16, g10 17, g10 18, g10 19, g10 20, g10 21, g10 22, g10 23, g10 24, g10 25, g10 26, g10 27, g10 28, g10 29, g10 30, g10 31, g10 32, g10 33, g10 34, g10 35, g10 36, g10 37, g10 38, g10 39, g10 40, g10 41, g10 42, g10 43].getD 2 undef))[0] else Go.Value.tuple ((Array.emptyWithCapacity Tryd.f51.results.size).push (#[Go.Value.pointer (Option.some qa0), g10 1, g10 2, g10 3, g10 4, g10 5, g10 6, g10 7, g10 8, g10 9, g10 10, g10 11, g10 12, g10 13, g10 14, g10 15, g10 16, g10 17, g10 18, g10 19, g10 20, g10 21, g10 22, g10 23, g10 24, g10 25, g10 26, g10 27, g10 28, g10 29, g10 30, g10 31, g10 32, g10 33, g10 34, g10 35, g10 36, g10 37, g10 38, g10 39, g10 40, g10 41, g10 42, g10 43].getD 2 undef))))) (fun u11 g11 =>
    .done (.returned (.int .i64 u11.1))) := by kernel_rfl

theorem intM_cons (f j u : Nat) (c : UInt8) (l : List UInt8) : intM (f + 1) j u (c :: l) = (if (j = 9 ∧ c.toNat > 1) ∨ (0 < j ∧ c.toNat = 0) then .error 28
    else if c.toNat < 128 then .ok (unzig (u + c.toNat % 128 * 128 ^ j), l) else intM f (j + 1) (u + c.toNat % 128 * 128 ^ j) l) := rfl
theorem int_any (w : World) (nd : Nat) (p : Option Addr) (m c : Nat) (bs : List UInt8) (i : Nat) (parts : Int) (D : DecS w nd p m c bs i parts) :
    Calls Tryd.prog 51 #[.pointer (some ⟨nd, 0, none⟩)] w fun e w' => Ch (· = nd) w w' ∧ match intM 10 0 0 (bs.drop i) with
      | .error er => e = .panicked (thrown er 0)
      | .ok (x, l') => e = .returned (.int .i64 x) ∧ ∃ i', DecS w' nd p m c bs i' parts ∧ l' = bs.drop i' := by
  refine calls_of_fnT mixed Tryd.func51 (s := s51) ?_
  rw [t51]
  refine loop_i mixed m51_1 s51_1 (by kernel_rfl) (by kernel_rfl)
    (fun (v : Int × Int × Unit) w' => ∃ u j : Nat, v.1 = u ∧ v.2.1 = j ∧ j ≤ 9 ∧ u < 128 ^ j ∧ Ch (· = nd) w w' ∧ DecS w' nd p m c bs (i + j) parts ∧ intM 10 0 0 (bs.drop i) = intM (10 - j) j u (bs.drop (i + j)))
    (fun (v : Int × Int × Unit) _ => 10 - v.2.1.toNat) (0, 0, ()) rfl ⟨0, 0, rfl, rfl, by omega, by decide, Ch.refl _ _, D, rfl⟩ ?_
  rintro ⟨_, _, ⟨⟩⟩ g w1 ⟨u, j, rfl, rfl, hj, hu, h1, D1, hm⟩
  rw [t51_1]
  refine cp_i (next_any w1 nd p m c bs (i + j) parts D1) ?_
  rintro e w2 ⟨h2, hn⟩
  obtain ⟨f, hf⟩ : ∃ f, 10 - j = f + 1 := ⟨9 - j, by omega⟩
  rw [hf] at hm
  cases hd : bs.drop (i + j) with
  | nil =>
    rw [hd] at hn hm
    right
    refine ⟨_, hn, h1.trans h2, ?_⟩
    rw [hm]; rfl
  | cons b l' =>
    rw [hd] at hn hm
    obtain ⟨rfl, D2, hl'⟩ := hn
    left
    refine ⟨_, rfl, ?_⟩
    have hb := b.toNat_lt
    rw [intM_cons] at hm
    have H2 := h1.trans h2
    have fail28 : ∀ w3, Ch No w2 w3 → intM 10 0 0 (bs.drop i) = .error 28 → ∀ (Q' : Exit → List (Tmp × Value) → World → Prop) (kp : List PanicEntry → T), (∀ w4, w4 = w3 → wpT Tryd.prog (fun e w' => Ch (· = nd) w w' ∧ match intM 10 0 0 (bs.drop i) with
      | .error er => e = .panicked (thrown er 0)
      | .ok (x, l') => e = .returned (.int .i64 x) ∧ ∃ i', DecS w' nd p m c bs i' parts ∧ l' = bs.drop i') Q' (kp (thrown 28 0)) .pl w4) → wpT Tryd.prog (fun e w' => Ch (· = nd) w w' ∧ match intM 10 0 0 (bs.drop i) with
      | .error er => e = .panicked (thrown er 0)
      | .ok (x, l') => e = .returned (.int .i64 x) ∧ ∃ i', DecS w' nd p m c bs i' parts ∧ l' = bs.drop i') Q' (.callx 50 #[.pointer (some ⟨nd, 0, none⟩), .int .i64 28] kp) .pl w3 := by
      intro w3 h3 he Q' kp hk
      refine cx_i (fail_any _ _ w3) ?_
      rintro r w4 ⟨rfl, rfl⟩
      exact ⟨_, rfl, hk _ rfl⟩
    by_cases bad : (j = 9 ∧ b.toNat > 1) ∨ (0 < j ∧ b.toNat = 0)
    · rw [if_pos bad] at hm
      refine cut_i mixed s51_3 (fun (v : Unit) w' => False) (by kernel_rfl) (fun g => ?_) (fun v g w' h => h.elim)
      rw [t51_3]
      have done : ∀ (Q' : Exit → List (Tmp × Value) → World → Prop), wpT Tryd.prog (fun e w' => Ch (· = nd) w w' ∧ match intM 10 0 0 (bs.drop i) with
        | .error er => e = .panicked (thrown er 0)
        | .ok (x, l') => e = .returned (.int .i64 x) ∧ ∃ i', DecS w' nd p m c bs i' parts ∧ l' = bs.drop i') Q' (.callx 50 #[.pointer (some ⟨nd, 0, none⟩), .int .i64 28] (fun ch => .done (.panicked ch))) .pl w2 := fun Q' =>
        fail28 w2 (Ch.refl _ _) hm Q' _ (fun w4 e4 => by subst e4; refine ⟨H2, ?_⟩; rw [hm])
      have c0 : ∀ {q : Prop}, ((b.toNat : Int) == 0) = false → 0 < j → ¬ j = 9 ∨ ¬ b.toNat > 1 → q := fun {q} h1 h2 h3 => by
        have : ¬ (b.toNat : Int) = 0 := by simpa using h1
        omega
      refine br_both (fun e => br_both (fun _ => done _) fun e2 => br_both (fun e3 => br_both (fun _ => done _) fun e4 => ?_) fun e3 => ?_) fun e => br_both (fun e3 => br_both (fun _ => done _) fun e4 => ?_) fun e3 => ?_
      · have e2 : ¬ (b.toNat : Int) > 1 := of_decide_eq_false e2
        have e3 : (j : Int) > 0 := of_decide_eq_true e3
        exact c0 e4 (by omega) (.inr (by omega))
      · have e : (j : Int) = 9 := by simpa using e
        have e3 : ¬ (j : Int) > 0 := of_decide_eq_false e3
        omega
      · have e : ¬ (j : Int) = 9 := by simpa using e
        have e3 : (j : Int) > 0 := of_decide_eq_true e3
        exact c0 e4 (by omega) (.inl (by omega))
      · have e : ¬ (j : Int) = 9 := by simpa using e
        have e3 : ¬ (j : Int) > 0 := of_decide_eq_false e3
        omega
    · rw [if_neg bad] at hm
      refine cut_i mixed s51_3 (fun (v : Unit) w' => w' = w2) (by kernel_rfl) (fun g => ?_) ?_
      · rw [t51_3]
        have ok : ∀ (Q' : World → Prop), Q' w2 → Q' w2 := fun _ h => h
        refine br_both (fun e => br_both (fun e2 => ?_) fun e2 => br_both (fun e3 => br_both (fun e4 => ?_) fun e4 => ⟨rfl, (), rfl, rfl⟩) fun e3 => ⟨rfl, (), rfl, rfl⟩) fun e => br_both (fun e3 => br_both (fun e4 => ?_) fun e4 => ⟨rfl, (), rfl, rfl⟩) fun e3 => ⟨rfl, (), rfl, rfl⟩
        · have e : (j : Int) = 9 := by simpa using e
          have e2 : (b.toNat : Int) > 1 := of_decide_eq_true e2
          omega
        · have e4 : (b.toNat : Int) = 0 := by simpa using e4
          have e3 : (j : Int) > 0 := of_decide_eq_true e3
          omega
        · have e4 : (b.toNat : Int) = 0 := by simpa using e4
          have e3 : (j : Int) > 0 := of_decide_eq_true e3
          omega
      rintro ⟨⟩ g w3 rfl
      have hbig : u + b.toNat % 128 * 128 ^ j < 18446744073709551616 := by
        rcases Nat.lt_or_ge j 9 with h' | h'
        · have h1 : b.toNat % 128 * 128 ^ j ≤ 127 * 128 ^ j := Nat.mul_le_mul_right _ (by omega)
          have h2 : 128 ^ j ≤ 128 ^ 8 := Nat.pow_le_pow_right (by omega) (by omega)
          omega
        · obtain rfl : j = 9 := by omega
          have : b.toNat % 128 * 128 ^ 9 ≤ 1 * 128 ^ 9 := Nat.mul_le_mul_right _ (by omega)
          omega
      rw [low7]
      refine t_run (x := ((b.toNat % 128 * 128 ^ j : Nat) : Int)) (shl_run _ _ _ hj (by omega)) ?_
      rw [or_add u (b.toNat % 128) j hu hbig]
      refine br_both (fun e => ?_) fun e => ?_
      · have e : (b.toNat : Int) < 128 := of_decide_eq_true e
        rw [if_pos (by omega)] at hm
        rw [unzag _ hbig]
        refine ⟨(unzig (u + b.toNat % 128 * 128 ^ j), ()), rfl, fun g => ⟨H2, ?_⟩⟩
        rw [hm]
        exact ⟨rfl, _, D2, hl'⟩
      · have e : ¬ (b.toNat : Int) < 128 := of_decide_eq_false e
        rw [if_neg (by omega)] at hm
        have hj8 : j < 9 := by
          rcases Nat.lt_or_ge j 9 with h' | h'
          · exact h'
          · exact absurd (.inl ⟨by omega, by omega⟩) bad
        have hwj : IntKind.i64.wrap ((j : Int) + 1) = ((j + 1 : Nat) : Int) := by rw [IntKind.wrap_i64]; omega
        rw [hwj]
        refine ⟨(((u + b.toNat % 128 * 128 ^ j : Nat) : Int), ((j + 1 : Nat) : Int), ()), rfl, ⟨u + b.toNat % 128 * 128 ^ j, j + 1, rfl, rfl, by omega, ?_, H2, D2, ?_⟩, ?_⟩
        · have h1 : b.toNat % 128 * 128 ^ j ≤ 127 * 128 ^ j := Nat.mul_le_mul_right _ (by omega)
          rw [Nat.pow_succ]; omega
        · rw [hm, hl', show 10 - (j + 1) = f by omega]
          rfl
        · dsimp only
          omega
end Go.Proofs.YtjellmblammiaaaDoor
