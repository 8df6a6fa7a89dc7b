/- Texts in quotes. -/
import Derived.Test.YtkebljkdkaagfaaGreatDoorPwc
import Derived.Test.YtkebljkdkaagfaaGreatDoorVne
namespace Go.Proofs.YtkebljkdkaagfaaGreatDoor.E
open Go Tr
open V (rest rest_cases restL sizeB pk_rest cx_i cp_i extract_list)
set_option maxRecDepth 100000
set_option maxHeartbeats 1000000
/-! the tree of function 60 -/
abbrev fx60_2 (qa0 : Addr) (qa1 : Addr) : List (Tmp × Value) := [(0, .pointer (some qa0)), (1, .pointer (some qa1))]
abbrev m60_2 : List (Tmp × Comp) := [(4, .leaf (.int .i64))]
abbrev mx60_2 : List (Tmp × Comp) := []
abbrev mr60_2 : List (Tmp × Comp) := []
def s60_2 : Script := .qt (.ld (.int .i64) (.ld .str (.sym (.qt (.ld .str (.ld (.int .i64) (.ix (.ld (.int .i64) (.sym (.lit (.lit (.lit (.sym .nil (.sym .nil .nil))))) (.lit (.lit (.lit (.lit (.sym .nil .nil))))))))))) .nil)))
theorem t60_2 (qa0 : Addr) (qa1 : Addr) (x_4 : Int) (gg2 : Nat → Value) : pieceT Tryz.prog (at_ Tryz.f60 [1, 1, 1, 0, 0, 0]) 110 (fx60_2 qa0 qa1 ++ mvals m60_2 (x_4, ())) gg2 (m60_2.map (·.1)) (mx60_2.map (·.1)) (mr60_2.map (·.1)) s60_2 = .drawn (.load (qa0.add 1) (.int .i64) (fun x3 => .load qa0 .str (fun s4 => .undrawn (.br (Decidable.decide (x3 < (↑s4.size : Int))) (.drawn (.load qa0 .str (fun s5 => .load (qa0.add 1) (.int .i64) (fun x6 => .bidx s5 x6 (fun c7 => .undrawn (.load (qa0.add 1) (.int .i64) (fun x8 => .store (qa0.add 1) (.int .i64 (IntKind.i64.wrap (x8 + 1))) (.br (c7 == 34) (.br (x_4.tmod 2 == 0) (.fin (.exit 0) []) (.br (c7 == 92) (.fin .normal [(4, .int .i64 (IntKind.i64.wrap (x_4 + 1)))]) (.fin .normal [(4, .int .i64 0)]))) (.br (c7 == 92) (.fin .normal [(4, .int .i64 (IntKind.i64.wrap (x_4 + 1)))]) (.fin .normal [(4, .int .i64 0)])))))))))) (.fin (.exit 0) []))))) := by kernel_rfl
abbrev fx60_13 (qa1 : Addr) (s10 : ByteArray) (x11 : Int) (x12 : Int) : List (Tmp × Value) := [(1, .pointer (some qa1)), (6, .string (s10.extract x11.toNat x12.toNat)), (72, .int .i64 (↑(s10.extract x11.toNat x12.toNat).size : Int))]
abbrev m60_13 : List (Tmp × Comp) := [(73, .leaf (.int .i64))]
abbrev mx60_13 : List (Tmp × Comp) := []
abbrev mr60_13 : List (Tmp × Comp) := []
def s60_13 : Script := .sym (.ix (.sym (.lit (.lit (.lit (.lit (.lit (.ld (.int .i64) (.clx .nil))))))) (.lit (.lit (.ix (.lit (.lit (.sym (.ld (.int .i64) (.clx .nil)) .nil)))))))) .nil
theorem t60_13 (qa1 : Addr) (s10 : ByteArray) (x11 : Int) (x12 : Int) (x_73 : Int) (gg13 : Nat → Value) : pieceT Tryz.prog (at_ Tryz.f60 [1, 1, 1, 1, 1, 0, 1, 0, 0]) 110 (fx60_13 qa1 s10 x11 x12 ++ mvals m60_13 (x_73, ())) gg13 (m60_13.map (·.1)) (mx60_13.map (·.1)) (mr60_13.map (·.1)) s60_13 = .br (Decidable.decide (x_73 < (↑(s10.extract x11.toNat x12.toNat).size : Int))) (.bidx (s10.extract x11.toNat x12.toNat) x_73 (fun c14 => .br (Decidable.decide (c14 < 32)) (.load (qa1.add 1) (.int .i64) (fun x15 => .callx 48 #[.int .i64 33, .int .i64 x15] (fun ch16 => .done (.panicked ch16)))) (.bidx (s10.extract x11.toNat x12.toNat) x_73 (fun c17 => .br (Decidable.decide (c17 > 126)) (.load (qa1.add 1) (.int .i64) (fun x18 => .callx 48 #[.int .i64 33, .int .i64 x18] (fun ch19 => .done (.panicked ch19)))) (.fin .normal [(73, .int .i64 (IntKind.i64.wrap (x_73 + 1)))]))))) (.fin (.exit 2) []) := by kernel_rfl
def s60 : Script := .ld (.int .i64) (.lp 0 [0, 1] [4] mx60_2 mr60_2 (.qt (.ld .str (.ld (.int .i64) (.ld (.int .i64) (.nd (.lp 2 [1, 6, 72] [73] mx60_13 mr60_13 (.clp (.tup [.agg [.int .i64, .int .i64, .str, .sl], .leaf (.int .i64), .leaf (.int .i64)]) (.sym (.ld (.int .i64) (.clx .nil)) (.ld .str .nil)) .nil) .nil)))))) .nil)
theorem t60 (qa0 : Addr) (qa1 : Addr) : fnT Tryz.prog Tryz.f60 #[.pointer (some qa0), .pointer (some qa1)] s60 = .store qa1 (.int .i64 3) (.load (qa0.add 1) (.int .i64) (fun x1 => .store (qa0.add 1) (.int .i64 (IntKind.i64.wrap (x1 + 1))) (.loop (at_ Tryz.f60 [1, 1, 1, 0, 0, 0]) 110 (fx60_2 qa0 qa1) [(4, .int .i64 0)] mx60_2 mr60_2 0 (fun u9 g9 => .drawn (.load qa0 .str (fun s10 => .load (qa1.add 1) (.int .i64) (fun x11 => .load (qa0.add 1) (.int .i64) (fun x12 => .need (Decidable.decide (0 ≤ x11 ∧ x11 ≤ x12 ∧ x12 ≤ (↑s10.size : Int))) (.undrawn (.loop (at_ Tryz.f60 [1, 1, 1, 1, 1, 0, 1, 0, 0]) 110 (fx60_13 qa1 s10 x11 x12) [(73, .int .i64 0)] mx60_13 mr60_13 2 (fun u20 g20 => .callp 64 #[.string (s10.extract x11.toNat x12.toNat)] (.tup [.agg [.int .i64, .int .i64, .str, .sl], .leaf (.int .i64), .leaf (.int .i64)]) (fun r21 => .new (.cells #[.int .i64 0, .int .i64 0, .string (bytesL []), .slice none 0 0] 125 (0, 0)) (fun n22 => .store ⟨n22, 0, none⟩ (.int .i64 r21.1.1) (.store ⟨n22, 1, none⟩ (.int .i64 r21.1.2.1) (.store ⟨n22, 2, none⟩ (.string r21.1.2.2.1) (.store ⟨n22, 3, none⟩ (.slice r21.1.2.2.2.1.1 r21.1.2.2.2.1.2.1 r21.1.2.2.2.1.2.2) (.br (r21.snd.snd.fst != 0) (.load (qa1.add 1) (.int .i64) (fun x23 => .callx 48 #[.int .i64 33, .int .i64 x23] (fun ch24 => .done (.panicked ch24)))) (.load ⟨n22, 2, none⟩ .str (fun s25 => .store (qa1.add 2) (.string s25) (.done (.returned (.tuple #[]))))))))))) (fun ch26 => .done (.panicked ch26))) (fun u27 g27 => .stuck)))))))) (fun u28 g28 => .stuck)))) := by kernel_rfl
/-- Is the byte one of those that may stand in a text? -/
def okc (c : UInt8) : Bool := decide (c.toNat < 32) || decide (126 < c.toNat)
theorem quoB_def (l : Txt) : quoB l = if (l.take (1 + cloB false l.tail)).any okc = true then none else match V.parseX (l.take (1 + cloB false l.tail)) with
    | .ok (x, _) => some (x.text.data.toList, l.drop (1 + cloB false l.tail))
    | .error _ => none := rfl
theorem cloB_cons (odd : Bool) (c : UInt8) (r : Txt) : cloB odd (c :: r) = if c = 34 ∧ odd = false then 1 else 1 + cloB (decide (c = 92) && !odd) r := rfl
def QuoR (w : World) (b n : Nat) (s : ByteArray) (i : Nat) (q : PQ) (e : Ending) (w' : World) : Prop := Ch (fun k => k = b ∨ k = n) w w' ∧ match quoB (rest s i) with
      | none => Thrown w w' e 33 (i : Nat)
      | some (t, r) => e = .returned (.tuple #[]) ∧ ∃ j, i < j ∧ j ≤ s.size ∧ r = rest s j ∧ PB w' b s j q ∧ TB w' n 3 (i : Nat) t 0
theorem any_take {l : Txt} {k : Nat} {c : UInt8} (hc : l[k]? = some c) : (l.take (k + 1)).any okc = ((l.take k).any okc || okc c) := by
  rw [List.take_add_one, hc, List.any_append]
  simp
theorem quo_tail (w : World) (b n : Nat) (s : ByteArray) (i : Nat) (q : PQ) (hG : GlE w) (hne : b ≠ n) (hbb : 11 ≤ b) (hnb : 11 ≤ n) (hs : s.size ≤ 100) (qa0 qa1 : Addr) (h0 : qa0 = ⟨b, 0, none⟩) (h1 : qa1 = ⟨n, 0, none⟩)
    (j : Nat) (w3 : World) (hij : i + 1 ≤ j) (hj : j ≤ s.size) (b3 : PB w3 b s j q) (n3 : TB w3 n 3 (i : Nat) [] 0) (h3 : Ch (fun k => k = b ∨ k = n) w w3) (hc : i + 1 + cloB false (rest s (i + 1)) = j) :
    wpT Tryz.prog (QuoR w b n s i q) (fun _ _ _ => False) (.drawn
      (.load qa0 .str (fun s10 =>
              .load (qa1.add 1) (.int .i64) (fun x11 =>
                .load (qa0.add 1) (.int .i64) (fun x12 =>
                  .need (Decidable.decide (0 ≤ x11 ∧ x11 ≤ x12 ∧ x12 ≤ (↑s10.size : Int)))
                    (.undrawn
                      (.loop (at_ Tryz.f60 [1, 1, 1, 1, 1, 0, 1, 0, 0]) 110 (fx60_13 qa1 s10 x11 x12) [(73, .int .i64 0)] mx60_13 mr60_13 2 (fun u20 g20 =>
                        .callp 64 #[.string (s10.extract x11.toNat x12.toNat)] (.tup [.agg [.int .i64, .int .i64, .str, .sl], .leaf (.int .i64), .leaf (.int .i64)]) (fun r21 =>
                          .new (.cells #[.int .i64 0, .int .i64 0, .string (bytesL []), .slice none 0 0] 125 (0, 0)) (fun n22 =>
                            .store ⟨n22, 0, none⟩ (.int .i64 r21.1.1)
                              (.store ⟨n22, 1, none⟩ (.int .i64 r21.1.2.1)
                                (.store ⟨n22, 2, none⟩ (.string r21.1.2.2.1)
                                  (.store ⟨n22, 3, none⟩ (.slice r21.1.2.2.2.1.1 r21.1.2.2.2.1.2.1 r21.1.2.2.2.1.2.2)
                                    (.br (r21.snd.snd.fst != 0)
                                      (.load (qa1.add 1) (.int .i64) (fun x23 =>
                                        .callx 48 #[.int .i64 33, .int .i64 x23] (fun ch24 =>
                                          .done (.panicked ch24))))
                                      (.load ⟨n22, 2, none⟩ .str (fun s25 =>
                                        .store (qa1.add 2) (.string s25)
                                          (.done (.returned (.tuple #[]))))))))))) (fun ch26 =>
                          .done (.panicked ch26))) (fun u27 g27 =>
                        .stuck)))))))) .pl w3 := by
  subst h0 h1
  simp only [addr_add, Nat.zero_add]
  have hd := (Ch.refl No w3).drew
  have b4 := b3.ch hd (fun h => h)
  have n4 : TB w3.drew n 3 (i : Nat) [] 0 := Blk.ch n3 hd (fun h => h)
  have h4 := h3.trans hd.no
  have hqd := quoB_def (rest s i)
  rw [V.rest_tail, show 1 + cloB false (rest s (i + 1)) = j - i by omega] at hqd
  refine dr_eq (lq_str b4.c0 (lq_int (Blk.cell n4 1) (lq_int b4.c1 (nd3 (by omega) (by omega) (by omega) (un_eq ?_)))))
  generalize w3.drew = w4 at *
  have hdrop : (rest s i).drop (j - i) = rest s j := by
    show List.drop (j - i) (List.drop i _) = List.drop j _
    rw [List.drop_drop, show i + (j - i) = j by omega]
  rw [hdrop] at hqd
  have hll : (s.extract ((i : Nat) : Int).toNat ((j : Nat) : Int).toNat).data.toList = (rest s i).take (j - i) := by rw [Int.toNat_natCast, Int.toNat_natCast, extract_list]
  have hzz : (s.extract ((i : Nat) : Int).toNat ((j : Nat) : Int).toNat).size = j - i := by
    rw [← sizeB, hll, List.length_take, restL]; omega
  obtain ⟨pc, hpc⟩ : ∃ pc, pc = s.extract ((i : Nat) : Int).toNat ((j : Nat) : Int).toNat := ⟨_, rfl⟩
  rw [← hpc] at hll hzz
  rw [← hll] at hqd
  refine loop_i mixed m60_13 s60_13 (by kernel_rfl) (by kernel_rfl)
    (fun (v : Int × Unit) w' => ∃ k : Nat, v.1 = (k : Nat) ∧ k ≤ pc.size ∧ w' = w4 ∧ (pc.data.toList.take k).any okc = false)
    (fun (v : Int × Unit) _ => pc.size - v.1.toNat) (0, ()) rfl ⟨0, rfl, by omega, rfl, rfl⟩ ?_
  · rintro ⟨_, ⟨⟩⟩ g w5 ⟨k, rfl, hk, rfl, hany⟩
    rw [t60_13]
    simp only [addr_add, Nat.zero_add]
    rw [← hpc]
    have bad : ∀ (hkk : k < pc.size), okc (pc[k]'hkk) = true → ∀ e w6, Ch No w5 w6 → Thrown w5 w6 e 33 (i : Nat) → QuoR w b n s i q e w6 := fun hkk ho e w6 h6 ht => by
      refine ⟨h4.trans h6.no, ?_⟩
      have hp := pk_rest (s := pc) (i := k) hkk
      have hget : pc.data.toList[k]? = some (pc[k]'hkk) := by
        have := rest_get (s := pc) (i := 0) (Nat.zero_le k) hp
        simpa [rest] using this
      rw [hqd, if_pos ?_]
      · exact ht.from h4.size
      · have h := any_take (l := pc.data.toList) hget
        rw [hany, ho, Bool.false_or] at h
        obtain ⟨x, hx, hx'⟩ := List.any_eq_true.1 h
        exact List.any_eq_true.2 ⟨x, List.mem_of_mem_take hx, hx'⟩
    refine br_both (fun e => ?_) fun e => ?_
    · have e := lt_t e
      have hkk : k < pc.size := by omega
      refine bi_i (by omega) hkk (br_both (fun e => ?_) fun e => ?_)
      · have e : (((pc[k]'hkk).toNat : Nat) : Int) < 32 := lt_t e
        refine ld_int (Blk.cell n4 1) (cx_i (giveUp_any _ _ w5) ?_)
        rintro r w6 ⟨h6, ht⟩
        obtain ⟨fb, f1, rfl, f3⟩ := ht
        exact ⟨_, rfl, bad hkk (by unfold okc; rw [decide_eq_true (show (pc[k]'hkk).toNat < 32 by omega)]; rfl) _ _ h6 ⟨fb, f1, rfl, f3⟩⟩
      have e1 : (32 : Int) ≤ (((pc[k]'hkk).toNat : Nat) : Int) := lt_f e
      refine bi_i (by omega) hkk (br_both (fun e => ?_) fun e => ?_)
      · have e : (126 : Int) < (((pc[k]'hkk).toNat : Nat) : Int) := gt_t e
        refine ld_int (Blk.cell n4 1) (cx_i (giveUp_any _ _ w5) ?_)
        rintro r w6 ⟨h6, ht⟩
        obtain ⟨fb, f1, rfl, f3⟩ := ht
        exact ⟨_, rfl, bad hkk (by unfold okc; rw [decide_eq_true (show 126 < (pc[k]'hkk).toNat by omega), Bool.or_true]) _ _ h6 ⟨fb, f1, rfl, f3⟩⟩
      · have e : (((pc[k]'hkk).toNat : Nat) : Int) ≤ 126 := gt_f e
        refine ⟨((IntKind.i64.wrap ((k : Int) + 1)), ()), rfl, ⟨k + 1, wrap_succ (by omega) (by omega), by omega, rfl, ?_⟩, ?_⟩
        · have hp := pk_rest (s := pc) (i := k) hkk
          have hget : pc.data.toList[k]? = some (pc[k]'hkk) := by
            have := rest_get (s := pc) (i := 0) (Nat.zero_le k) hp
            simpa [rest] using this
          rw [any_take hget, hany, Bool.false_or]
          unfold okc
          rw [decide_eq_false (by omega), decide_eq_false (by omega)]
          rfl
        · show pc.size - (IntKind.i64.wrap ((k : Int) + 1)).toNat < pc.size - ((k : Nat) : Int).toNat
          rw [wrap_succ (by omega) (by omega)]
          omega
    · have e : ((pc.size : Nat) : Int) ≤ (k : Int) := lt_f e
      refine ⟨rfl, (), rfl, fun g => ?_⟩
      rw [List.take_of_length_le (by rw [sizeB]; omega)] at hany
      rw [if_neg (by rw [hany]; exact Bool.false_ne_true)] at hqd
      have G5 : GlE w5 := hG.ch (B := 11) (h4.mono fun k h => by rcases h with rfl | rfl <;> assumption) (Nat.le_refl _)
      refine cp_i (V.parse_any w5 pc (by omega) G5.tabs G5.ev G5.big) ?_
      rintro e w6 ⟨h6, hp⟩
      have b6 := b4.ch h6 (fun h => h)
      have n6 : TB w6 n 3 (i : Nat) [] 0 := Blk.ch n4 h6 (fun h => h)
      have h06 := h4.trans h6.no
      have hnlt : n < w6.heap.size := Blk.lt n6
      have hblt : b < w6.heap.size := Blk.lt b6
      cases hx : V.parseX pc.data.toList with
      | error f =>
        rw [hx] at hp hqd
        subst hp
        refine .inl ⟨((0, 0, bytesL [], (none, 0, 0), ()), _, _, ()), rfl, ?_⟩
        refine nw fun w8 h8 z8 b8 => st_blk b8 (by simp) rfl fun w9 h9 z9 b9 => st_blk b9 (by simp) rfl fun w10 h10 z10 b10 => st_blk b10 (by simp) rfl fun w11 h11 z11 b11 => st_blk b11 (by simp) rfl fun w12 h12 z12 b12 => ?_
        have h812 := h9.trans (h10.trans (h11.trans h12))
        have n12 : TB w12 n 3 (i : Nat) [] 0 := Blk.ch (Blk.ch n6 h8 (fun h => h)) h812 (fun e : n = w6.heap.size => by omega)
        have H : Ch (fun k => k = b ∨ k = n) w w12 := (h06.trans h8.no).then_ h812 (fun i hi (e : i = w6.heap.size) => by have := h06.size; omega)
        have hf := V.parseX_er hx
        refine br_true (by simpa using hf) (ld_int (Blk.cell n12 1) (cx_i (giveUp_any _ _ w12) ?_))
        rintro r w13 ⟨h13, ht⟩
        obtain ⟨fb, f1, rfl, f3⟩ := ht
        refine ⟨_, rfl, H.trans h13.no, ?_⟩
        rw [hqd]
        exact ⟨fb, Nat.le_trans H.size f1, rfl, f3⟩
      | ok y =>
        obtain ⟨x, m⟩ := y
        rw [hx] at hp hqd
        obtain ⟨p, m', d, rfl, hI⟩ := hp
        refine .inl ⟨((x.kind, x.int, x.text, (p, m', d), ()), _, _, ()), rfl, ?_⟩
        refine nw fun w8 h8 z8 b8 => st_blk b8 (by simp) rfl fun w9 h9 z9 b9 => st_blk b9 (by simp) rfl fun w10 h10 z10 b10 => st_blk b10 (by simp) rfl fun w11 h11 z11 b11 => st_blk b11 (by simp) rfl fun w12 h12 z12 b12 => ?_
        have h812 := h9.trans (h10.trans (h11.trans h12))
        have n12 : TB w12 n 3 (i : Nat) [] 0 := Blk.ch (Blk.ch n6 h8 (fun h => h)) h812 (fun e : n = w6.heap.size => by omega)
        have b12' := (b6.ch h8 (fun h => h)).ch h812 (fun e : b = w6.heap.size => by omega)
        have H : Ch (fun k => k = b ∨ k = n) w w12 := (h06.trans h8.no).then_ h812 (fun i hi (e : i = w6.heap.size) => by have := h06.size; omega)
        refine br_false rfl (ld_str (b12.cell 2) (st_blk n12 (by simp) rfl fun w13 h13 z13 n13 => ⟨H.trans (h13.mono fun k h => .inr h), ?_⟩))
        rw [hqd]
        refine ⟨rfl, j, by omega, hj, rfl, b12'.ch h13 (fun e => hne e), ?_⟩
        show Blk _ _ [.int .i64 3, .int .i64 (i : Nat), .string (bytesL x.text.data.toList), .int .i64 0] _
        rw [show bytesL x.text.data.toList = x.text from ba_eq (tb_data _)]
        exact n13
theorem quoted_any (w : World) (b n : Nat) (s : ByteArray) (i : Nat) (q : PQ) (hb : PB w b s i q) (hn : TB w n 0 (i : Nat) [] 0) (hG : GlE w) (hne : b ≠ n) (hbb : 11 ≤ b) (hnb : 11 ≤ n) (hi : i < s.size) (hs : s.size ≤ 100) :
    Calls Tryz.prog 60 #[.pointer (some ⟨b, 0, none⟩), .pointer (some ⟨n, 0, none⟩)] w (QuoR w b n s i q) := by
  refine calls_of_fnT mixed Tryz.func60 (s := s60) ?_
  rw [t60]
  refine st_blk hn (by simp) rfl fun w1 h1 z1 n1 => ?_
  have b1 := hb.ch h1 (fun e => hne e)
  simp only [addr_add, Nat.zero_add]
  refine ld_int b1.c1 (st_next b1 (by omega) fun w2 h2 b2 => ?_)
  have n2 : TB w2 n 3 (i : Nat) [] 0 := Blk.ch n1 h2 (fun e => hne e.symm)
  have h02 : Ch (fun k => k = b ∨ k = n) w w2 := (h1.mono fun k h => .inr h).trans (h2.mono fun k h => .inl h)
  have hsz : (rest s (i + 1)).length = s.size - (i + 1) := restL s (i + 1)
  refine loop_i mixed m60_2 s60_2 (by kernel_rfl) (by kernel_rfl)
    (fun (v : Int × Unit) w' => ∃ j k : Nat, v.1 = (k : Nat) ∧ k ≤ j ∧ i + 1 ≤ j ∧ j ≤ s.size ∧ PB w' b s j q ∧ TB w' n 3 (i : Nat) [] 0 ∧ Ch (fun k => k = b ∨ k = n) w w' ∧ i + 1 + cloB false (rest s (i + 1)) = j + cloB (decide (k % 2 = 1)) (rest s j))
    (fun (_ : Int × Unit) w' => left_ b s w') (0, ()) rfl ⟨i + 1, 0, rfl, by omega, Nat.le_refl _, hi, b2, n2, h02, rfl⟩ ?_
  · rintro ⟨_, ⟨⟩⟩ g w3 ⟨j, k, rfl, hkj, hij, hj, b3, n3, h3, hc⟩
    rw [t60_2]
    simp only [addr_add, Nat.zero_add]
    have l3 : left_ b s w3 = s.size - j := left_at b3
    have hd := (Ch.refl No w3).drew
    have b4 := b3.ch hd (fun h => h)
    have n4 : TB w3.drew n 3 (i : Nat) [] 0 := Blk.ch n3 hd (fun h => h)
    have h4 := h3.trans hd.no
    refine dr_eq (lq_int b4.c1 (lq_str b4.c0 (un_eq ?_)))
    generalize w3.drew = w4 at *
    refine br_both (fun e => ?_) fun e => ?_
    · have e := lt_t e
      have hlt : j < s.size := by omega
      have hr := pk_rest hlt
      have hd4 := (Ch.refl No w4).drew
      have b5 := b4.ch hd4 (fun h => h)
      have n5 : TB w4.drew n 3 (i : Nat) [] 0 := Blk.ch n4 hd4 (fun h => h)
      have h5 := h4.trans hd4.no
      refine dr_eq (lq_str b5.c0 (lq_int b5.c1 (bi_i (by omega) hlt (un_eq ?_))))
      generalize w4.drew = w5 at *
      obtain ⟨c, hcc⟩ : ∃ c, c = s[j]'hlt := ⟨_, rfl⟩
      rw [show s[((j : Nat) : Int).toNat]'hlt = c from hcc.symm]
      rw [hr, ← hcc, cloB_cons] at hc
      refine ld_int b5.c1 (st_next b5 (by omega) fun w6 h6 b6 => ?_)
      have n6 : TB w6 n 3 (i : Nat) [] 0 := Blk.ch n5 h6 (fun e => hne e.symm)
      have h06 := h5.trans (h6.mono fun k h => .inl h)
      have hm : left_ b s w6 < left_ b s w3 := by rw [left_at b6, l3]; omega
      have h34 : ∀ {x : Nat}, x < 256 → ((c.toNat : Int) = (x : Int) ↔ c = UInt8.ofNat x) := fun {x} hx => by
        rw [← UInt8.toNat_inj, UInt8.toNat_ofNat_of_lt' hx]; omega
      have hq : ((c.toNat : Int) = 34 ↔ c = 34) := h34 (x := 34) (by omega)
      have hbs : ((c.toNat : Int) = 92 ↔ c = 92) := h34 (x := 92) (by omega)
      have hmod : (((k : Nat) : Int).tmod 2 == 0) = !decide (k % 2 = 1) := by
        rw [Int.tmod_eq_emod_of_nonneg (by omega)]
        by_cases hk : k % 2 = 1
        · rw [decide_eq_true hk, beq_eq_false_iff_ne.2 (by omega)]; rfl
        · rw [decide_eq_false hk, beq_iff_eq.2 (by omega)]; rfl
      have hodd : decide ((k + 1) % 2 = 1) = !decide (k % 2 = 1) := by
        by_cases hk : k % 2 = 1
        · rw [decide_eq_true hk, decide_eq_false (by omega)]; rfl
        · rw [decide_eq_false hk, decide_eq_true (by omega)]; rfl
      have go : (c = 34 ∧ decide (k % 2 = 1) = false → False) → ∀ k' : Nat, k' ≤ k + 1 → decide (k' % 2 = 1) = (decide (c = 92) && !decide (k % 2 = 1)) → i + 1 + cloB false (rest s (i + 1)) = (j + 1) + cloB (decide (k' % 2 = 1)) (rest s (j + 1)) := fun hno k' _ hk' => by
        rw [if_neg (fun h => hno h)] at hc
        rw [hc, hk']
        omega
      rw [hmod]
      refine br_both (fun e => ?_) fun e => ?_
      · have e : c = 34 := hq.1 (eq_t e)
        refine br_both (fun e2 => ?_) fun e2 => ?_
        · have e2 : decide (k % 2 = 1) = false := by simpa using e2
          rw [if_pos ⟨e, e2⟩] at hc
          refine ⟨rfl, (), rfl, fun g => ?_⟩
          have ht := quo_tail w b n s i q hG hne hbb hnb hs ⟨b, 0, none⟩ ⟨n, 0, none⟩ rfl rfl (j + 1) w6 (by omega) (by omega) b6 n6 h06 hc
          simp only [addr_add, Nat.zero_add] at ht
          exact ht
        · have e2 : decide (k % 2 = 1) = true := by simpa using e2
          have hno : c = 34 ∧ decide (k % 2 = 1) = false → False := fun h => by rw [e2] at h; cases h.2
          refine br_false (by rw [beq_eq_false_iff_ne]; intro h; rw [hbs.1 h] at e; exact absurd e (by decide)) ?_
          exact ⟨(0, ()), rfl, ⟨j + 1, 0, rfl, by omega, by omega, by omega, b6, n6, h06, go hno 0 (by omega) (by rw [e2]; simp)⟩, hm⟩
      · have e : c ≠ 34 := fun h => eq_f e (hq.2 h)
        have hno : c = 34 ∧ decide (k % 2 = 1) = false → False := fun h => e h.1
        refine br_both (fun e2 => ?_) fun e2 => ?_
        · have e2 : c = 92 := hbs.1 (eq_t e2)
          exact ⟨((IntKind.i64.wrap ((k : Int) + 1)), ()), rfl, ⟨j + 1, k + 1, wrap_succ (by omega) (by omega), by omega, by omega, by omega, b6, n6, h06, go hno (k + 1) (by omega) (by rw [hodd, decide_eq_true e2]; rfl)⟩, hm⟩
        · have e2 : c ≠ 92 := fun h => eq_f e2 (hbs.2 h)
          exact ⟨(0, ()), rfl, ⟨j + 1, 0, rfl, by omega, by omega, by omega, b6, n6, h06, go hno 0 (by omega) (by rw [decide_eq_false e2]; rfl)⟩, hm⟩
    · have e := lt_f e
      have hje : j = s.size := by omega
      have hr : rest s j = [] := List.drop_of_length_le (by have := sizeB s; omega)
      rw [hr] at hc
      refine ⟨rfl, (), rfl, fun g => ?_⟩
      have ht := quo_tail w b n s i q hG hne hbb hnb hs ⟨b, 0, none⟩ ⟨n, 0, none⟩ rfl rfl j w4 (by omega) hj b4 n4 h4 (by rw [hc]; rfl)
      simp only [addr_add, Nat.zero_add] at ht
      exact ht
end Go.Proofs.YtkebljkdkaagfaaGreatDoor.E
