/- Encode's answer; bytes as a string; does one list of bytes begin with the other? -/
import Derived.Test.YtjellmblammiaaaDoorCnt
import Derived.Laws.BytesString
namespace Go.Proofs.YtjellmblammiaaaDoor
open Go Tr
open Go.Lib (byteCells strCells)
set_option maxRecDepth 100000
/-! the tree of function 25 -/
def s25 : Script := .qt (.sym (.lit (.lit (.lit (.nd (.lit (.rn (.one (.leaf .str)) (.lit (.lit (.rn (.one (.leaf .str)) (.lit (.lit .nil))))))))))) (.lit (.lit (.lit (.lit (.lit (.lit (.lit (.lit .nil)))))))))
theorem t25 (qa0 : Option Addr) (qn0 : Nat) (qc0 : Nat) (qa1 : Option Addr) (qn1 : Nat) (qc1 : Nat) : fnT Tryd.prog Tryd.f25 #[.slice qa0 qn0 qc0, .slice qa1 qn1 qc1] s25 =
  .drawn
    (.br (Decidable.decide ((↑qn0 : Int) ≥ (↑qn1 : Int)))
      (.need (Decidable.decide (Int.ofNat 0 ≤ 0 ∧ 0 ≤ (↑qn1 : Int) ∧ (↑qn1 : Int) ≤ (↑qc0 : Int)))
        (.run (vNext (convert 29 9 (.slice (if qc0 = 0 then qa0 else Option.map (fun q ↦ q.add (0 * 1)) qa0) (qn1 - 0) (qc0 - 0)))) (.one (.leaf .str)) (fun s1 =>
          .run (vNext (convert 29 9 (.slice qa1 qn1 qc1))) (.one (.leaf .str)) (fun s2 =>
            .undrawn
              (.done (.returned (.bool (s1.toList == s2.toList))))))))
      (.undrawn
        (.done (.returned (.bool false))))) := by kernel_rfl


/-! ### Bytes that stand somewhere -/
def AtB (w : World) (p : Option Addr) (n : Nat) (bs : List UInt8) : Prop := bs.length = n ∧ (0 < n → ∃ ad, p = some ad ∧ ∀ (j : Nat) (u : UInt8), bs[j]? = some u → w.cell? (ad.add j) = some (.int .u8 u.toNat))
theorem AtB.no {w w' : World} {p : Option Addr} {n : Nat} {bs : List UInt8} (h : AtB w p n bs) (hc : Ch No w w') : AtB w' p n bs := ⟨h.1, fun hn => by
  obtain ⟨ad, e, hj⟩ := h.2 hn
  exact ⟨ad, e, fun j u hu => hc.cellv (hj j u hu) (fun h => h)⟩⟩
theorem RowB.at {w : World} {base : Nat} {p : Option Addr} {n c : Nat} {bs : List UInt8} (h : RowB w base p n c bs) : AtB w p n bs := ⟨h.len, fun hn => by
  rcases h.2 with ⟨_, rfl⟩ | ⟨g, cap, cur, e, _⟩
  · omega
  · simp only [Value.slice.injEq, true_and] at e
    obtain ⟨rfl, rfl⟩ := e
    refine ⟨_, rfl, fun j u hu => ?_⟩
    exact World.ownsRow.cells (g := g) h rfl j _ (by simp [byteCells, hu])⟩
theorem AtB.take {w : World} {p : Option Addr} {n m : Nat} {bs : List UInt8} (h : AtB w p n bs) (hm : m ≤ n) : AtB w p m (bs.take m) := ⟨by rw [List.length_take, h.1]; omega, fun hn => by
  obtain ⟨ad, e, hj⟩ := h.2 (by omega)
  refine ⟨ad, e, fun j u hu => hj j u ?_⟩
  rw [List.getElem?_take] at hu
  split at hu
  · exact hu
  · cases hu⟩
theorem foldl_push (l : List UInt8) : ∀ (s : ByteArray), (l.map fun b => ((b.toNat : Nat) : Int)).foldl (fun r n => r.push (UInt8.ofNat n.toNat)) s = ⟨s.data ++ l.toArray⟩ := by
  induction l with
  | nil => intro s; simp
  | cons b r ih =>
    intro s
    simp only [List.map_cons, List.foldl_cons]
    rw [ih]
    congr 1
    simp [ByteArray.push]
theorem run_conv {w : World} {p : Option Addr} {n c : Nat} {bs : List UInt8} (h : AtB w p n bs) : (vNext (convert 29 9 (.slice p n c))).run Tryd.prog w = .ok (.value (.string ⟨bs.toArray⟩)) w := by
  have key : (convert 29 9 (.slice p n c)).run Tryd.prog w = .ok (.string ⟨bs.toArray⟩) w := by
    rw [run_convert_bytes_string w 29 9 5 p n c (by kernel_rfl) (by kernel_rfl) (by kernel_rfl)]
    cases p with
    | none =>
      have h0 : n = 0 := by
        rcases Nat.eq_zero_or_pos n with h0 | h0
        · exact h0
        · obtain ⟨_, e, _⟩ := h.2 h0
          cases e
      have : bs = [] := List.eq_nil_of_length_eq_zero (by rw [h.1, h0])
      subst this
      rfl
    | some ad =>
      have hl : (loadCells ad n).run Tryd.prog w = .ok (((bs.map fun b => ((b.toNat : Nat) : Int)).map (Value.int .u8))).toArray w := by
        have h2 := run_loadCells_list (P := Tryd.prog) w ad (byteCells bs) (fun j v hv => by
          simp only [byteCells, List.getElem?_map, Option.map_eq_some_iff] at hv
          obtain ⟨b, hb, rfl⟩ := hv
          have hlt := (List.getElem?_eq_some_iff.1 hb).1
          obtain ⟨ad', e, hj⟩ := h.2 (by have := h.1; omega)
          cases e
          exact hj j b hb)
        rw [Lib.byteCells_length, h.1] at h2
        rw [h2]
        simp [byteCells, Function.comp_def]
      rw [run_bytesToString w ad n c _ hl, foldl_push]
      congr 2
      simp
  unfold vNext
  simp only [Sem.run_bind, key, Result.andThen]
  rfl
section
variable {R : Ending → World → Prop} {Q : Exit → List (Tmp × Value) → World → Prop} {md : Md} [hmd : md.Runs] {w : World}
theorem cv_b {k : ByteArray → T} {p : Option Addr} {n c : Nat} {bs : List UInt8} (h : AtB w p n bs) (hk : wpT Tryd.prog R Q (k ⟨bs.toArray⟩) md w) : wpT Tryd.prog R Q (.run (vNext (convert 29 9 (.slice p n c))) (.one (.leaf .str)) k) md w := t_run (x := ⟨bs.toArray⟩) (run_conv h) hk
end
theorem begins_any (w : World) (p : Option Addr) (n c : Nat) (q : Option Addr) (m d : Nat) (xs bs : List UInt8) (ha : AtB w p n xs) (hb : AtB w q m bs) (hnc : n ≤ c) :
    Calls Tryd.prog 25 #[.slice p n c, .slice q m d] w fun e w' => e = .returned (.bool (decide (bs <+: xs))) ∧ Ch No w w' := by
  refine calls_of_fnT mixed Tryd.func25 (s := s25) ?_
  rw [t25]
  refine ⟨fun w' => Ch No w w', (Ch.refl _ _).drew, br_both (fun e => ?_) fun e => ?_⟩
  · have e : m ≤ n := by have := of_decide_eq_true e; omega
    refine ⟨by simp; omega, ?_⟩
    have hp : (if c = 0 then p else Option.map (fun q => q.add (0 * 1)) p) = p := by
      split
      · rfl
      · cases p with
        | none => rfl
        | some a =>
          have : a.add (0 * 1) = a := by
            cases a with
            | mk b i s => cases s <;> rfl
          simp [this]
    rw [hp]
    refine ⟨⟨(xs.take m).toArray⟩, fun w' hw => run_conv (ha.no hw |>.take e), ⟨bs.toArray⟩, fun w' hw => run_conv (hb.no hw), fun w' hw => ⟨?_, hw⟩⟩
    congr 2
    rw [Bool.eq_iff_iff, decide_eq_true_eq]
    rw [ByteArray.toList_eq, ByteArray.toList_eq]
    simp only [beq_iff_eq]
    rw [List.prefix_iff_eq_take, hb.1]
    exact ⟨fun h => h.symm, fun h => h.symm⟩
  · have e : ¬ m ≤ n := by have := of_decide_eq_false e; omega
    refine fun w' hw => ⟨?_, hw⟩
    congr 2
    refine (decide_eq_false fun h => ?_).symm
    have := h.length_le
    rw [ha.1, hb.1] at this
    omega

/-! ### Encode -/
theorem groups_zig (i : Int) (h : Rng i) : (groupsB (zig i)).length ≤ 10 := by
  refine groupsB_len 10 _ ?_ (by omega)
  unfold zig
  obtain ⟨h0, h1⟩ := h
  split <;> omega
theorem enc_len (k : Nat) : ∀ (x : VT) (n depth : Int), SizeOf.sizeOf x < k → Fit x → (partV n depth x).1 = 0 → ((encV x).length : Int) ≤ 30 * ((partV n depth x).2 - n) := by
  induction k with
  | zero => intro x n depth h; omega
  | succ k ih =>
    intro x n depth hk hf
    have key : ∀ (l : List VT) (n : Int), (∀ z ∈ l, SizeOf.sizeOf z < k) → FitL l → (partL n depth l).1 = 0 → ((encL l).length : Int) ≤ 30 * ((partL n depth l).2 - n) := by
      intro l
      induction l with
      | nil => intro n _ _ _; simp [partL, encL]
      | cons z r ihl =>
        intro n hz hf
        simp only [FitL] at hf
        simp only [partL, encL, List.length_append]
        by_cases he : (partV n (depth + 1) z).1 = 0
        · rw [if_neg (fun h => h he)]
          intro h
          have h1 := ih z n (depth + 1) (hz z (.head _)) hf.1 he
          have h2 := ihl _ (fun u hu => hz u (.tail _ hu)) hf.2 h
          omega
        · rw [if_pos he]; exact fun h => absurd h he
    rw [partV_def, encV_def]
    rw [Fit_def] at hf
    by_cases h12 : n + 1 > 12
    · rw [if_pos h12]; intro h; simp at h
    rw [if_neg h12]
    by_cases c1 : x.kind < 0 ∨ x.kind > 3
    · rw [if_pos c1]; intro h; simp at h
    rw [if_neg c1]
    by_cases c2 : (x.int ≠ 0 ∧ x.kind ≠ 1) ∨ (x.text.toList ≠ [] ∧ x.kind ≠ 2) ∨ (0 < x.items.length ∧ x.kind ≠ 3)
    · rw [if_pos c2]; intro h; simp at h
    rw [if_neg c2]
    by_cases c3 : x.kind = 3 ∧ depth ≥ 3
    · rw [if_pos c3]; intro h; simp at h
    rw [if_neg c3]
    by_cases c4 : x.text.size > 24
    · rw [if_pos c4]; intro h; simp at h
    rw [if_neg c4]
    by_cases c5 : x.items.length > 6
    · rw [if_pos c5]; intro h; simp at h
    rw [if_neg c5]
    intro h
    have hl := key x.items (n + 1) (fun z hz => by
      obtain ⟨i, hi⟩ := List.getElem?_of_mem hz
      have := VT.size_lt hi
      omega) hf.2.2.2 h
    have hle : n + 1 ≤ (partL (n + 1) depth x.items).2 := by
      have : (0 : Int) ≤ (encL x.items).length := by omega
      omega
    split
    · have := groups_zig x.int hf.2.1
      simp only [List.length_cons]; omega
    split
    · have : x.text.data.toList.length = x.text.size := by simp
      simp only [List.length_cons, this]; omega
    split
    · simp only [List.length_cons]; omega
    · simp only [List.length_cons, List.length_nil]; omega
/-- Encode's bytes. -/
def encodeV (x : VT) : List UInt8 := encV (validV x)
theorem noneV_fit : Fit noneV := by
  rw [Fit_def]
  exact ⟨by unfold Rng; decide, by unfold Rng; decide, by decide, trivial⟩
theorem validV_fit {x : VT} (h : Fit x) : Fit (validV x) := by
  unfold validV
  split
  · exact h
  · exact noneV_fit
theorem encodeV_len {x : VT} (h : Fit x) : (encodeV x).length ≤ 360 := by
  unfold encodeV validV
  by_cases hc : checkV x = 0
  · rw [if_pos hc]
    have h1 := enc_len _ x 0 0 (Nat.lt_succ_self _) h hc
    have h2 := (partV_bound x 0 0 (by omega) (by omega)).2.2 hc
    omega
  · rw [if_neg hc]
    simp [noneV, encV]
theorem valid_is {x : VT} {p : Option Addr} {m c : Nat} {w : World} (hx : IsV w x p m c) : ∃ px mx cx, (∀ w', Ch No w w' → IsV w' (validV x) px mx cx) ∧ (if checkV x = 0 then valV x p m c else valV noneV none 0 0) = valV (validV x) px mx cx := by
  unfold validV
  by_cases h : checkV x = 0
  · rw [if_pos h, if_pos h]; exact ⟨p, m, c, fun w'' hw => hx.no hw, rfl⟩
  · rw [if_neg h, if_neg h]; exact ⟨none, 0, 0, fun w'' hw => noneV_is _, rfl⟩
/-! the tree of function 14 -/
def s14 : Script := .ld (.int .i64) (.ld (.int .i64) (.ld .str (.ld .sl (.cl (.one (.agg [.int .i64, .int .i64, .str, .sl])) (.cl (.one (.leaf .sl)) .nil)))))
theorem t14 (qx0_0 : Int) (qx0_1 : Int) (qs0_2 : ByteArray) (qa0_3 : Option Addr) (qn0_3 : Nat) (qc0_3 : Nat) : fnT Tryd.prog Tryd.f14 #[.agg #[.int .i64 qx0_0, .int .i64 qx0_1, .string qs0_2, .slice qa0_3 qn0_3 qc0_3]] s14 =
  .new (.cells #[.int .i64 qx0_0, .int .i64 qx0_1, .string qs0_2, .slice qa0_3 qn0_3 qc0_3] 24 (0, 0)) (fun n1 =>
    .load ⟨n1, 0, none⟩ (.int .i64) (fun x2 =>
      .load ⟨n1, 1, none⟩ (.int .i64) (fun x3 =>
        .load ⟨n1, 2, none⟩ .str (fun s4 =>
          .load ⟨n1, 3, none⟩ .sl (fun l5 =>
            .call 27 #[.agg #[.int .i64 x2, .int .i64 x3, .string s4, .slice l5.1 l5.2.1 l5.2.2]] (.one (.agg [.int .i64, .int .i64, .str, .sl])) (fun r6 =>
              .call 36 #[.slice none 0 0, .agg #[.int .i64 r6.1, .int .i64 r6.2.1, .string r6.2.2.1, .slice r6.2.2.2.1.1 r6.2.2.2.1.2.1 r6.2.2.2.1.2.2]] (.one (.leaf .sl)) (fun l7 =>
                .done (.returned (.slice l7.1 l7.2.1 l7.2.2))))))))) := by kernel_rfl

theorem Encode_any (x : VT) (p : Option Addr) (m c : Nat) (w : World) (hx : IsV w x p m c) (hf : Fit x) :
    Calls Tryd.prog 14 #[valV x p m c] w fun e w' => ∃ q n d, e = .returned (.slice q n d) ∧ RowB w' w.heap.size q n d (encodeV x) ∧ Ch No w w' := by
  refine calls_of_fnT mixed Tryd.func14 (s := s14) ?_
  unfold valV
  rw [t14]
  refine nw fun w1 h1 z1 b1 => ?_
  refine ld_int (b1.cell 0) (ld_int (b1.cell 1) (ld_str (b1.cell 2) (ld_sl (b1.cell 3) ?_)))
  obtain ⟨px, mx, cx, hv, ev⟩ := valid_is hx
  refine cl_i (valid_any x p m c w1 (hx.no h1)) ?_
  rintro e w2 ⟨rfl, h2⟩
  rw [ev]
  refine ⟨((validV x).kind, (validV x).int, (validV x).text, (px, mx, cx), ()), rfl, ?_⟩
  have hlen := encodeV_len hf
  refine cl_i (encode_any _ (validV x) px mx cx w w2 none 0 0 [] (Nat.lt_succ_self _) (hv w (Ch.refl _ _)) (validV_fit hf) (h1.trans h2) (Row.nil _ _ _ _) (by unfold encodeV at hlen; omega)) ?_
  rintro e w3 ⟨q, n, d, rfl, g⟩
  refine ⟨(q, n, d), rfl, q, n, d, rfl, g.own, (h1.trans h2).then_ g.ch (fun i hi h => ?_)⟩
  cases h
end Go.Proofs.YtjellmblammiaaaDoor
