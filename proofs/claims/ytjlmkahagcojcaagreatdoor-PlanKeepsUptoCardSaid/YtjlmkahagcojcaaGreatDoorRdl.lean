/- A script's line: the walk. -/
import Derived.Test.YtjlmkahagcojcaaGreatDoorRdf
namespace Go.Proofs.YtjlmkahagcojcaaGreatDoor
open Go Tr
set_option maxRecDepth 100000
theorem kind_iff (W : List UInt8) : ∀ i : Nat, 1 ≤ i → i ≤ 9 → ∀ x, stepsL[i]? = some x → (x.1 = W ↔ kindM W = i) := by
  have h1 : ∀ i : Fin 10, 1 ≤ i.val → ∀ x, stepsL[i.val]? = some x → kindM x.1 = i.val := by decide
  intro i hi hi9 x hx
  constructor
  · rintro rfl
    exact h1 ⟨i, by omega⟩ hi x hx
  · intro hk
    unfold kindM at hk
    split at hk
    · rename_i j hj
      have hj2 : j = i - 1 := by omega
      obtain ⟨hlt, hw, _⟩ := List.findIdx?_eq_some_iff_getElem.1 hj
      have : stepsL[i]? = stepsM[j]? := by
        unfold stepsL
        rw [show i = j + 1 by omega, List.getElem?_cons_succ]
      rw [this, List.getElem?_eq_getElem hlt] at hx
      cases hx
      simpa using hw
    · omega
theorem kind_le (W : List UInt8) : kindM W ≤ 9 := by
  unfold kindM
  split
  · rename_i j hj
    obtain ⟨hlt, _, _⟩ := List.findIdx?_eq_some_iff_getElem.1 hj
    have : stepsM.length = 9 := rfl
    omega
  · omega
theorem keep_len (L : Nat) : ∀ (f : Nat) (r : List UInt8) (acc l : List Int), keepM L f r acc = .ok l → l.length ≤ acc.length + r.length
  | 0, r, acc, l, h => by unfold keepM at h; cases h; omega
  | f + 1, r, acc, l, h => by
    unfold keepM at h
    by_cases hs : skipS r = []
    · rw [if_pos hs] at h; cases h; omega
    · rw [if_neg hs] at h
      cases hn : numberM L true r with
      | error e => rw [hn] at h; cases h
      | ok v =>
        obtain ⟨n, r'⟩ := v
        rw [hn] at h
        have := keep_len L f r' _ l h
        obtain ⟨rfl, _⟩ := number_ok hn
        have := after_lt hs
        rw [List.length_append, List.length_singleton] at *
        omega
theorem after_le (r : List UInt8) : (afterS r).length ≤ r.length := (after_suf r).length_le
theorem op_keep {L k : Nat} {r : List UInt8} {o : OpM} (h : opM L k r = .ok o) : o.keep.length ≤ r.length := by
  unfold opM at h
  split at h
  · unfold recoverM at h
    split at h
    · split at h
      · cases h
      · rename_i n r' hn
        obtain ⟨rfl, _⟩ := number_ok hn
        split at h
        · cases h
        · rename_i l hl
          cases h
          have h1 := keep_len _ _ _ _ _ hl
          have h2 := after_le (afterS r)
          have h3 := after_le r
          simp only [List.length_nil] at h1
          dsimp only
          omega
    · split at h
      · cases h
      · rename_i l hl
        cases h
        have h1 := keep_len _ _ _ _ _ hl
        simpa using h1
  · split at h
    · unfold failM at h
      split at h
      · cases h
      · split at h
        · split at h
          · cases h
          · split at h <;> cases h
            simp
        · split at h
          · cases h; simp
          · cases h
    · unfold plainM at h
      split at h
      · split at h <;> cases h
        simp
      · split at h
        · cases h
        · split at h
          · split at h <;> cases h
            simp
          · split at h
            · cases h
            · split at h <;> cases h
              simp
theorem ptrs_cons (e : Ent) (es : List Ent) : ptrs (e :: es) = ptrs es ++ [.pointer (some ⟨e.id, 0, none⟩)] := by
  unfold ptrs; rw [List.reverse_cons, List.map_append]; rfl
theorem ptrs_len (es : List Ent) : (ptrs es).length = es.length := by simp [ptrs]
theorem RdS.top {w : World} {nr : Nat} {q : Option Addr} {m d : Nat} {e0 : Ent} {es : List Ent} {xs : List BlkM} (h : RdS w nr q m d (e0 :: es) xs) : ∃ g, q = some ⟨g, 0, none⟩ ∧ m = es.length + 1 ∧ w.cell? ⟨g, es.length, none⟩ = some (.pointer (some ⟨e0.id, 0, none⟩)) := by
  have hl := h.row.len
  rw [ptrs_len, Nat.mul_one, List.length_cons] at hl
  obtain ⟨g, hq, _, hc⟩ := h.row.get (by omega)
  refine ⟨g, hq, hl.symm, hc _ _ ?_⟩
  rw [ptrs_cons, List.getElem?_append_right (by rw [ptrs_len]; exact Nat.le_refl _), ptrs_len, Nat.sub_self]
  rfl
/-- The innermost block is taken off. -/
theorem RdS.pop {w w' : World} {nr : Nat} {q : Option Addr} {m d : Nat} {e0 e1 : Ent} {es : List Ent} {x0 : BlkM} {xs : List BlkM} (h : RdS w nr q m d (e0 :: e1 :: es) (x0 :: xs)) (hc : Ch (· = nr) w w') (hb : Blk w' nr [.slice q (m - 1) d] tRd) : RdS w' nr q (m - 1) d (e1 :: es) xs := by
  obtain ⟨g, _, hm, _⟩ := h.top
  have he := h.ents
  cases he with
  | cons _ _ _ _ h0 h1 =>
    refine ⟨hb, ?_, h1.frame hc (noTy_blk h.blk (by decide)) (noTy_blk h.blk (by decide)) (noTy_blk h.blk (by decide)) (noTy_blk h.blk (by decide)), (List.pairwise_cons.1 h.apart).2, by have := h.len; simp only [List.length_cons] at this; omega, fun i e hi h0 => h.nn i e ?_ h0, fun x hx => h.few x (.tail _ hx)⟩
    · have := (h.row.take (m := m - 1) (by omega)).ch hc (fun k hk e => by subst e; exact (h.row.take (m := m - 1) (by omega)).ne h.blk (by decide) hk)
      rw [ptrs_cons, Nat.mul_one, List.take_append_of_le_length (by rw [ptrs_len]; omega), List.take_of_length_le (by rw [ptrs_len]; omega)] at this
      exact this
    · rw [List.reverse_cons, List.getElem?_append_left (List.getElem?_eq_some_iff.1 hi).1]
      exact hi
theorem line_def (no : Nat) (l : List UInt8) (top : BlkM) (below : List BlkM) : lineM no l (top :: below) =
    if wordS l = wRepeat then repM l.length no (l.length - (skipS l).length) (afterS l) (top :: below)
    else if wordS l = wEnd then match below with
      | [] => .error (l.length - (skipS l).length, 66)
      | around :: rest => match endM l.length (afterS l) with
        | .error e => .error e
        | .ok _ => if 2000 < around.ops.length + top.times * top.ops.length then .error (l.length - (skipS l).length, 65)
          else .ok ({ around with ops := around.ops ++ (List.replicate top.times top.ops).flatten } :: rest)
    else if kindM (wordS l) = 0 then .error (l.length - (skipS l).length, 61)
    else match opM l.length (kindM (wordS l)) (afterS l) with
      | .error e => .error e
      | .ok o => if top.ops.length = 2000 then .error (l.length - (skipS l).length, 65)
        else .ok ({ top with ops := top.ops ++ [o] } :: below) := rfl
set_option maxHeartbeats 1000000 in
theorem line_any (nr bc : Nat) (q : Option Addr) (m d : Nat) (e0 : Ent) (es : List Ent) (x0 : BlkM) (xs : List BlkM) (s : ByteArray) (no : Nat) (w : World) (h : RdS w nr q m d (e0 :: es) (x0 :: xs)) (hl : (x0 :: xs).length ≤ 8990) (hf : Fresh bc (e0 :: es)) (hc : Cur w bc s no s.data.toList) (hs : s.size ≤ 10000)
    (G : Glob w) (hb2 : nG ≤ bc) (ht2 : ∀ k, Tch nr q m d (e0 :: es) k → nG ≤ k) :
    Calls Tryz.prog 21 #[.pointer (some ⟨nr, 0, none⟩), .pointer (some ⟨bc, 0, none⟩)] w (LineRes nr bc q m d (e0 :: es) no (lineM no s.data.toList (x0 :: xs)) w) := by
  refine calls_of_fnT mixed Tryz.func21 (s := s21) ?_
  rw [t21]
  have hsl : s.data.toList.length = s.size := rfl
  refine cl_i (next_any bc s no _ w hc (by omega)) ?_
  rintro e w1 ⟨rfl, h1, c1⟩
  refine ⟨(_, _, ()), rfl, ?_⟩
  have R1 := h.curs hc.blk hf h1
  obtain ⟨g0, hq, hm, htop⟩ := R1.top
  have sub : ∀ {w'}, Ch (· = bc) w w' → Ch (fun k => k = bc ∨ Tch nr q m d (e0 :: es) k) w w' := fun h => h.mono fun k h => .inl h
  refine cut_i mixed s21_2 (fun (v : Option Addr × Unit) w' => w' = w1.drew ∧ v = (some ⟨e0.id, 0, none⟩, ())) (by kernel_rfl) (fun g => ?_) ?_
  · rw [t21_2]
    have Rd := R1.no (Ch.refl No w1).drew
    refine dr_eq (lq_sl (Rd.blk.cell 0) (lq_sl (Rd.blk.cell 0) ?_))
    rw [hq]
    have e1 : IntKind.i64.wrap ((m : Int) - 1) = (es.length : Int) := by
      have := h.len; have := h.ents.len
      simp only [List.length_cons] at *
      rw [wrap_in (by omega) (by omega)]; omega
    rw [e1]
    refine ix_i (by omega) (by show (es.length : Int) < (m : Int); omega) ?_
    rw [addr_add, Nat.zero_add, Nat.mul_one, Int.toNat_natCast]
    exact lq_ptr htop (un_eq ⟨rfl, (_, ()), rfl, rfl, rfl⟩)
  rintro v g w2 ⟨rfl, rfl⟩
  have h2 : Ch (· = bc) w w1.drew := h1.drew
  have R2 := R1.no (Ch.refl No w1).drew
  have c2 : Cur w1.drew bc s no _ := ⟨c1.suf, c1.blk⟩
  have G2 : Glob w1.drew := G.ch h2 (fun i hi e => by omega)
  clear h1 c1 htop
  generalize w1.drew = w2 at *
  dsimp only
  rw [tb_list, tb_list, tb_list]
  rw [line_def, hsl]
  refine br_both (fun e => ?_) fun e => ?_
  · have hw : wordS s.data.toList = wRepeat := eq_of_beq e
    rw [if_pos hw]
    refine cl_i (rep_any nr bc q m d (e0 :: es) x0 (x0 :: xs) s no _ _ w2 R2 hl hf c2 hs (by simp)) ?_
    rintro e w3 ⟨h3, hr⟩
    have H3 : Ch (fun k => k = bc ∨ Tch nr q m d (e0 :: es) k) w w3 := (sub h2).trans h3
    have hsz := h2.size
    revert hr
    generalize repM s.size no (s.size - (skipS s.data.toList).length) (afterS s.data.toList) (x0 :: xs) = X
    intro hr
    cases X with
    | error er =>
      obtain ⟨pl, cd⟩ := er
      obtain ⟨v, rfl, hv⟩ := hr
      exact ⟨v, rfl, H3, v, rfl, hv⟩
    | ok xs' =>
      obtain ⟨rfl, q', m', d', es', hR, ht⟩ := hr
      exact ⟨.nilIface, rfl, H3, rfl, q', m', d', es', hR, fun k hk => (ht k hk).imp id (fun h => by omega)⟩
  have hw : wordS s.data.toList ≠ wRepeat := fun h => by rw [h] at e; cases e
  rw [if_neg hw]
  clear e
  refine br_both (fun e => ?_) fun e => ?_
  · have hw : wordS s.data.toList = wEnd := eq_of_beq e
    rw [if_pos hw]
    clear e
    refine ld_sl (R2.blk.cell 0) (br_both (fun e => ?_) fun e => ?_)
    · have hm1 : m = 1 := by have := eq_t e; dsimp only at this; omega
      have hx : xs = [] := by
        have := h.ents.len
        simp only [List.length_cons] at this
        exact List.eq_nil_of_length_eq_zero (by omega)
      subst hx
      refine cl_i (fault_any bc s no _ _ 66 w2 c2) ?_
      rintro e w3 ⟨v, rfl, hv, h3⟩
      exact ⟨v, rfl, sub (h2.trans h3.no), v, rfl, hv⟩
    have hm1 : m ≠ 1 := fun h => eq_f e (by dsimp only; omega)
    obtain ⟨e1, es, rfl⟩ : ∃ a b, es = a :: b := by
      cases es with
      | nil => exact absurd hm hm1
      | cons a b => exact ⟨a, b, rfl⟩
    obtain ⟨x1, xs, rfl⟩ : ∃ a b, xs = a :: b := by
      cases xs with
      | nil => have := h.ents.len; simp at this
      | cons a b => exact ⟨a, b, rfl⟩
    clear e
    refine cl_i (end_any bc s no _ w2 c2 (by omega)) ?_
    rintro e w3 ⟨h3, c3, hmm⟩
    have H3 := h2.trans h3
    have R3 := R2.curs c2.blk hf h3
    cases he : endM s.size (afterS s.data.toList) with
    | error er =>
      obtain ⟨pl, cd⟩ := er
      rw [he] at hmm
      obtain ⟨v, rfl, hv⟩ := hmm
      exact ⟨v, rfl, ne_err hv (br_true rfl ⟨sub H3, v, rfl, hv⟩)⟩
    | ok u =>
      rw [he] at hmm
      subst hmm
      refine ⟨.nilIface, rfl, ne_nil (br_false rfl ?_)⟩
      dsimp only
      simp only [List.length_cons] at hm hl
      have ew : IntKind.i64.wrap ((m : Int) - 1) = ((es.length + 1 : Nat) : Int) := by
        have := h.len; have := h.ents.len
        simp only [List.length_cons] at *
        rw [wrap_in (by omega) (by omega)]; omega
      have hcap := R3.row.cap
      refine cut_i mixed s21_13 (fun (v : Unit) w' => Ch (· = nr) w3 w' ∧ Blk w' nr [.slice q (m - 1) d] tRd) (by kernel_rfl) (fun g => ?_) ?_
      · rw [t21_13]
        refine hd_i (fun _ => True) trivial ?_
        have Rd := R3.no (Ch.refl No w3).drew
        have hd := (Ch.refl (· = nr) w3).drew
        generalize w3.drew = w3d at *
        have stp : ∀ {Q : Exit → List (Tmp × Value) → World → Prop}, (∀ w', Ch (· = nr) w3 w' → Blk w' nr [.slice q (m - 1) d] tRd → wpT Tryz.prog (LineRes nr bc q m d (e0 :: e1 :: es) no (if 2000 < x1.ops.length + x0.times * x0.ops.length then (.error (s.size - (skipS s.data.toList).length, 65) : PRes (List BlkM)) else .ok ({ x1 with ops := x1.ops ++ (List.replicate x0.times x0.ops).flatten } :: xs)) w) Q (.fin .normal []) .pl w') →
            wpT Tryz.prog (LineRes nr bc q m d (e0 :: e1 :: es) no (if 2000 < x1.ops.length + x0.times * x0.ops.length then (.error (s.size - (skipS s.data.toList).length, 65) : PRes (List BlkM)) else .ok ({ x1 with ops := x1.ops ++ (List.replicate x0.times x0.ops).flatten } :: xs)) w) Q (.need (Decidable.decide (Int.ofNat 0 ≤ 0 ∧ 0 ≤ IntKind.i64.wrap ((m : Int) - 1) ∧ IntKind.i64.wrap ((m : Int) - 1) ≤ (d : Int)))
              (.eff (.store ⟨nr, 0, none⟩ (.slice (if d = 0 then q else Option.map (fun q => q.add (0 * 1)) q) ((IntKind.i64.wrap ((m : Int) - 1)).toNat - 0) (d - 0)) (.back (.undrawn (.fin .normal [])))))) (.he (fun _ => True)) w3d := by
          intro Q hk
          rw [ew]
          refine nd3 (by decide) (by omega) (by omega) (eff_i ?_)
          have hv : Value.slice (if d = 0 then q else Option.map (fun q => q.add (0 * 1)) q) ((((es.length + 1 : Nat) : Int)).toNat - 0) (d - 0) = .slice q (m - 1) d := by
            rw [hq, Int.toNat_natCast, Nat.sub_zero, Nat.sub_zero, hm]
            simp only [Option.map_some, addr_add, Nat.mul_one, Nat.zero_add, ite_self]
            simp
          rw [hv]
          exact st_blk Rd.blk (by simp) rfl fun w4 h4 z4 b4 => bk trivial (un_h (hk w4 (hd.trans h4) b4))
        refine ⟨?_, ?_, trivial⟩
        · exact eff_i (ld_sl (Rd.blk.cell 0) (bk trivial (eff_i (ld_sl (Rd.blk.cell 0) (bk trivial (stp fun w' hc hb => ⟨rfl, (), rfl, hc, hb⟩))))))
        · exact eff_i (ld_sl (Rd.blk.cell 0) (bk trivial (eff_i (ld_sl (Rd.blk.cell 0) (bk trivial (stp fun w' hc hb => ⟨rfl, (), rfl, hc, hb⟩))))))
      rintro v g w4 ⟨h4, b4⟩
      have hents := R3.ents
      obtain ⟨hE0, hE1, hErest⟩ : EntOk w3 e0 x0 ∧ EntOk w3 e1 x1 ∧ Ents w3 es xs := by
        cases hents with
        | cons _ _ _ _ h0 h1 => cases h1 with
          | cons _ _ _ _ h1 h2 => exact ⟨h0, h1, h2⟩
      have nt : ∀ t, tRd ≠ t → NoTy w3 (· = nr) t := fun t ht => noTy_blk R3.blk ht
      have entNe : ∀ {e x}, EntOk w3 e x → ∀ k, entS e k → ¬ k = nr := fun hE k hk e => by
        subst e
        obtain ⟨cur, t, h', ht⟩ := entS_ty hE hk
        rcases ht with rfl | rfl
        · exact nt _ (by decide) _ cur h' rfl
        · exact nt _ (by decide) _ cur h' rfl
      have mv : ∀ {e x}, EntOk w3 e x → EntOk w4 e x := fun hE => hE.ch h4 (entNe hE) (nt _ (by decide)) (hE.line_ty (nt _ (by decide)))
      have T4 : EntOk w4 e0 x0 := mv hE0
      have A4 : EntOk w4 e1 x1 := mv hE1
      have R4 := R3.pop h4 b4
      obtain ⟨g1, hq1, hm2, htop1⟩ := R4.top
      have c4 : Cur w4 bc s no _ := c3.ch h4 (fun e => by
        have := R3.blk
        rw [← e] at this
        exact noTy_blk c3.blk (t' := tRd) (by decide) _ _ this rfl)
      have H4 : Ch (fun k => k = bc ∨ Tch nr q m d (e0 :: e1 :: es) k) w w4 := (sub H3).trans (h4.mono fun k hk => .inr (.inl hk))
      refine cut_i mixed s21_19 (fun (v : Option Addr × Unit) w' => w' = w4.drew ∧ v = (some ⟨e1.id, 0, none⟩, ())) (by kernel_rfl) (fun g => ?_) ?_
      · rw [t21_19]
        have Rd := R4.no (Ch.refl No w4).drew
        refine dr_eq (lq_sl (Rd.blk.cell 0) (lq_sl (Rd.blk.cell 0) ?_))
        rw [hq]
        have e1 : IntKind.i64.wrap (((m - 1 : Nat) : Int) - 1) = (es.length : Int) := by
          rw [wrap_in (by omega) (by omega)]; omega
        rw [e1]
        refine ix_i (by omega) (by show (es.length : Int) < ((m - 1 : Nat) : Int); omega) ?_
        rw [addr_add, Nat.zero_add, Nat.mul_one, Int.toNat_natCast]
        have hg : g0 = g1 := by rw [hq] at hq1; cases hq1; rfl
        rw [hg]
        exact lq_ptr htop1 (un_eq ⟨rfl, (_, ()), rfl, rfl, rfl⟩)
      rintro v g w5 ⟨rfl, rfl⟩
      have hd4 := (Ch.refl No w4).drew
      replace T4 := T4.no hd4
      replace A4 := A4.no hd4
      replace R4 := R4.no hd4
      replace c4 := c4.ch hd4 (fun h => h)
      replace H4 := H4.trans hd4.no
      clear htop1
      generalize w4.drew = w5 at *
      have hf0 := h.few x0 (.head _)
      have hf1 := h.few x1 (.tail _ (.head _))
      have hmul : x0.times * x0.ops.length ≤ 2000 * 2000 := Nat.mul_le_mul hf0.2.1 hf0.1
      have hl0 := T4.ops.len
      have hl1 := A4.ops.len
      refine cut_i mixed s21_25 (fun (v : Bool × Unit) w' => w' = w5.drew ∧ v.1 = decide (2000 < x1.ops.length + x0.times * x0.ops.length)) (by kernel_rfl) (fun g => ?_) ?_
      · rw [t21_25]
        have hd5 := (Ch.refl No w5).drew
        refine dr_eq (pt_i (lq_sl ((A4.no hd5).blk.cell 0) (pt_i (lq_int ((T4.no hd5).blk.cell 1) (pt_i (lq_sl ((T4.no hd5).blk.cell 0) (un_eq ⟨rfl, (_, ()), rfl, rfl, ?_⟩)))))))
        dsimp only
        have e2 : ((x0.times : Int) * (e0.n : Int)) = ((x0.times * x0.ops.length : Nat) : Int) := by rw [hl0]; exact (Int.natCast_mul _ _).symm
        rw [e2, wrap_in (x := ((x0.times * x0.ops.length : Nat) : Int)) (by omega) (by omega), wrap_in (by have := hf1.1; omega) (by have := hf1.1; omega)]
        exact decide_eq_decide.2 ⟨fun h => by have h : (2000 : Int) < _ := h; omega, fun h => by show (2000 : Int) < _; omega⟩
      rintro ⟨v, ⟨⟩⟩ g6 w6 ⟨rfl, hv⟩
      dsimp only at hv
      subst hv
      have hd5 := (Ch.refl No w5).drew
      replace T4 := T4.no hd5
      replace A4 := A4.no hd5
      replace R4 := R4.no hd5
      replace c4 := c4.ch hd5 (fun h => h)
      replace H4 := H4.trans hd5.no
      generalize w5.drew = w6 at *
      refine br_both (fun e => ?_) fun e => ?_
      · have e := of_decide_eq_true e
        rw [if_pos e]
        refine cl_i (fault_any bc s no _ _ 65 w6 c4) ?_
        rintro e w7 ⟨v, rfl, hv, h7⟩
        exact ⟨v, rfl, H4.trans h7.no, v, rfl, hv⟩
      have e := of_decide_eq_false e
      rw [if_neg e]
      refine pt_i (ld_int (T4.blk.cell 1) ?_)
      have hap := List.pairwise_cons.1 h.apart
      have hap1 := List.pairwise_cons.1 hap.2
      refine out_loop (e := e1) _ _ g6 ⟨Ch.refl _ _, T4, A4, rfl, rfl, fun k hk => .inl hk, hap.1 e1 (.head _)⟩ hf0 (by omega) rfl rfl ?_
      intro e' w7 g7 F
      have A7 := F.around
      have hE6 := R4.ents
      obtain ⟨hR6⟩ : Nonempty (PLift (Ents w6 es xs)) := by
        cases hE6 with
        | cons _ _ _ _ h0 h1 => exact ⟨⟨h1⟩⟩
      have hR6 := hR6.down
      have nt6 : ∀ t, tBlk ≠ t → tOp ≠ t → NoTy w6 (entS e1) t := fun t h1 h2 => noTy_ent A4 h1 h2
      refine ⟨H4.trans (F.ch.mono fun k hk => .inr (.inr (.inr ⟨e1, .tail _ (.head _), hk⟩))), rfl, q, m - 1, d, e' :: es, ⟨?_, ?_, .cons _ _ _ _ F.around ?_, ?_, ?_, ?_, ?_⟩, ?_⟩
      · exact R4.blk.ch F.ch (R4.blk.noTy (nt6 _ (by decide) (by decide)))
      · have := R4.row.ch F.ch (R4.row.noTy (nt6 _ (by decide) (by decide)))
        rw [ptrs_cons] at this ⊢
        rw [F.id]
        exact this
      · refine hR6.ch F.ch (fun e2 he2 k hk hk' => hap1.1 e2 he2 k hk' hk) (nt6 _ (by decide) (by decide)) (fun e2 he2 a ha => ?_)
        obtain ⟨cur, h'⟩ := hR6.line_ty e2 he2 a ha
        exact nt6 tCur (by decide) (by decide) _ cur h'
      · refine List.pairwise_cons.2 ⟨fun e2 he2 k hk hk' => ?_, hap1.2⟩
        rcases F.lies k hk with h' | h'
        · exact hap1.1 e2 he2 k h' hk'
        · have := hR6.lt e2 he2 k hk'
          omega
      · simp only [List.length_cons]; omega
      · intro i e hi h0
        rw [List.reverse_cons] at hi
        by_cases hlt : i < es.reverse.length
        · rw [List.getElem?_append_left hlt] at hi
          exact R4.nn i e (by rw [List.reverse_cons, List.getElem?_append_left hlt]; exact hi) h0
        · rw [List.getElem?_append_right (by omega)] at hi
          have hz : i - es.reverse.length = 0 := by
            have := (List.getElem?_eq_some_iff.1 hi).1
            simp only [List.length_cons, List.length_nil] at this
            omega
          rw [hz] at hi
          simp only [List.getElem?_cons_zero, Option.some.injEq] at hi
          subst hi
          rw [F.line]
          exact R4.nn i e1 (by rw [List.reverse_cons, List.getElem?_append_right (by omega), hz]; rfl) h0
      · intro x hx
        rcases List.mem_cons.1 hx with rfl | hx
        · refine ⟨by dsimp only; rw [List.length_append, rep_len]; omega, hf1.2.1, fun o ho => ?_⟩
          rcases List.mem_append.1 ho with ho | ho
          · exact hf1.2.2 o ho
          · obtain ⟨l, hl1, hl2⟩ := List.mem_flatten.1 ho
            rw [(List.mem_replicate.1 hl1).2] at hl2
            exact hf0.2.2 o hl2
        · exact h.few x (.tail _ (.tail _ hx))
      · intro k hk
        have hsz := H4.size
        rcases hk with rfl | hk | ⟨e2, he2, hk⟩
        · exact .inl (.inl rfl)
        · left
          right
          left
          unfold rowS at hk ⊢
          rw [hq] at hk ⊢
          exact hk
        · rcases List.mem_cons.1 he2 with rfl | he2
          · rcases F.lies k hk with h' | h'
            · exact .inl (.inr (.inr ⟨e1, .tail _ (.head _), h'⟩))
            · right; omega
          · exact .inl (.inr (.inr ⟨e2, .tail _ (.tail _ he2), hk⟩))
  have hw2 : wordS s.data.toList ≠ wEnd := fun h => by rw [h] at e; cases e
  rw [if_neg hw2]
  clear e
  generalize hW : wordS s.data.toList = W at *
  have hk9 := kind_le W
  refine loop_i mixed m21_65 s21_65 (by kernel_rfl) (by kernel_rfl)
    (fun (v : Int × Int × Unit) w' => w' = w2 ∧ 1 ≤ v.2.1 ∧ v.2.1 ≤ 10 ∧ v.1 = if (kindM W : Int) < v.2.1 then (kindM W : Int) else 0) (fun (v : Int × Int × Unit) _ => 10 - v.2.1.toNat) (0, 1, ()) rfl ⟨rfl, by simp, by simp, by dsimp only; split <;> omega⟩ ?_
  rintro ⟨(y : Int), (i : Int), ⟨⟩⟩ g w3 ⟨rfl, (i0 : 1 ≤ i), (i1 : i ≤ 10), (hy : y = if (kindM W : Int) < i then (kindM W : Int) else 0)⟩
  rw [t21_65]
  refine br_both (fun e => ?_) fun e => ?_
  · have hi : i ≤ 9 := le_t e
    obtain ⟨x, hx, _⟩ := steps_get i.toNat (by omega) (by omega)
    have hki := kind_iff W i.toNat (by omega) (by omega) x hx
    refine ix_i (by omega) (by omega) (ld_str (by rw [addr_add, Nat.zero_add]; exact G2.word _ x hx) ?_)
    have e2 : (bytesL x.1).toList = x.1 := tb_list _
    have e3 : ((bytesL W, ((s.size - (skipS s.data.toList).length : Nat) : Int), ()) : ByteArray × Int × Unit).1.toList = W := tb_list _
    refine br_both (fun e => ?_) fun e => ?_
    · have e : ((bytesL x.1).toList == ((bytesL W, ((s.size - (skipS s.data.toList).length : Nat) : Int), ()) : ByteArray × Int × Unit).1.toList) = true := e
      rw [e2, e3] at e
      have hk := hki.1 (eq_of_beq e)
      refine ⟨(i, i + 1, ()), ?_, ⟨rfl, by dsimp only; omega, by dsimp only; omega, ?_⟩, by dsimp only; omega⟩
      · rw [wrap_succ (by omega) (by omega)]; rfl
      · dsimp only
        rw [if_pos (by omega)]; omega
    · have e : ((bytesL x.1).toList == ((bytesL W, ((s.size - (skipS s.data.toList).length : Nat) : Int), ()) : ByteArray × Int × Unit).1.toList) = false := e
      rw [e2, e3] at e
      have hk : kindM W ≠ i.toNat := fun h => by
        rw [hki.2 h] at e
        simp at e
      refine ⟨(y, i + 1, ()), ?_, ⟨rfl, by dsimp only; omega, by dsimp only; omega, ?_⟩, by dsimp only; omega⟩
      · rw [wrap_succ (by omega) (by omega)]; rfl
      · dsimp only
        rw [hy]
        by_cases hlt : (kindM W : Int) < i
        · rw [if_pos hlt, if_pos (by omega)]
        · rw [if_neg hlt]
          by_cases hlt2 : (kindM W : Int) < i + 1
          · omega
          · rw [if_neg hlt2]
  have hi : 9 < i := le_f e
  have hy : y = (kindM W : Int) := by rw [hy, if_pos (by omega)]
  subst hy
  refine ⟨rfl, (_, ()), rfl, fun g => ?_⟩
  clear e
  refine br_both (fun e => ?_) fun e => ?_
  · have e : kindM W = 0 := by have : (kindM W : Int) = 0 := eq_t e; omega
    rw [if_pos e]
    refine cl_i (fault_any bc s no _ _ 61 w3 c2) ?_
    rintro e w4 ⟨v, rfl, hv, h4⟩
    exact ⟨v, rfl, sub (h2.trans h4.no), v, rfl, hv⟩
  have e : kindM W ≠ 0 := fun h => eq_f (a := (kindM W : Int)) e (by omega)
  rw [if_neg e]
  refine cl_i (opr_any bc s no _ (kindM W) (by omega) hk9 w3 c2 hs G2 hb2) ?_
  rintro e' w4 ⟨h4, ⟨r4, c4⟩, hm4⟩
  have R4 := R2.curs c2.blk hf h4
  have H4 := h2.trans h4
  cases ho : opM s.size (kindM W) (afterS s.data.toList) with
  | error er =>
    obtain ⟨pl, cd⟩ := er
    rw [ho] at hm4
    obtain ⟨k, a, bb, p, n, c, v, rfl, hv⟩ := hm4
    refine ⟨((k, a, bb, (p, n, c), ()), v, ()), rfl, nw fun w5 h5 z5 b5 => ?_⟩
    refine st4 (x0 := .int .i64 k) (x1 := .int .i64 a) (x2 := .int .i64 bb) (x3 := .slice p n c) b5 rfl rfl rfl rfl fun w6 h6 b6 => ?_
    have H6 : Ch No w4 w6 := h5.then_ h6 (fun i hi (e : i = _) => by omega)
    refine ne_err (hv.no H6) (br_true rfl ⟨sub (H4.trans H6.no), v, rfl, hv.no H6⟩)
  | ok o =>
    rw [ho] at hm4
    obtain ⟨p, n, c, rfl, row⟩ := hm4
    dsimp only
    refine ⟨((o.kind, o.a, o.b, (p, n, c), ()), .nilIface, ()), rfl, nw fun w5 h5 z5 b5 => ?_⟩
    refine st4 (x0 := .int .i64 o.kind) (x1 := .int .i64 o.a) (x2 := .int .i64 o.b) (x3 := .slice p n c) b5 rfl rfl rfl rfl fun w6 h6 b6 => ?_
    have H6 : Ch No w4 w6 := h5.then_ h6 (fun i hi (e : i = _) => by omega)
    refine ne_nil (br_false rfl ?_)
    have R6 := R4.no H6
    have c6 := c4.ch H6 (fun h => h)
    have row6 : Row w6 0 tInt 1 p n c (intCells o.keep) := (row.base (Nat.zero_le _)).no H6
    have hents := R6.ents
    obtain ⟨hE0, hEs⟩ : EntOk w6 e0 x0 ∧ Ents w6 es xs := by
      cases hents with
      | cons _ _ _ _ h0 h1 => exact ⟨h0, h1⟩
    have hf0 := h.few x0 (.head _)
    have hl0 := hE0.ops.len
    have H06 : Ch (fun k => k = bc ∨ Tch nr q m d (e0 :: es) k) w w6 := sub (H4.trans H6.no)
    refine pt_i (ld_sl (hE0.blk.cell 0) (br_both (fun e => ?_) fun e => ?_))
    · have e : x0.ops.length = 2000 := by have := eq_t e; dsimp only at this; omega
      rw [if_pos e]
      refine cl_i (fault_any bc s no _ _ 65 w6 c6) ?_
      rintro e w7 ⟨v, rfl, hv, h7⟩
      exact ⟨v, rfl, H06.trans h7.no, v, rfl, hv⟩
    have e : x0.ops.length ≠ 2000 := fun h => eq_f e (by dsimp only; omega)
    rw [if_neg e]
    have hb6 : Blk w6 w4.heap.size (opTuple o p n c) tOp := b6
    refine cut_i mixed s21_76 (fun (v : Unit) w' => ∃ q' c', Put w6 e0 x0 o w' q' c') (by kernel_rfl) (fun g => ?_) ?_
    · rw [t21_76]
      refine put_op hE0.blk hE0.ops row6 (by have := hf0.1; omega) hb6 (fun hn => ?_) fun w' q' c' P => ⟨rfl, (), rfl, q', c', P⟩
      have hents4 := R4.ents
      have : EntOk w4 e0 x0 := by
        cases hents4 with
        | cons _ _ _ _ h0 h1 => exact h0
      have := this.lt (.inr hn)
      omega
    rintro v g w7 ⟨q', c', P⟩
    have hap := List.pairwise_cons.1 h.apart
    have nt6 : ∀ t, tBlk ≠ t → tOp ≠ t → NoTy w6 (entS e0) t := fun t h1 h2 => noTy_ent hE0 h1 h2
    refine ⟨H06.trans (P.ch.mono fun k hk => .inr (.inr (.inr ⟨e0, .head _, hk⟩))), rfl, q, m, d, { e0 with p := q', n := e0.n + 1, c := c' } :: es, ⟨?_, ?_, .cons _ _ _ _ (hE0.put P) ?_, ?_, ?_, ?_, ?_⟩, ?_⟩
    · exact R6.blk.ch P.ch (R6.blk.noTy (nt6 _ (by decide) (by decide)))
    · have := R6.row.ch P.ch (R6.row.noTy (nt6 _ (by decide) (by decide)))
      rw [ptrs_cons] at this ⊢
      exact this
    · refine hEs.ch P.ch (fun e2 he2 k hk hk' => hap.1 e2 he2 k hk' hk) (nt6 _ (by decide) (by decide)) (fun e2 he2 a ha => ?_)
      obtain ⟨cur, h'⟩ := hEs.line_ty e2 he2 a ha
      exact nt6 tCur (by decide) (by decide) _ cur h'
    · refine List.pairwise_cons.2 ⟨fun e2 he2 k hk hk' => ?_, hap.2⟩
      have hlt := hEs.lt e2 he2 k hk'
      rcases hk with rfl | hk
      · exact hap.1 e2 he2 _ (.inl rfl) hk'
      · rcases P.lies k hk with h' | h'
        · exact hap.1 e2 he2 k (.inr h') hk'
        · omega
    · simp only [List.length_cons] at hl ⊢; omega
    · intro i e hi h0
      rw [List.reverse_cons] at hi
      by_cases hlt : i < es.reverse.length
      · rw [List.getElem?_append_left hlt] at hi
        exact h.nn i e (by rw [List.reverse_cons, List.getElem?_append_left hlt]; exact hi) h0
      · rw [List.getElem?_append_right (by omega)] at hi
        have hz : i - es.reverse.length = 0 := by
          have := (List.getElem?_eq_some_iff.1 hi).1
          simp only [List.length_cons, List.length_nil] at this
          omega
        rw [hz] at hi
        simp only [List.getElem?_cons_zero, Option.some.injEq] at hi
        subst hi
        exact h.nn i e0 (by rw [List.reverse_cons, List.getElem?_append_right (by omega), hz]; rfl) h0
    · intro x hx
      rcases List.mem_cons.1 hx with rfl | hx
      · have h1 := hf0.1
        refine ⟨by dsimp only; rw [List.length_append, List.length_singleton]; omega, hf0.2.1, fun o' ho' => ?_⟩
        rcases List.mem_append.1 ho' with ho' | ho'
        · exact hf0.2.2 o' ho'
        · rw [List.mem_singleton] at ho'
          subst ho'
          have h1 := op_keep ho
          have h2 := after_le s.data.toList
          omega
      · exact h.few x (.tail _ hx)
    · intro k hk
      have hsz := H06.size
      rcases hk with rfl | hk | ⟨e2, he2, hk⟩
      · exact .inl (.inl rfl)
      · exact .inl (.inr (.inl hk))
      · rcases List.mem_cons.1 he2 with rfl | he2
        · rcases hk with rfl | hk
          · exact .inl (.inr (.inr ⟨e0, .head _, .inl rfl⟩))
          · rcases P.lies k hk with h' | h'
            · exact .inl (.inr (.inr ⟨e0, .head _, .inr h'⟩))
            · right; omega
        · exact .inl (.inr (.inr ⟨e2, .tail _ he2, hk⟩))
end Go.Proofs.YtjlmkahagcojcaaGreatDoor
