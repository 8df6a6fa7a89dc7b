/- A script's lines, one by one; ParseScript. -/
import Derived.Test.YtjlmkahagcojcaaGreatDoorRdl
namespace Go.Proofs.YtjlmkahagcojcaaGreatDoor
open Go Tr
set_option maxRecDepth 100000
/-! the tree of function 20 -/
abbrev fx20_3 (qcl : Addr) (l2 : Option Addr × Nat × Nat) : List (Tmp × Value) := [(2, .func (.func 21) #[.pointer (some qcl)] #[]), (22, .slice l2.1 l2.2.1 l2.2.2), (23, .int .i64 (↑l2.snd.fst : Int))]
abbrev m20_3 : List (Tmp × Comp) := [(8, .leaf .ptr), (24, .leaf (.int .i64))]
abbrev mx20_3 : List (Tmp × Comp) := [(8, .leaf .ptr)]
abbrev mr20_3 : List (Tmp × Comp) := [(6, .leaf .ptr), (7, .leaf .any)]
abbrev fx20_8 (qcl : Addr) (l2 : Option Addr × Nat × Nat) (x_24 : Int) (n6 : Nat) (s7 : ByteArray) : List (Tmp × Value) := [(2, .func (.func 21) #[.pointer (some qcl)] #[]), (8, .pointer (some ⟨n6, 0, none⟩)), (11, .string s7), (22, .slice l2.1 l2.2.1 l2.2.2), (23, .int .i64 (↑l2.snd.fst : Int)), (24, .int .i64 x_24)]
abbrev mx20_8 : List (Tmp × Comp) := [(42, .leaf .bool)]
def s20_8 : Script := .sym (.lit (.lit (.lit .nil))) (.lit (.ix (.lit (.lit .nil))))
theorem t20_8 (qcl : Addr) (l2 : Option Addr × Nat × Nat) (x_24 : Int) (n6 : Nat) (s7 : ByteArray) (g : Nat → Value) : pieceT Tryz.prog (at_ Tryz.f20 [1, 1, 1, 0, 1, 0, 0, 1, 1, 0, 0, 1, 1, 1, 0, 0]) 51 (fx20_8 qcl l2 x_24 n6 s7) g (mx20_8.map (·.1)) [] [] s20_8 =
  .br (s7.toList == (bytesL []).toList)
    (.fin .normal [(42, .bool true)])
    (.bidx s7 0 (fun c9 =>
      .fin .normal [(42, .bool (c9 == 35))])) := by kernel_rfl
def s20_3 : Script := .sym (.ix (.ld .str (.cl (.one (.leaf .str)) (.ct 1 [2, 8, 11, 22, 23, 24] mx20_8 (.sym .nil (.cl (.one (.leaf .any)) (.nop (.nop (.rn (.one (.leaf .bool)) (.sym .nil .nil)))))))))) .nil
theorem t20_3 (qcl : Addr) (l2 : Option Addr × Nat × Nat) (p_8 : Option Addr) (x_24 : Int) (g : Nat → Value) : pieceT Tryz.prog (at_ Tryz.f20 [1, 1, 1, 0, 1, 0, 0]) 51 (fx20_3 qcl l2 ++ mvals m20_3 (p_8, x_24, ())) g (m20_3.map (·.1)) (mx20_3.map (·.1)) (mr20_3.map (·.1)) s20_3 =
  .br (Decidable.decide (x_24 < (↑l2.snd.fst : Int)))
    (.idx l2.1 x_24 l2.2.1 1 (fun a4 =>
      .load a4 .str (fun s5 =>
        .new (.cells #[.string s5, .int .i64 (IntKind.i64.wrap (x_24 + 1)), .int .i64 0] 108 (0, 0)) (fun n6 =>
          .call 45 #[.string s5, .string (bytesL [32])] (.one (.leaf .str)) (fun s7 =>
            .cut (at_ Tryz.f20 [1, 1, 1, 0, 1, 0, 0, 1, 1, 0, 0, 1, 1, 1, 0, 0]) 51 (fx20_8 qcl l2 x_24 n6 s7) mx20_8 (fun u10 g10 =>
              .br u10.1
                (.fin .normal [(8, .pointer (some ⟨n6, 0, none⟩)), (24, .int .i64 (IntKind.i64.wrap (x_24 + 1)))])
                (.call 21 #[.pointer (some qcl), .pointer (some ⟨n6, 0, none⟩)] (.one (.leaf .any)) (fun v11 =>
                  .run (vNext (guarded .neq 24 (.tmp 46) (.const .nilIface) v11 .nilIface)) (.one (.leaf .bool)) (fun b12 =>
                    .br b12
                      (.fin .ret [(6, .pointer none), (7, v11)])
                      (.fin .normal [(8, .pointer (some ⟨n6, 0, none⟩)), (24, .int .i64 (IntKind.i64.wrap (x_24 + 1)))]))))))))))
    (.fin (.exit 0) [(8, .pointer p_8)]) := by kernel_rfl
def s20 : Script := .sym .nil (.cl (.one (.leaf .sl)) (.lp 0 [2, 22, 23] [8, 24] mx20_3 mr20_3 .nil .nil))
theorem t20 (qs0 : ByteArray) (qx1 : Int) (qcl : Addr) : fnT Tryz.prog Tryz.f20 #[.string qs0, .int .i64 qx1, .func (.func 21) #[.pointer (some qcl)] #[]] s20 =
  .br (Decidable.decide ((↑qs0.size : Int) > qx1))
    (.new (.cells #[.int .i64 0, .int .i64 0, .iface 69 (.int .i64 60)] 122 (0, 0)) (fun n1 =>
      .done (.returned (.tuple #[.pointer none, .iface 120 (.pointer (some ⟨n1, 0, none⟩))]))))
    (.call 55 #[.string qs0, .string (bytesL [10])] (.one (.leaf .sl)) (fun l2 =>
      .loop (at_ Tryz.f20 [1, 1, 1, 0, 1, 0, 0]) 51 (fx20_3 qcl l2) [(8, .pointer none), (24, .int .i64 0)] mx20_3 mr20_3 0 (fun u13 g13 =>
        .done (.returned (.tuple #[.pointer u13.1, .nilIface]))) (fun u14 g14 =>
        .done (.returned (.tuple #[.pointer u14.1, u14.snd.1]))))) := by kernel_rfl
/-! the tree of function 6 -/
def s6 : Script := .cl (.tup [.leaf .ptr, .leaf .any]) (.nop (.nop (.nop (.nop (.nop (.nop (.rn (.one (.leaf .bool)) (.sym .nil (.qt (.ld .sl (.ld .sl (.ix (.ld .ptr (.ld .sl (.sym (.hd0 (.hq 0 (.hq 1 (.pt (.hq 2 (.hq 3 (.ld .ptr (.hq 4 (.hq 5 (.pt (.hq 6 (.hq 7 (.ld (.int .i64) (.hq 8 (.he 9 (.cl (.one (.leaf .any)) (.hq 10 (.hq 11 .nil)))))))))))))))))) (.pt (.ld .sl .nil)))))))))))))))))
theorem t6 (qs0 : ByteArray) : fnT Tryz.prog Tryz.f6 #[.string qs0] s6 =
  .new (.cells #[.slice none 0 0, .int .i64 0, .pointer none, .int .i64 0] 61 (0, 0)) (fun n1 =>
    .new (.cells #[.pointer (some ⟨n1, 0, none⟩)] 58 (0, 0)) (fun n2 =>
      .new (.cells #[.slice (some ⟨n2, 0, none⟩) 1 1] 64 (0, 0)) (fun n3 =>
        .call 20 #[.string qs0, .int .i64 8000, .func (.func 21) #[.pointer (some ⟨n3, 0, none⟩)] #[]] (.tup [.leaf .ptr, .leaf .any]) (fun r4 =>
          .run (vNext (guarded .neq 24 (.tmp 20) (.const .nilIface) r4.snd.1 .nilIface)) (.one (.leaf .bool)) (fun b5 =>
            .br b5
              (.done (.returned (.tuple #[.slice none 0 0, r4.snd.1])))
              (.drawn
                (.load ⟨n3, 0, none⟩ .sl (fun l6 =>
                  .load ⟨n3, 0, none⟩ .sl (fun l7 =>
                    .idx l6.1 (IntKind.i64.wrap ((↑l7.snd.fst : Int) - 1)) l6.2.1 1 (fun a8 =>
                      .load a8 .ptr (fun p9 =>
                        .undrawn
                          (.load ⟨n3, 0, none⟩ .sl (fun l10 =>
                            .br (Decidable.decide ((↑l10.snd.fst : Int) > 1))
                              (.hdrawn
                                (.ptr p9 (fun a11 =>
                                  .load (a11.add 2) .ptr (fun p12 =>
                                    .ptr p9 (fun a13 =>
                                      .load (a13.add 3) (.int .i64) (fun x14 =>
                                        .eff
                                          (.call 22 #[.pointer p12, .int .i64 x14, .iface 69 (.int .i64 66)] (.one (.leaf .any)) (fun v15 =>
                                            .back
                                              (.undrawn
                                                (.done (.returned (.tuple #[.slice none 0 0, v15]))))))))
                                      (.stuck)))
                                  (.stuck)))
                              (.ptr p9 (fun a16 =>
                                .load a16 .sl (fun l17 =>
                                  .done (.returned (.tuple #[.slice l17.1 l17.2.1 l17.2.2, .nilIface]))))
                                (.stuck))))))))))))))) := by kernel_rfl

theorem line_ne {no : Nat} {l : List UInt8} {xs xs' : List BlkM} (h : lineM no l xs = .ok xs') : xs' ≠ [] ∧ xs'.length ≤ xs.length + 1 := by
  cases xs with
  | nil => unfold lineM at h; cases h
  | cons x xs =>
    rw [line_def] at h
    split at h
    · unfold repM at h
      split at h
      · cases h
      · split at h
        · cases h
        · split at h <;> cases h
          exact ⟨by simp, by simp⟩
    · split at h
      · split at h
        · cases h
        · split at h
          · cases h
          · split at h <;> cases h
            exact ⟨by simp, by simp⟩
      · split at h
        · cases h
        · split at h
          · cases h
          · split at h <;> cases h
            exact ⟨by simp, by simp⟩
theorem split_le : ∀ (t : List UInt8), ∀ x ∈ splitM t, x.length ≤ t.length
  | [], x, h => by simp [splitM] at h; subst h; simp
  | c :: t, x, h => by
    unfold splitM at h
    by_cases hc : c = 10
    · rw [if_pos hc] at h
      rcases List.mem_cons.1 h with rfl | h
      · simp
      · have := split_le t x h; simp only [List.length_cons]; omega
    · rw [if_neg hc] at h
      have ih := split_le t
      split at h
      · rw [List.mem_singleton] at h; subst h; simp
      · rename_i l r hs
        rw [hs] at ih
        rcases List.mem_cons.1 h with rfl | h
        · have := ih l (.head _); simp only [List.length_cons]; omega
        · have := ih x (.tail _ h); simp only [List.length_cons]; omega
theorem skip_trim (s : ByteArray) : Lib.trimLeftB s.data.toList 32 = skipS s.data.toList := rfl
theorem RdS.fresh {w : World} {nr : Nat} {q : Option Addr} {m d : Nat} {es : List Ent} {xs : List BlkM} (h : RdS w nr q m d es xs) {n : Nat} (hn : w.heap.size ≤ n) : Fresh n es := fun e he a ha h' => by
  obtain ⟨cur, hc⟩ := h.ents.line_ty e he a ha
  have := (Array.getElem?_eq_some_iff.1 hc).1
  omega
def LinesRes (nr : Nat) (q : Option Addr) (m d : Nat) (es : List Ent) (x : Except (Nat × Nat × Int) (List BlkM)) (w : World) (e : Ending) (w' : World) : Prop :=
  Ch (Tch nr q m d es) w w' ∧ match x with
    | .ok xs' => ∃ p, e = .returned (.tuple #[.pointer p, .nilIface]) ∧ xs' ≠ [] ∧ ∃ q' m' d' es', RdS w' nr q' m' d' es' xs' ∧ (∀ k, Tch nr q' m' d' es' k → Tch nr q m d es k ∨ w.heap.size ≤ k)
    | .error (l, pl, cd) => ∃ v, e = .returned (.tuple #[.pointer none, v]) ∧ ErrAt w' v l pl cd
theorem lines_any (nr : Nat) (q : Option Addr) (m d : Nat) (es : List Ent) (xs : List BlkM) (text : ByteArray) (w : World) (h : RdS w nr q m d es xs) (hne : xs ≠ []) (hl : xs.length ≤ 5) (G : Glob w) (ht2 : ∀ k, Tch nr q m d es k → nG ≤ k) :
    Calls Tryz.prog 20 #[.string text, .int .i64 8000, .func (.func 21) #[.pointer (some ⟨nr, 0, none⟩)] #[]] w
      (LinesRes nr q m d es (if 8000 < text.size then .error (0, 0, 60) else linesM 1 (splitM text.data.toList) xs) w) := by
  refine calls_of_fnT mixed Tryz.func20 (s := s20) ?_
  rw [t20]
  refine br_both (fun e => ?_) fun e => ?_
  · have e : 8000 < text.size := by have := gt_t e; omega
    rw [if_pos e]
    exact nw fun w1 h1 z1 b1 => ⟨h1.no, _, rfl, _, rfl, b1⟩
  have hts : text.size ≤ 8000 := by have := gt_f e; omega
  rw [if_neg (by omega)]
  clear e
  obtain ⟨ml, hml⟩ := G.ml
  refine cl_i (Tryz.strings_Split text (bytesL [10]) ml w (by omega) hml (by decide)) ?_
  rintro e w1 ⟨rfl, rfl⟩
  have hsp : (Lib.splitB (bytesL [10]) 0 (Lib.countB text (bytesL [10])) text).map (·.data.toList) = splitM text.data.toList := splitB_is text
  have hcl := Lib.splitB_all (bytesL [10]) (by decide) 0 _ text rfl
  have hcle := Lib.countB_le (bytesL [10]) (by decide) text.size text (Nat.le_refl _)
  have hsz : ∀ x ∈ splitM text.data.toList, x.length ≤ text.size := fun x hx => split_le _ x hx
  generalize Lib.countB text (bytesL [10]) = K at *
  generalize Lib.splitB (bytesL [10]) 0 K text = L at *
  have h1 : Ch No w (w.alloc (.cells (L.map Value.string).toArray 9)) := (Ch.refl No w).alloc _
  have b1 := blk_new w (L.map Value.string) 9
  have hz1 : (w.alloc (.cells (L.map Value.string).toArray 9)).heap.size = w.heap.size + 1 := by simp
  have R1 := h.no h1
  generalize w.alloc (.cells (L.map Value.string).toArray 9) = w1 at *
  refine ⟨(some ⟨w.heap.size, 0, none⟩, K + 1, K + 1), rfl, ?_⟩
  generalize hns : w.heap.size = ns at *
  have htl : ∀ k, Tch nr q m d es k → k < ns := fun k hk => by have := h.tch_lt hk; omega
  have hGs := G.size
  have G1 : Glob w1 := G.ch h1 (fun _ _ h => h)
  rw [← hsp] at hsz ⊢
  refine loop_i mixed m20_3 s20_3 (by kernel_rfl) (by kernel_rfl)
    (fun (v : Option Addr × Int × Unit) w' => 0 ≤ v.2.1 ∧ v.2.1 ≤ (K + 1 : Nat) ∧ ∃ q' m' d' es' xs', RdS w' nr q' m' d' es' xs' ∧ xs' ≠ [] ∧ xs'.length ≤ 5 + v.2.1.toNat ∧ linesM (1 + v.2.1.toNat) ((L.map (·.data.toList)).drop v.2.1.toNat) xs' = linesM 1 (L.map (·.data.toList)) xs ∧ Ch (Tch nr q m d es) w1 w' ∧ (∀ k, Tch nr q' m' d' es' k → Tch nr q m d es k ∨ ns < k) ∧ Blk w' ns (L.map Value.string) 9) (fun (v : Option Addr × Int × Unit) _ => K + 1 - v.2.1.toNat) (none, 0, ()) rfl ⟨by simp, by dsimp only; omega, q, m, d, es, xs, R1, hne, by dsimp only; omega, rfl, Ch.refl _ _, fun k hk => .inl hk, b1⟩ ?_
  rintro ⟨pp, (i : Int), ⟨⟩⟩ g w2 ⟨(i0 : 0 ≤ i), (i1 : i ≤ (K + 1 : Nat)), q2, m2, d2, es2, xs2, R2, hne2, hl2, hs2, h2, ht, b2⟩
  rw [t20_3]
  dsimp only at hl2 hs2
  have H2 : Ch (Tch nr q m d es) w w2 := h1.no.trans h2
  refine br_both (fun e => ?_) fun e => ?_
  · have hi : i < (K + 1 : Nat) := lt_t e
    obtain ⟨ln, hln⟩ : ∃ u, L[i.toNat]? = some u := ⟨_, List.getElem?_eq_getElem (by omega)⟩
    have hln2 : (L.map (·.data.toList))[i.toNat]? = some ln.data.toList := by rw [List.getElem?_map, hln]; rfl
    have hlz : ln.size ≤ text.size := hsz _ (List.mem_of_getElem? hln2)
    refine ix_i i0 hi ?_
    rw [addr_add, Nat.zero_add, Nat.mul_one]
    refine ld_str (by rw [b2.cell, List.getElem?_map, hln]; rfl) ?_
    refine nw fun w3 h3 z3 b3 => ?_
    refine cl_i (Tryz.strings_TrimLeft_one ln 32 (by decide) w3) ?_
    rintro e w4 ⟨rfl, rfl⟩
    refine ⟨_, rfl, ?_⟩
    rw [skip_trim]
    rw [wrap_succ i0 (by omega)] at b3 ⊢
    have hdr : (L.map (·.data.toList)).drop i.toNat = ln.data.toList :: (L.map (·.data.toList)).drop (i.toNat + 1) := by
      obtain ⟨hlt, he⟩ := List.getElem?_eq_some_iff.1 hln2
      rw [List.drop_eq_getElem_cons hlt, he]
    refine cut_i mixed s20_8 (fun (v : Bool × Unit) w' => w' = w4 ∧ v.1 = passed ln.data.toList) (by kernel_rfl) (fun g => ?_) ?_
    · rw [t20_8]
      rw [tb_list, tb_nil]
      unfold passed
      cases hsk : skipS ln.data.toList with
      | nil => exact br_true rfl ⟨rfl, (true, ()), rfl, rfl, rfl⟩
      | cons c t =>
        refine br_false rfl (bi_i (by decide) (by rw [tb_size]; simp) ⟨rfl, (_, ()), rfl, rfl, ?_⟩)
        have : (bytesL (c :: t))[(0 : Int).toNat]'(by rw [tb_size]; simp) = c := rfl
        dsimp only
        rw [this]
        by_cases h35 : c = 35
        · subst h35; rfl
        · have h1 : ¬ ((c.toNat : Int) = 35) := fun e => h35 (UInt8.toNat_inj.1 (by show c.toNat = 35; omega))
          rw [beq_eq_false_iff_ne.2 h1, beq_eq_false_iff_ne.2 h35]
    rintro ⟨u, ⟨⟩⟩ g w5 ⟨rfl, hu⟩
    dsimp only at hu
    subst hu
    rw [hdr] at hs2
    rw [linesM] at hs2
    have R3 := R2.no h3
    have hnl : ns < w2.heap.size := b2.lt
    refine br_both (fun e => ?_) fun e => ?_
    · rw [if_pos e] at hs2
      refine ⟨(_, i + 1, ()), rfl, ⟨by dsimp only; omega, by dsimp only; omega, q2, m2, d2, es2, xs2, R3, hne2, by dsimp only; omega, ?_, h2.trans h3.no, ht, b2.ch h3 (fun h => h)⟩, by dsimp only; omega⟩
      dsimp only
      rw [show (i + 1).toNat = i.toNat + 1 by omega, ← Nat.add_assoc]
      exact hs2
    · have e : passed ln.data.toList = false := e
      rw [if_neg (by rw [e]; decide)] at hs2
      obtain ⟨x2, xs2, rfl⟩ : ∃ a b, xs2 = a :: b := by
        cases xs2 with
        | nil => exact absurd rfl hne2
        | cons a b => exact ⟨a, b, rfl⟩
      obtain ⟨e2, es2, rfl⟩ : ∃ a b, es2 = a :: b := by
        have := R2.ents.len
        cases es2 with
        | nil => simp at this
        | cons a b => exact ⟨a, b, rfl⟩
      have G3 : Glob w5 := (G.ch H2 (fun i hi hk => by have := ht2 i hk; omega)).ch h3 (fun _ _ h => h)
      have c3 : Cur w5 w2.heap.size ln ((1 + i.toNat : Nat) : Int) ln.data.toList := by
        refine ⟨List.suffix_refl _, ?_⟩
        have e1 : ((1 + i.toNat : Nat) : Int) = i + 1 := by omega
        rw [e1, show ln.size - ln.data.toList.length = 0 by show ln.data.toList.length - _ = 0; omega]
        exact b3
      refine cl_i (line_any nr w2.heap.size q2 m2 d2 e2 es2 x2 xs2 ln (1 + i.toNat) w5 R3 (by omega) (R2.fresh (Nat.le_refl _)) c3 (by omega) G3 (by omega) (fun k hk => ?_)) ?_
      · rcases ht k hk with h' | h'
        · exact ht2 k h'
        · omega
      rintro e' w6 ⟨h6, hr⟩
      have H6 : Ch (Tch nr q m d es) w1 w6 := (h2.trans h3.no).then_ h6 (fun k hk h => by
        rcases h with rfl | h
        · have := h2.size; omega
        · rcases ht k h with h' | h'
          · exact h'
          · omega)
      have b6 : Blk w6 ns (L.map Value.string) 9 := (b2.ch h3 (fun h => h)).ch h6 (fun h => by
        rcases h with h | h
        · omega
        · rcases ht _ h with h' | h'
          · have := htl _ h'; omega
          · omega)
      cases hlm : lineM (1 + i.toNat) ln.data.toList (x2 :: xs2) with
      | error er =>
        obtain ⟨pl, cd⟩ := er
        rw [hlm] at hs2 hr
        obtain ⟨v, rfl, hv⟩ := hr
        refine ⟨v, rfl, ne_err hv (br_true rfl ⟨(none, v, ()), rfl, fun g => ?_⟩)⟩
        refine ⟨h1.no.trans H6, ?_⟩
        rw [← hs2]
        exact ⟨v, rfl, hv⟩
      | ok xs6 =>
        rw [hlm] at hs2 hr
        obtain ⟨rfl, q6, m6, d6, es6, R6, ht6⟩ := hr
        obtain ⟨hne6, hl6⟩ := line_ne hlm
        refine ⟨.nilIface, rfl, ne_nil (br_false rfl ⟨(_, i + 1, ()), rfl, ⟨by dsimp only; omega, by dsimp only; omega, q6, m6, d6, es6, xs6, R6, hne6, by dsimp only; omega, ?_, H6, fun k hk => ?_, b6⟩, by dsimp only; omega⟩)⟩
        · dsimp only
          rw [show (i + 1).toNat = i.toNat + 1 by omega, ← Nat.add_assoc]
          exact hs2
        · rcases ht6 k hk with h' | h'
          · exact ht k h'
          · right
            have := h3.size
            omega
  · have hi : ((K + 1 : Nat) : Int) ≤ i := lt_f e
    refine ⟨rfl, (pp, ()), rfl, fun g => ?_⟩
    rw [List.drop_of_length_le (by rw [List.length_map]; omega)] at hs2
    refine ⟨H2, ?_⟩
    rw [← hs2]
    exact ⟨pp, rfl, hne2, q2, m2, d2, es2, R2, fun k hk => (ht k hk).imp id (fun h => by omega)⟩
/-- ParseScript. -/
theorem parse_any (text : ByteArray) (w : World) (G : Glob w) :
    Calls Tryz.prog 6 #[.string text] w fun e w' => Ch No w w' ∧ match parseSc text.data.toList with
      | .ok ops => ∃ p n c, e = .returned (.tuple #[.slice p n c, .nilIface]) ∧ OpsRow w' p n c ops ∧ FewB ⟨ops, 0, 0, 0⟩
      | .error (l, pl, cd) => ∃ v, e = .returned (.tuple #[.slice none 0 0, v]) ∧ ErrAt w' v l pl cd := by
  refine calls_of_fnT mixed Tryz.func6 (s := s6) ?_
  rw [t6]
  refine nw fun w1 h1 z1 b1 => nw fun w2 h2 z2 b2 => nw fun w3 h3 z3 b3 => ?_
  have hGs := G.size
  have H3 := h1.trans (h2.trans h3)
  generalize hn1 : w.heap.size = n1 at *
  generalize hn2 : w1.heap.size = n2 at *
  generalize hn3 : w2.heap.size = n3 at *
  have hrow : Row w3 0 tBlkP 1 (some ⟨n2, 0, none⟩) 1 1 (ptrs [⟨n1, none, 0, 0, none⟩]) :=
    ⟨rfl, .inr ⟨n2, 1, #[.pointer (some ⟨n1, 0, none⟩)], rfl, Nat.zero_le _, b2.ch h3 (fun h => h), Nat.le_refl _, by unfold maxLen; omega, rfl, rfl⟩⟩
  have R3 : RdS w3 n3 (some ⟨n2, 0, none⟩) 1 1 [⟨n1, none, 0, 0, none⟩] [⟨[], 0, 0, 0⟩] := by
    refine ⟨b3, hrow, .cons _ _ _ _ ⟨(b1.ch h2 (fun h => h)).ch h3 (fun h => h), OpsRow.nil _, fun a ha => by cases ha⟩ .nil, List.pairwise_singleton _ _, by simp, fun i e hi h0 => ?_, fun x hx => ?_⟩
    · have := (List.getElem?_eq_some_iff.1 hi).1
      simp at this
      omega
    · rw [List.mem_singleton] at hx
      subst hx
      exact ⟨by simp, by simp, fun o ho => by cases ho⟩
  have tlo : ∀ k, Tch n3 (some ⟨n2, 0, none⟩) 1 1 [⟨n1, none, 0, 0, none⟩] k → n1 ≤ k := fun k hk => by
    rcases hk with rfl | hk | ⟨e, he, hk⟩
    · omega
    · unfold rowS at hk
      simp [Value.ownBlock] at hk
      omega
    · rw [List.mem_singleton] at he
      subst he
      rcases hk with rfl | hk
      · exact Nat.le_refl _
      · unfold rowS at hk
        simp [Value.ownBlock] at hk
  refine cl_i (lines_any n3 _ 1 1 _ _ text w3 R3 (by simp) (by simp) (G.ch H3 (fun _ _ h => h)) (fun k hk => by have := tlo k hk; omega)) ?_
  rintro e w4 ⟨h4, hr⟩
  have H4 : Ch No w w4 := H3.then_ h4 (fun k hk h => by have := tlo k h; omega)
  unfold parseSc
  have hsl : text.data.toList.length = text.size := rfl
  rw [hsl]
  by_cases hlong : 8000 < text.size
  · rw [if_pos hlong] at hr ⊢
    obtain ⟨v, rfl, hv⟩ := hr
    exact ⟨(none, v, ()), rfl, ne_err hv (br_true rfl ⟨H4, v, rfl, hv⟩)⟩
  rw [if_neg hlong] at hr ⊢
  cases hlm : linesM 1 (splitM text.data.toList) [⟨[], 0, 0, 0⟩] with
  | error er =>
    obtain ⟨l, pl, cd⟩ := er
    rw [hlm] at hr
    obtain ⟨v, rfl, hv⟩ := hr
    exact ⟨(none, v, ()), rfl, ne_err hv (br_true rfl ⟨H4, v, rfl, hv⟩)⟩
  | ok xs =>
    rw [hlm] at hr
    obtain ⟨p, rfl, hne, q4, m4, d4, es4, R4, ht⟩ := hr
    refine ⟨(p, .nilIface, ()), rfl, ne_nil (br_false rfl ?_)⟩
    obtain ⟨x, xs, rfl⟩ : ∃ a b, xs = a :: b := by
      cases xs with
      | nil => exact absurd rfl hne
      | cons a b => exact ⟨a, b, rfl⟩
    obtain ⟨e4, es4, rfl⟩ : ∃ a b, es4 = a :: b := by
      have := R4.ents.len
      cases es4 with
      | nil => simp at this
      | cons a b => exact ⟨a, b, rfl⟩
    have hel := R4.ents.len
    have hxl := R4.len
    simp only [List.length_cons] at hel hxl
    obtain ⟨g0, hq, hm, htop⟩ := R4.top
    have Rd := R4.no (Ch.refl No w4).drew
    have hd := (Ch.refl No w4).drew
    refine dr_eq (lq_sl (Rd.blk.cell 0) (lq_sl (Rd.blk.cell 0) ?_))
    rw [hq]
    have e1 : IntKind.i64.wrap ((m4 : Int) - 1) = (es4.length : Int) := by
      rw [wrap_in (by omega) (by omega)]; omega
    rw [e1]
    refine ix_i (by omega) (by show (es4.length : Int) < (m4 : Int); omega) ?_
    rw [addr_add, Nat.zero_add, Nat.mul_one, Int.toNat_natCast]
    refine lq_ptr htop (un_eq ?_)
    have H5 := H4.trans hd
    generalize w4.drew = w5 at *
    have hE : EntOk w5 e4 x := by
      have := Rd.ents
      cases this with
      | cons _ _ _ _ h0 _ => exact h0
    refine ld_sl (Rd.blk.cell 0) (br_both (fun e => ?_) fun e => ?_)
    · have hm1 : 1 < m4 := by have := gt_t e; dsimp only at this; omega
      obtain ⟨x2, xs, rfl⟩ : ∃ a b, xs = a :: b := by
        cases xs with
        | nil => simp only [List.length_nil] at hel; omega
        | cons a b => exact ⟨a, b, rfl⟩
      have hln : e4.line ≠ none := R4.nn es4.length e4 (by rw [List.reverse_cons, List.getElem?_append_right (by simp)]; simp) (by simp only [List.length_cons] at hel; omega)
      obtain ⟨a, ha⟩ := Option.ne_none_iff_exists'.1 hln
      obtain ⟨bl, s, r, rfl, hcur⟩ := hE.line a ha
      have hd5 := (Ch.refl No w5).drew
      have hE5 := hE.no hd5
      refine hd_i (fun w' => Blk w' e4.id (entBlk e4 x) tBlk) hE5.blk (pt_i (lh_ptr (x := e4.line) (fun w' h => h.cell 2) (pt_i (lh_int (x := (x.place : Int)) (fun w' h => h.cell 3) (eff_i ?_)))))
      rw [ha]
      refine cl_i (fault_any bl s x.no r _ 66 w5.drew (hcur.ch hd5 (fun h => h))) ?_
      rintro e' w6 ⟨v, rfl, hv, h6⟩
      exact ⟨v, rfl, bk (hE5.blk.ch h6 (fun h => h)) (un_h ⟨(H5.trans hd5).trans h6, v, rfl, hv⟩)⟩
    · have hm1 : m4 ≤ 1 := by have := gt_f e; dsimp only at this; omega
      have hxs : xs = [] := List.eq_nil_of_length_eq_zero (by omega)
      subst hxs
      refine pt_i (ld_sl (hE.blk.cell 0) ⟨H5, e4.p, e4.n, e4.c, rfl, hE.ops, ?_⟩)
      have := R4.few x (.head _)
      exact ⟨this.1, by simp, this.2.2⟩
end Go.Proofs.YtjlmkahagcojcaaGreatDoor
