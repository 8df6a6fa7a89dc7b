/- ParseTape. -/
import Derived.Test.YtjlmkahagcojcaaGreatDoorTpx
namespace Go.Proofs.YtjlmkahagcojcaaGreatDoor.V
open Go Tr
set_option maxRecDepth 100000
/-! the tree of function 1014 -/
abbrev fx20_3 (qcl : Addr) (l2 : Option Addr × Nat × Nat) : List (Tmp × Value) := [(2, .func (.func 44) #[] #[.pointer (some qcl)]), (22, .slice l2.1 l2.2.1 l2.2.2), (23, .int .i64 (↑l2.snd.fst : Int))]
abbrev m20_3 : List (Tmp × Comp) := [(8, .leaf .ptr), (24, .leaf (.int .i64))]
abbrev mx20_3 : List (Tmp × Comp) := [(8, .leaf .ptr)]
abbrev mr20_3 : List (Tmp × Comp) := [(6, .leaf .ptr), (7, .leaf .any)]
abbrev fx20_8 (qcl : Addr) (l2 : Option Addr × Nat × Nat) (x_24 : Int) (n6 : Nat) (s7 : ByteArray) : List (Tmp × Value) := [(2, .func (.func 44) #[] #[.pointer (some qcl)]), (8, .pointer (some ⟨n6, 0, none⟩)), (11, .string s7), (22, .slice l2.1 l2.2.1 l2.2.2), (23, .int .i64 (↑l2.snd.fst : Int)), (24, .int .i64 x_24)]
abbrev mx20_8 : List (Tmp × Comp) := [(42, .leaf .bool)]
def s20_8 : Script := .sym (.lit (.lit (.lit .nil))) (.lit (.ix (.lit (.lit .nil))))
theorem t20_8 (qcl : Addr) (l2 : Option Addr × Nat × Nat) (x_24 : Int) (n6 : Nat) (s7 : ByteArray) (gg8 : Nat → Value) : pieceT Tryz.prog (at_ Tryz.f20 [1, 1, 1, 0, 1, 0, 0, 1, 1, 0, 0, 1, 1, 1, 0, 0]) 51 (fx20_8 qcl l2 x_24 n6 s7) gg8 (mx20_8.map (·.1)) [] [] s20_8 = .br (s7.toList == (bytesL []).toList) (.fin .normal [(42, .bool true)]) (.bidx s7 0 (fun c9 => .fin .normal [(42, .bool (c9 == 35))])) := by kernel_rfl
def s20_3 : Script := .sym (.ix (.ld .str (.cl (.one (.leaf .str)) (.ct 1 [2, 8, 11, 22, 23, 24] mx20_8 (.sym .nil (.cl (.one (.leaf .any)) (.nop (.nop (.rn (.one (.leaf .bool)) (.sym .nil .nil)))))))))) .nil
theorem t20_3 (qcl : Addr) (l2 : Option Addr × Nat × Nat) (p_8 : Option Addr) (x_24 : Int) (gg3 : Nat → Value) : pieceT Tryz.prog (at_ Tryz.f20 [1, 1, 1, 0, 1, 0, 0]) 51 (fx20_3 qcl l2 ++ mvals m20_3 (p_8, x_24, ())) gg3 (m20_3.map (·.1)) (mx20_3.map (·.1)) (mr20_3.map (·.1)) s20_3 = .br (Decidable.decide (x_24 < (↑l2.snd.fst : Int))) (.idx l2.1 x_24 l2.2.1 1 (fun a4 => .load a4 .str (fun s5 => .new (.cells #[.string s5, .int .i64 (IntKind.i64.wrap (x_24 + 1)), .int .i64 0] 108 (0, 0)) (fun n6 => .call 45 #[.string s5, .string (bytesL [32])] (.one (.leaf .str)) (fun s7 => .cut (at_ Tryz.f20 [1, 1, 1, 0, 1, 0, 0, 1, 1, 0, 0, 1, 1, 1, 0, 0]) 51 (fx20_8 qcl l2 x_24 n6 s7) mx20_8 (fun u10 g10 => .br u10.1 (.fin .normal [(8, .pointer (some ⟨n6, 0, none⟩)), (24, .int .i64 (IntKind.i64.wrap (x_24 + 1)))]) (.call 44 #[.pointer (some ⟨n6, 0, none⟩), .pointer (some qcl)] (.one (.leaf .any)) (fun v11 => .run (vNext (guarded .neq 24 (.tmp 46) (.const .nilIface) v11 .nilIface)) (.one (.leaf .bool)) (fun b12 => .br b12 (.fin .ret [(6, .pointer none), (7, v11)]) (.fin .normal [(8, .pointer (some ⟨n6, 0, none⟩)), (24, .int .i64 (IntKind.i64.wrap (x_24 + 1)))])))))))))) (.fin (.exit 0) [(8, .pointer p_8)]) := by kernel_rfl
def s20t : Script := .sym .nil (.cl (.one (.leaf .sl)) (.lp 0 [2, 22, 23] [8, 24] mx20_3 mr20_3 .nil .nil))
theorem t20t (qs0 : ByteArray) (qx1 : Int) (qcl : Addr) : fnT Tryz.prog Tryz.f20 #[.string qs0, .int .i64 qx1, .func (.func 44) #[] #[.pointer (some qcl)]] s20t = .br (Decidable.decide ((↑qs0.size : Int) > qx1)) (.new (.cells #[.int .i64 0, .int .i64 0, .iface 69 (.int .i64 60)] 122 (0, 0)) (fun n1 => .done (.returned (.tuple #[.pointer none, .iface 120 (.pointer (some ⟨n1, 0, none⟩))])))) (.call 55 #[.string qs0, .string (bytesL [10])] (.one (.leaf .sl)) (fun l2 => .loop (at_ Tryz.f20 [1, 1, 1, 0, 1, 0, 0]) 51 (fx20_3 qcl l2) [(8, .pointer none), (24, .int .i64 0)] mx20_3 mr20_3 0 (fun u13 g13 => .done (.returned (.tuple #[.pointer u13.1, .nilIface]))) (fun u14 g14 => .done (.returned (.tuple #[.pointer u14.1, u14.snd.1]))))) := by kernel_rfl
/-! the tree of function 14 -/
def s14 : Script := .cl (.tup [.leaf .ptr, .leaf .any]) (.nop (.nop (.nop (.nop (.nop (.nop (.rn (.one (.leaf .bool)) (.sym .nil (.ld .sl .nil)))))))))
theorem t14 (qs0 : ByteArray) : fnT Tryz.prog Tryz.f14 #[.string qs0] s14 = .new (.cells #[.slice none 0 0] 40 (0, 0)) (fun n1 => .call 20 #[.string qs0, .int .i64 4000, .func (.func 44) #[] #[.pointer (some ⟨n1, 0, none⟩)]] (.tup [.leaf .ptr, .leaf .any]) (fun r2 => .run (vNext (guarded .neq 24 (.tmp 13) (.const .nilIface) r2.snd.1 .nilIface)) (.one (.leaf .bool)) (fun b3 => .br b3 (.done (.returned (.tuple #[.slice none 0 0, r2.snd.1]))) (.load ⟨n1, 0, none⟩ .sl (fun l4 => .done (.returned (.tuple #[.slice l4.1 l4.2.1 l4.2.2, .nilIface]))))))) := by kernel_rfl
theorem tapeLine_len {l : List UInt8} {st st' : List RecM} (h : tapeLine l st = .ok st') (hs : st.length ≤ 64) : st'.length ≤ 64 := by
  unfold tapeLine at h
  split at h
  · cases h
  split at h
  · cases h
  split at h
  · cases h
  split at h
  · cases h
  split at h
  · cases h
  · cases h
    simp only [List.length_append, List.length_singleton]
    omega
def TapeR (nl : Nat) (w : World) (x : Except (Nat × Nat × Int) (List RecM)) (e : Ending) (w' : World) : Prop :=
  Ch (· = nl) w w' ∧ match x with
    | .ok st => ∃ p, e = .returned (.tuple #[.pointer p, .nilIface]) ∧ ∃ q m d acc, acc.map RElt.rc = st ∧ Blk w' nl (tapeT q m d) 40 ∧ RowT w' (nl + 1) q m d acc ∧ m ≤ 64
    | .error (l, pl, cd) => ∃ v, e = .returned (.tuple #[.pointer none, v]) ∧ ErrAt w' v l pl cd
/-- What a tape's text asks of the world: the search's longest needle, the globals' room. -/
structure GlobT (w : World) : Prop where
  ml : ∃ m, w.cell? ⟨2, 0, none⟩ = some (.int .i64 m)
  size : 9 ≤ w.heap.size
theorem GlobT.ch {S : Nat → Prop} {w w' : World} (h : GlobT w) (hc : Ch S w w') (h0 : ∀ i, i < 9 → ¬ S i) : GlobT w' := by
  obtain ⟨m, hm⟩ := h.ml
  exact ⟨⟨m, hc.cellv hm (h0 _ (show 2 < 9 by decide))⟩, Nat.le_trans h.size hc.size⟩
theorem tlines_any (nl : Nat) (text : ByteArray) (w : World) (hb : Blk w nl (tapeT none 0 0) 40) (G : GlobT w) (tb : Tabs w) (ev : Ev w) (hnl : 9 ≤ nl) :
    Calls Tryz.prog 20 #[.string text, .int .i64 4000, .func (.func 44) #[] #[.pointer (some ⟨nl, 0, none⟩)]] w (TapeR nl w (parseTp text.data.toList)) := by
  refine calls_of_fnT mixed Tryz.func20 (s := s20t) ?_
  rw [t20t]
  unfold parseTp
  rw [sizeB]
  refine br_both (fun e => ?_) fun e => ?_
  · have e : 4000 < text.size := by have := gt_t e; omega
    rw [if_pos e]
    exact nw fun w1 h1 z1 b1 => ⟨h1.no, _, rfl, _, rfl, b1⟩
  have hts : text.size ≤ 4000 := by have := gt_f e; omega
  rw [if_neg (by omega)]
  clear e
  obtain ⟨ml, hml⟩ := G.ml
  refine cl_i (Tryz.strings_Split text (bytesL [10]) ml w (by omega) hml (by decide)) ?_
  rintro e w1 ⟨rfl, rfl⟩
  have hsp : (Lib.splitB (bytesL [10]) 0 (Lib.countB text (bytesL [10])) text).map (·.data.toList) = splitM text.data.toList := splitB_is text
  have hcl := Lib.splitB_all (bytesL [10]) (by decide) 0 _ text rfl
  have hcle := Lib.countB_le (bytesL [10]) (by decide) text.size text (Nat.le_refl _)
  have hsz : ∀ x ∈ splitM text.data.toList, x.length ≤ text.size := fun x hx => split_le _ x hx
  generalize Lib.countB text (bytesL [10]) = K at *
  generalize Lib.splitB (bytesL [10]) 0 K text = L at *
  have h1 : Ch No w (w.alloc (.cells (L.map Value.string).toArray 9)) := (Ch.refl No w).alloc _
  have b1 := blk_new w (L.map Value.string) 9
  have hz1 : (w.alloc (.cells (L.map Value.string).toArray 9)).heap.size = w.heap.size + 1 := by simp
  have B1 := hb.ch h1 (fun h => h)
  have hnlw := hb.lt
  generalize w.alloc (.cells (L.map Value.string).toArray 9) = w1 at *
  refine ⟨(some ⟨w.heap.size, 0, none⟩, K + 1, K + 1), rfl, ?_⟩
  generalize hns : w.heap.size = ns at *
  rw [← hsp] at hsz ⊢
  have tb1 := tb.no h1
  have ev1 : Ev w1 := ev.ch h1 (fun h => h)
  refine loop_i mixed m20_3 s20_3 (by kernel_rfl) (by kernel_rfl)
    (fun (v : Option Addr × Int × Unit) w' => 0 ≤ v.2.1 ∧ v.2.1 ≤ (K + 1 : Nat) ∧ ∃ q' m' d' acc', Blk w' nl (tapeT q' m' d') 40 ∧ RowT w' (nl + 1) q' m' d' acc' ∧ m' ≤ 64 ∧ linesT (1 + v.2.1.toNat) ((L.map (·.data.toList)).drop v.2.1.toNat) (acc'.map RElt.rc) = linesT 1 (L.map (·.data.toList)) [] ∧ Ch (· = nl) w1 w' ∧ (∀ k, rowS q' m' d' k → ns < k) ∧ Blk w' ns (L.map Value.string) 9) (fun (v : Option Addr × Int × Unit) _ => K + 1 - v.2.1.toNat) (none, 0, ()) rfl ⟨by simp, by dsimp only; omega, none, 0, 0, [], B1, RowT.nil _ _, by omega, rfl, Ch.refl _ _, fun k hk => (by unfold rowS at hk; simp [Value.ownBlock] at hk), b1⟩ ?_
  rintro ⟨pp, (i : Int), ⟨⟩⟩ g w2 ⟨(i0 : 0 ≤ i), (i1 : i ≤ (K + 1 : Nat)), q2, m2, d2, acc2, B2, T2, m64, hs2, h2, ht, b2⟩
  rw [t20_3]
  dsimp only at hs2
  have H2 : Ch (· = nl) w w2 := h1.no.trans h2
  have tb2 : Tabs w2 := tb1.ch (base := nl) (h2.mono fun k (h : k = nl) => by show nl ≤ k; omega) hnl
  have ev2 : Ev w2 := ev1.ch h2 (fun e : 8 = nl => by omega)
  refine br_both (fun e => ?_) fun e => ?_
  · have hi : i < (K + 1 : Nat) := lt_t e
    obtain ⟨ln, hln⟩ : ∃ u, L[i.toNat]? = some u := ⟨_, List.getElem?_eq_getElem (by omega)⟩
    have hln2 : (L.map (·.data.toList))[i.toNat]? = some ln.data.toList := by rw [List.getElem?_map, hln]; rfl
    have hlz : ln.size ≤ text.size := hsz _ (List.mem_of_getElem? hln2)
    refine ix_i i0 hi ?_
    rw [addr_add, Nat.zero_add, Nat.mul_one]
    refine ld_str (by rw [b2.cell, List.getElem?_map, hln]; rfl) ?_
    refine nw fun w3 h3 z3 b3 => ?_
    refine cl_i (Tryz.strings_TrimLeft_one ln 32 (by decide) w3) ?_
    rintro e w4 ⟨rfl, rfl⟩
    refine ⟨_, rfl, ?_⟩
    rw [skip_trim]
    rw [wrap_succ i0 (by omega)] at b3 ⊢
    have hdr : (L.map (·.data.toList)).drop i.toNat = ln.data.toList :: (L.map (·.data.toList)).drop (i.toNat + 1) := by
      obtain ⟨hlt, he⟩ := List.getElem?_eq_some_iff.1 hln2
      rw [List.drop_eq_getElem_cons hlt, he]
    refine cut_i mixed s20_8 (fun (v : Bool × Unit) w' => w' = w4 ∧ v.1 = passed ln.data.toList) (by kernel_rfl) (fun g => ?_) ?_
    · rw [t20_8]
      rw [tb_list, tb_nil]
      unfold passed
      cases hsk : skipS ln.data.toList with
      | nil => exact br_true rfl ⟨rfl, (true, ()), rfl, rfl, rfl⟩
      | cons c t =>
        refine br_false rfl (bi_i (by decide) (by rw [tb_size]; simp) ⟨rfl, (_, ()), rfl, rfl, ?_⟩)
        have : (bytesL (c :: t))[(0 : Int).toNat]'(by rw [tb_size]; simp) = c := rfl
        dsimp only
        rw [this]
        by_cases h35 : c = 35
        · subst h35; rfl
        · have h1 : ¬ ((c.toNat : Int) = 35) := fun e => h35 (UInt8.toNat_inj.1 (by show c.toNat = 35; omega))
          rw [beq_eq_false_iff_ne.2 h1, beq_eq_false_iff_ne.2 h35]
    rintro ⟨u, ⟨⟩⟩ g w5 ⟨rfl, hu⟩
    dsimp only at hu
    subst hu
    rw [hdr] at hs2
    rw [linesT] at hs2
    have B3 := B2.ch h3 (fun h => h)
    have T3 := T2.ch h3 (fun _ _ _ h => h)
    have hnl2 : ns < w2.heap.size := b2.lt
    have H3 : Ch (· = nl) w1 w5 := h2.trans h3.no
    refine br_both (fun e => ?_) fun e => ?_
    · rw [if_pos e] at hs2
      refine ⟨(_, i + 1, ()), rfl, ⟨by dsimp only; omega, by dsimp only; omega, q2, m2, d2, acc2, B3, T3, m64, ?_, H3, ht, b2.ch h3 (fun h => h)⟩, by dsimp only; omega⟩
      dsimp only
      rw [show (i + 1).toNat = i.toNat + 1 by omega, ← Nat.add_assoc]
      exact hs2
    · have e : passed ln.data.toList = false := e
      rw [if_neg (by rw [e]; decide)] at hs2
      have c3 : Cur w5 w2.heap.size ln ((1 + i.toNat : Nat) : Int) ln.data.toList := by
        refine ⟨List.suffix_refl _, ?_⟩
        have e1 : ((1 + i.toNat : Nat) : Int) = i + 1 := by omega
        rw [e1, show ln.size - ln.data.toList.length = 0 by show ln.data.toList.length - _ = 0; omega]
        exact b3
      have hr2 : ∀ k, rowS q2 m2 d2 k → k < w2.heap.size := fun k hk => (T2.row.lt hk).2
      have hgs : 9 ≤ w5.heap.size := by have := B3.lt; omega
      refine cl_i (tline_any nl w2.heap.size q2 m2 d2 acc2 ln ((1 + i.toNat : Nat) : Int) w5 c3 B3 T3 (by have := B2.lt; omega) (fun h => by have := hr2 _ h; omega) (by omega) e m64 (tb2.no h3) (ev2.ch h3 (fun h => h)) hgs) ?_
      rintro e' w6 ⟨h6, hr⟩
      have H6 : Ch (· = nl) w1 w6 := H3.then_ h6 (fun k hk h => by
        rcases h with rfl | h
        · rfl
        · have := ht k h; omega)
      have b6 : Blk w6 ns (L.map Value.string) 9 := (b2.ch h3 (fun h => h)).ch h6 (fun h => by
        rcases h with h | h
        · omega
        · have := ht _ h; omega)
      cases hlm : tapeLine ln.data.toList (acc2.map RElt.rc) with
      | error er =>
        obtain ⟨pl, cd⟩ := er
        rw [hlm] at hs2 hr
        obtain ⟨v, rfl, hv⟩ := hr
        refine ⟨v, rfl, ne_err hv (br_true rfl ⟨(none, v, ()), rfl, fun g => ?_⟩)⟩
        refine ⟨h1.no.trans H6, ?_⟩
        rw [← hs2]
        exact ⟨v, rfl, hv⟩
      | ok st6 =>
        have h64 := tapeLine_len hlm (by rw [List.length_map, T2.len]; exact m64)
        rw [hlm] at hs2 hr
        obtain ⟨rfl, q6, m6, d6, acc6, hacc, B6, T6, ht6⟩ := hr
        rw [← hacc] at hs2 h64
        rw [List.length_map, T6.len] at h64
        refine ⟨.nilIface, rfl, ne_nil (br_false rfl ⟨(_, i + 1, ()), rfl, ⟨by dsimp only; omega, by dsimp only; omega, q6, m6, d6, acc6, B6, T6, h64, ?_, H6, fun k hk => ?_, b6⟩, by dsimp only; omega⟩)⟩
        · dsimp only
          rw [show (i + 1).toNat = i.toNat + 1 by omega, ← Nat.add_assoc]
          exact hs2
        · rcases ht6 k hk with h' | h'
          · exact ht k h'
          · have := h3.size
            omega
  · have hi : ((K + 1 : Nat) : Int) ≤ i := lt_f e
    refine ⟨rfl, (pp, ()), rfl, fun g => ?_⟩
    rw [List.drop_of_length_le (by rw [List.length_map]; omega)] at hs2
    refine ⟨H2, ?_⟩
    rw [← hs2]
    exact ⟨pp, rfl, q2, m2, d2, acc2, rfl, B2, T2, m64⟩
/-! ### Records that stand somewhere -/
/-- Records at a place. -/
def AtT (w : World) (p : Option Addr) (n : Nat) (l : List RecM) : Prop := l.length = n ∧ (0 < n → ∃ ad, p = some ad ∧ ∀ (j : Nat) (x : RecM), l[j]? = some x → ∃ vq vn vc kp kn kc,
  w.cell? (ad.add (j * 6)) = some (.string x.key) ∧ CellsV w ((ad.add (j * 6)).add 1) x.val vq vn vc ∧ w.cell? ((ad.add (j * 6)).add 5) = some (.slice kp kn kc) ∧ IsV w x.val vq vn vc ∧ AtI w kp kn x.loops)
theorem AtT.no {w w' : World} {p : Option Addr} {n : Nat} {l : List RecM} (h : AtT w p n l) (hc : Ch No w w') : AtT w' p n l := ⟨h.1, fun hn => by
  obtain ⟨ad, e, hj⟩ := h.2 hn
  refine ⟨ad, e, fun j x hx => ?_⟩
  obtain ⟨vq, vn, vc, kp, kn, kc, h0, h1, h2, h3, h4⟩ := hj j x hx
  exact ⟨vq, vn, vc, kp, kn, kc, hc.cellv h0 (fun h => h), h1.ch (fun a v ha => hc.cellv ha (fun h => h)), hc.cellv h2 (fun h => h), h3.no hc, h4.no hc⟩⟩
theorem flat6 : ∀ (acc : List RElt) (i r : Nat) (y : RElt), acc[i]? = some y → r < 6 → (acc.flatMap RElt.cells)[i * 6 + r]? = y.cells[r]?
  | [], i, _, _, h, _ => by simp at h
  | z :: acc, 0, r, y, h, hr => by
    simp at h
    subst h
    rw [List.flatMap_cons, Nat.zero_mul, Nat.zero_add, List.getElem?_append_left (by simpa [RElt.cells, cellsV] using hr)]
  | z :: acc, i + 1, r, y, h, hr => by
    have hl : (RElt.cells z).length = 6 := rfl
    rw [List.flatMap_cons, List.getElem?_append_right (by omega), hl, show (i + 1) * 6 + r - 6 = i * 6 + r by omega]
    exact flat6 acc i r y (by simpa using h) hr
theorem RowT.at {w : World} {base : Nat} {p : Option Addr} {n c : Nat} {acc : List RElt} (h : RowT w base p n c acc) : AtT w p n (acc.map RElt.rc) := by
  refine ⟨by rw [List.length_map, h.len], fun hn => ?_⟩
  obtain ⟨g, rfl, _, hc⟩ := h.row.get hn
  refine ⟨_, rfl, fun j x hx => ?_⟩
  rw [List.getElem?_map] at hx
  obtain ⟨y, hy, rfl⟩ := Option.map_eq_some_iff.1 hx
  have cell : ∀ r v, r < 6 → y.cells[r]? = some v → w.cell? ⟨g, j * 6 + r, none⟩ = some v := fun r v hr hv => hc _ _ (by rw [flat6 acc j r y hy hr]; exact hv)
  have hI := h.elts y (List.mem_of_getElem? hy)
  refine ⟨y.2.2.1, y.2.2.2.1, y.2.2.2.2, none, 0, 0, ?_, ⟨?_, ?_, ?_, ?_⟩, ?_, hI.is, ⟨rfl, fun h => by omega⟩⟩ <;> simp only [addr_add, Nat.zero_add]
  · exact cell 0 _ (by omega) rfl
  · exact cell 1 _ (by omega) rfl
  · exact cell 2 _ (by omega) rfl
  · exact cell 3 _ (by omega) rfl
  · exact cell 4 _ (by omega) rfl
  · exact cell 5 _ (by omega) rfl
/-- ParseTape. -/
theorem ptape_any (text : ByteArray) (w : World) (G : GlobT w) (tb : Tabs w) (ev : Ev w) :
    Calls Tryz.prog 14 #[.string text] w fun e w' => Ch No w w' ∧ match parseTp text.data.toList with
      | .ok l => ∃ p n c, e = .returned (.tuple #[.slice p n c, .nilIface]) ∧ AtT w' p n l ∧ n ≤ 64
      | .error (l, pl, cd) => ∃ v, e = .returned (.tuple #[.slice none 0 0, v]) ∧ ErrAt w' v l pl cd := by
  refine calls_of_fnT mixed Tryz.func14 (s := s14) ?_
  rw [t14]
  refine nw fun w1 h1 z1 b1 => ?_
  have hGs := G.size
  refine cl_i (tlines_any w.heap.size text w1 b1 (G.ch h1 (fun _ _ h => h)) (tb.no h1) (ev.ch h1 (fun h => h)) hGs) ?_
  rintro e w2 ⟨h2, hr⟩
  have H2 : Ch No w w2 := h1.then_ h2 (fun k hk (h : k = w.heap.size) => by omega)
  cases hp : parseTp text.data.toList with
  | error er =>
    obtain ⟨l, pl, cd⟩ := er
    rw [hp] at hr
    obtain ⟨v, rfl, hv⟩ := hr
    exact ⟨(none, v, ()), rfl, ne_err hv (br_true rfl ⟨H2, v, rfl, hv⟩)⟩
  | ok st =>
    rw [hp] at hr
    obtain ⟨p, rfl, q, m, d, acc, rfl, B2, T2, m64⟩ := hr
    exact ⟨(p, .nilIface, ()), rfl, ne_nil (br_false rfl (ld_sl (B2.cell 0) ⟨H2, q, m, d, rfl, T2.at, m64⟩))⟩
end Go.Proofs.YtjlmkahagcojcaaGreatDoor.V
