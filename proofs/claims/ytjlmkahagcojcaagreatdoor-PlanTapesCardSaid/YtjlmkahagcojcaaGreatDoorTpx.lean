/- A tape's line. -/
import Derived.Test.YtjlmkahagcojcaaGreatDoorTpw
namespace Go.Proofs.YtjlmkahagcojcaaGreatDoor.V
open Go Tr
set_option maxRecDepth 100000
/-! the tree of function 44 -/
def s44 : Script := .hd0 (.hq 0 (.hq 1 (.hq 2 (.hq 3 (.ld .str (.hq 4 (.hq 5 (.hq 6 (.hq 7 (.hq 8 (.ld .str (.he 9 (.cl (.one (.leaf .str)) (.hq 10 (.hq 11 (.hq 12 (.ld .sl (.sym (.cl (.one (.leaf .any)) .nil) (.ld .str (.ix (.sym (.cl (.one (.leaf .any)) .nil) (.ld .str (.cl (.one (.leaf (.int .i64))) (.ld .str (.nd (.clp (.tup [.agg [.int .i64, .int .i64, .str, .sl], .leaf (.int .i64), .leaf (.int .i64)]) (.sym (.cl (.one (.leaf .any)) .nil) (.ld .str (.sym (.cl (.one (.leaf .any)) .nil) (.ld .str (.nd (.clp (.tup [.agg [.int .i64, .int .i64, .str, .sl], .leaf (.int .i64), .leaf (.int .i64)]) (.sym (.cl (.one (.leaf .any)) .nil) (.ld .sl (.ld .str (.ld (.int .i64) (.ld (.int .i64) (.ld .str (.ld .sl (.nop (.nop (.rn (.one (.leaf .sl)) .nil)))))))))) .nil)))))) .nil))))))))))))))))))))))))))
theorem t44 (qa0 : Addr) (qf0 : Addr) : fnT Tryz.prog Tryz.f44 #[.pointer (some qa0), .pointer (some qf0)] s44 = .hdrawn (.load qa0 .str (fun s1 => .load qa0 .str (fun s2 => .eff (.call 45 #[.string s2, .string (bytesL [32])] (.one (.leaf .str)) (fun s3 => .back (.undrawn (.load qf0 .sl (fun l4 => .br ((↑l4.snd.fst : Int) == 64) (.call 22 #[.pointer (some qa0), .int .i64 (IntKind.i64.wrap ((↑s1.size : Int) - (↑s3.size : Int))), .iface 69 (.int .i64 65)] (.one (.leaf .any)) (fun v5 => .done (.returned v5))) (.load qa0 .str (fun s6 => .bidx s6 (IntKind.i64.wrap ((↑s1.size : Int) - (↑s3.size : Int))) (fun c7 => .br (c7 != 34) (.call 22 #[.pointer (some qa0), .int .i64 (IntKind.i64.wrap ((↑s1.size : Int) - (↑s3.size : Int))), .iface 69 (.int .i64 67)] (.one (.leaf .any)) (fun v8 => .done (.returned v8))) (.load qa0 .str (fun s9 => .call 46 #[.string s9, .int .i64 (IntKind.i64.wrap ((↑s1.size : Int) - (↑s3.size : Int)))] (.one (.leaf (.int .i64))) (fun x10 => .load qa0 .str (fun s11 => .need (Decidable.decide (0 ≤ IntKind.i64.wrap ((↑s1.size : Int) - (↑s3.size : Int)) ∧ IntKind.i64.wrap ((↑s1.size : Int) - (↑s3.size : Int)) ≤ x10 ∧ x10 ≤ (↑s11.size : Int))) (.callp 47 #[.string (s11.extract (IntKind.i64.wrap ((↑s1.size : Int) - (↑s3.size : Int))).toNat x10.toNat)] (.tup [.agg [.int .i64, .int .i64, .str, .sl], .leaf (.int .i64), .leaf (.int .i64)]) (fun r12 => .new (.cells #[.int .i64 0, .int .i64 0, .string (bytesL []), .slice none 0 0] 52 (0, 0)) (fun n13 => .store ⟨n13, 0, none⟩ (.int .i64 r12.1.1) (.store ⟨n13, 1, none⟩ (.int .i64 r12.1.2.1) (.store ⟨n13, 2, none⟩ (.string r12.1.2.2.1) (.store ⟨n13, 3, none⟩ (.slice r12.1.2.2.2.1.1 r12.1.2.2.2.1.2.1 r12.1.2.2.2.1.2.2) (.br (r12.snd.snd.fst != 0) (.call 22 #[.pointer (some qa0), .int .i64 (IntKind.i64.wrap (IntKind.i64.wrap ((↑s1.size : Int) - (↑s3.size : Int)) + r12.snd.fst)), .iface 69 (.int .i64 r12.2.2.1)] (.one (.leaf .any)) (fun v14 => .done (.returned v14))) (.load ⟨n13, 2, none⟩ .str (fun s15 => .br (Decidable.decide ((↑s15.size : Int) > 12)) (.call 22 #[.pointer (some qa0), .int .i64 (IntKind.i64.wrap ((↑s1.size : Int) - (↑s3.size : Int))), .iface 69 (.int .i64 24)] (.one (.leaf .any)) (fun v16 => .done (.returned v16))) (.load qa0 .str (fun s17 => .need (Decidable.decide (0 ≤ x10 ∧ x10 ≤ (↑s17.size : Int) ∧ (↑s17.size : Int) ≤ (↑s17.size : Int))) (.callp 47 #[.string (s17.extract x10.toNat s17.size)] (.tup [.agg [.int .i64, .int .i64, .str, .sl], .leaf (.int .i64), .leaf (.int .i64)]) (fun r18 => .new (.cells #[.int .i64 0, .int .i64 0, .string (bytesL []), .slice none 0 0] 52 (0, 0)) (fun n19 => .store ⟨n19, 0, none⟩ (.int .i64 r18.1.1) (.store ⟨n19, 1, none⟩ (.int .i64 r18.1.2.1) (.store ⟨n19, 2, none⟩ (.string r18.1.2.2.1) (.store ⟨n19, 3, none⟩ (.slice r18.1.2.2.2.1.1 r18.1.2.2.2.1.2.1 r18.1.2.2.2.1.2.2) (.br (r18.snd.snd.fst != 0) (.call 22 #[.pointer (some qa0), .int .i64 (IntKind.i64.wrap (x10 + r18.snd.fst)), .iface 69 (.int .i64 r18.2.2.1)] (.one (.leaf .any)) (fun v20 => .done (.returned v20))) (.load qf0 .sl (fun l21 => .load ⟨n13, 2, none⟩ .str (fun s22 => .load ⟨n19, 0, none⟩ (.int .i64) (fun x23 => .load ⟨n19, 1, none⟩ (.int .i64) (fun x24 => .load ⟨n19, 2, none⟩ .str (fun s25 => .load ⟨n19, 3, none⟩ .sl (fun l26 => .new (.cells #[.string s22, .int .i64 x23, .int .i64 x24, .string s25, .slice l26.1 l26.2.1 l26.2.2, .slice none 0 0] 54 (0, 0)) (fun n27 => .run (builtin .append #[40, 40] 40 #[false, false] #[.slice l21.1 l21.2.1 l21.2.2, .slice (some ⟨n27, 0, none⟩) 1 1]) (.one (.leaf .sl)) (fun l28 => .store qf0 (.slice l28.1 l28.2.1 l28.2.2) (.done (.returned .nilIface))))))))))))))))) (fun ch29 => .done (.panicked ch29))))))))))))) (fun ch30 => .done (.panicked ch30)))))))))))))))))) := by kernel_rfl
def tapeT (q : Option Addr) (m d : Nat) : List Value := [.slice q m d]
def TLine (nl : Nat) (q : Option Addr) (m d : Nat) (acc : List RElt) (no : Int) (w : World) (res : Except (Nat × Int) (List RecM)) (e : Ending) (w' : World) : Prop :=
  Ch (fun k => k = nl ∨ rowS q m d k) w w' ∧ match res with
    | .ok st' => e = .returned .nilIface ∧ ∃ q' m' d' acc', acc'.map RElt.rc = st' ∧ Blk w' nl (tapeT q' m' d') 40 ∧ RowT w' (nl + 1) q' m' d' acc' ∧ ∀ k, rowS q' m' d' k → rowS q m d k ∨ w.heap.size ≤ k
    | .error (pl, cd) => ∃ v, e = .returned v ∧ ErrAt w' v no pl cd
theorem tline_any (nl nc : Nat) (q : Option Addr) (m d : Nat) (acc : List RElt) (s : ByteArray) (no : Int) (w : World) (hC : Cur w nc s no s.data.toList) (hb : Blk w nl (tapeT q m d) 40) (hT : RowT w (nl + 1) q m d acc) (hne : nl ≠ nc)
    (hrn : ¬ rowS q m d nc) (hs : s.size ≤ 4000) (hp : passed s.data.toList = false) (hm : m ≤ 64) (tb : Tabs w) (ev : Ev w) (hg : 9 ≤ w.heap.size) :
    Calls Tryz.prog 44 #[.pointer (some ⟨nc, 0, none⟩), .pointer (some ⟨nl, 0, none⟩)] w (TLine nl q m d acc no w (tapeLine s.data.toList (acc.map RElt.rc))) := by
  refine calls_of_fnT mixed Tryz.func44 (s := s44) ?_
  rw [t44]
  obtain ⟨c0, t0, hsk⟩ := not_passed hp
  have hsr := skip_rest s
  have hsl := skip_len s
  have hlenm := hT.len
  have hA : IntKind.i64.wrap ((s.size : Int) - ((bytesL (skipS s.data.toList)).size : Int)) = ((s.size - (skipS s.data.toList).length : Nat) : Int) := by
    rw [tb_size (skipS s.data.toList)]
    exact (wrap_in (by omega) (by omega)).trans (by omega)
  have hLs : s.data.toList.length = s.size := sizeB s
  unfold tapeLine
  rw [hLs, List.length_map, hlenm]
  have hpos : 0 < (skipS s.data.toList).length := by rw [hsk]; simp
  have hd := (Ch.refl No w).drew
  refine hd_i (fun w' => Ch No w w') hd ?_
  refine lh_str (x := s) (fun w' h => (hC.ch h (fun h => h)).blk.cell 0) (lh_str (x := s) (fun w' h => (hC.ch h (fun h => h)).blk.cell 0) (eff_i ?_))
  refine cl_i (Tryz.strings_TrimLeft_one s 32 (by decide) w.drew) ?_
  rintro e w1 ⟨rfl, rfl⟩
  refine ⟨_, rfl, ?_⟩
  rw [skip_trim, hA]
  refine bk hd (un_h ?_)
  generalize w.drew = w1 at *
  have C1 := hC.ch hd (fun h => h)
  have b1 := hb.ch hd (fun h => h)
  have T1 := hT.ch hd (fun _ _ _ h => h)
  have s1 := hd.size
  generalize hAA : s.size - (skipS s.data.toList).length = A at *
  have hAs : A < s.size := by omega
  -- a fault of the line
  have bad : ∀ (pl : Nat) (cd : Int) (w2 : World), Ch No w1 w2 → Calls Tryz.prog 22 #[.pointer (some ⟨nc, 0, none⟩), .int .i64 (pl : Int), .iface tErrno (.int .i64 cd)] w2 (fun e w' => ∃ v, e = .returned v ∧ TLine nl q m d acc no w (.error (pl, cd)) (.returned v) w') := fun pl cd w2 h2 =>
    (fault_any nc s no _ pl cd w2 (C1.ch h2 (fun h => h))).mono fun e w3 ⟨v, he, hv, h3⟩ => ⟨v, he, (hd.trans (h2.trans h3)).no, v, rfl, hv⟩
  refine ld_sl (b1.cell 0) ?_
  dsimp only
  refine br_both (fun e => ?_) fun e => ?_
  · have e : m = 64 := by have := eq_t e; omega
    rw [if_pos e]
    refine cl_i (bad A 65 w1 (Ch.refl _ _)) ?_
    rintro e w3 ⟨v, rfl, h⟩
    exact ⟨v, rfl, h⟩
  have e : m ≠ 64 := by have := eq_f e; omega
  rw [if_neg e]
  refine ld_str (C1.blk.cell 0) (bi_i (by omega) (by simpa using hAs) ?_)
  have hpkA : pk (rest s A) = (s[A]'hAs).toNat := by rw [pk_rest hAs]; rfl
  rw [hsr] at hpkA
  refine br_both (fun e => ?_) fun e => ?_
  · have e : (((s[A]'hAs).toNat : Nat) : Int) ≠ 34 := ne_t e
    rw [if_pos (by omega)]
    refine cl_i (bad A 67 w1 (Ch.refl _ _)) ?_
    rintro e w3 ⟨v, rfl, h⟩
    exact ⟨v, rfl, h⟩
  have e : (((s[A]'hAs).toNat : Nat) : Int) = 34 := ne_f e
  rw [if_neg (by omega)]
  clear e
  refine ld_str (C1.blk.cell 0) (cl_i (quoted_any s A w1 (by omega) hAs) ?_)
  rintro e w2 ⟨rfl, rfl⟩
  refine ⟨_, rfl, ?_⟩
  have htl : (skipS s.data.toList).tail = rest s (A + 1) := by rw [← hsr, rest_tail]
  rw [htl]
  have hql : qend false (rest s (A + 1)) ≤ s.size - (A + 1) := by
    have := qend_le false (rest s (A + 1))
    rwa [restL] at this
  generalize qend false (rest s (A + 1)) = qe at *
  refine ld_str (C1.blk.cell 0) (nd3 (by omega) (by omega) (by omega) ?_)
  rw [Int.toNat_natCast, Int.toNat_natCast]
  have hx1 : (s.extract A (A + 1 + qe)).data.toList = (skipS s.data.toList).take (1 + qe) := by
    rw [extract_list, hsr, show A + 1 + qe - A = 1 + qe by omega]
  have hz1 : (s.extract A (A + 1 + qe)).size = ((skipS s.data.toList).take (1 + qe)).length := by rw [← hx1]; rfl
  generalize s.extract A (A + 1 + qe) = k1 at hx1 hz1 ⊢
  have hz1' : k1.size ≤ s.size := by rw [hz1, List.length_take]; omega
  have hg2 : 9 ≤ w2.heap.size := by omega
  have ev2 : Ev w2 := ev.ch hd (fun h => h)
  refine cp_i (parse_any w2 k1 (by omega) (tb.no hd) ev2 hg2) ?_
  rintro e w3 ⟨h3, hr3⟩
  rw [hx1] at hr3
  rw [← hz1]
  cases hp1 : parseX ((skipS s.data.toList).take (1 + qe)) with
  | error f =>
    rw [hp1] at hr3
    subst hr3
    refine .inl ⟨((0, 0, bytesL [], (none, 0, 0), ()), ((k1.size - f.2 : Nat) : Int), f.1, ()), rfl, ?_⟩
    refine put_v (x := noneV) (p := none) (m := 0) (c := 0) fun w4 h4 b4 => ?_
    refine br_true (bne_iff_ne.2 (parseX_er hp1)) ?_
    have hw : IntKind.i64.wrap ((A : Int) + ((k1.size - f.2 : Nat) : Int)) = ((A + (k1.size - f.2) : Nat) : Int) := by rw [wrap_in (by omega) (by omega)]; omega
    rw [hw]
    refine cl_i (bad (A + (k1.size - f.2)) f.1 w4 (h3.trans h4)) ?_
    rintro e w5 ⟨v, rfl, h⟩
    exact ⟨v, rfl, h⟩
  | ok y =>
    obtain ⟨kv, kn⟩ := y
    rw [hp1] at hr3
    obtain ⟨kq, kn', kd, rfl, kI⟩ := hr3
    refine .inl ⟨((kv.kind, kv.int, kv.text, (kq, kn', kd), ()), (k1.size : Int), 0, ()), rfl, ?_⟩
    refine put_v (x := kv) (p := kq) (m := kn') (c := kd) fun w4 h4 b4 => ?_
    refine br_false rfl (ld_str (b4.cell 2) ?_)
    have H4 := h3.trans h4
    dsimp only
    refine br_both (fun e => ?_) fun e => ?_
    · have e : kv.text.size > 12 := by have := gt_t e; omega
      rw [if_pos e]
      refine cl_i (bad A 24 w4 H4) ?_
      rintro e w5 ⟨v, rfl, h⟩
      exact ⟨v, rfl, h⟩
    have e : ¬ kv.text.size > 12 := by have := gt_f e; omega
    rw [if_neg e]
    refine ld_str ((C1.ch H4 (fun h => h)).blk.cell 0) (nd3 (by omega) (by omega) (Int.le_refl _) ?_)
    have hx2 : (s.extract (A + 1 + qe) s.size).data.toList = (skipS s.data.toList).drop (1 + qe) := by
      rw [extract_list, ← hsr, List.drop_drop, List.take_of_length_le (by rw [restL]; omega)]
      congr 1
      omega
    have hz2 : (s.extract (A + 1 + qe) s.size).size = ((skipS s.data.toList).drop (1 + qe)).length := by rw [← hx2]; rfl
    generalize s.extract (A + 1 + qe) s.size = k2 at hx2 hz2 ⊢
    have hz2' : k2.size ≤ s.size := by rw [hz2, List.length_drop]; omega
    refine cp_i (parse_any w4 k2 (by omega) ((tb.no hd).no H4) (ev2.ch H4 (fun h => h)) (by have := H4.size; omega)) ?_
    rintro e w5 ⟨h5, hr5⟩
    rw [hx2] at hr5
    rw [← hz2]
    cases hp2 : parseX ((skipS s.data.toList).drop (1 + qe)) with
    | error f =>
      rw [hp2] at hr5
      subst hr5
      refine .inl ⟨((0, 0, bytesL [], (none, 0, 0), ()), ((k2.size - f.2 : Nat) : Int), f.1, ()), rfl, ?_⟩
      refine put_v (x := noneV) (p := none) (m := 0) (c := 0) fun w6 h6 b6 => ?_
      refine br_true (bne_iff_ne.2 (parseX_er hp2)) ?_
      have hw : IntKind.i64.wrap (((A + 1 + qe : Nat) : Int) + ((k2.size - f.2 : Nat) : Int)) = ((A + (1 + qe) + (k2.size - f.2) : Nat) : Int) := by rw [wrap_in (by omega) (by omega)]; omega
      rw [hw]
      refine cl_i (bad (A + (1 + qe) + (k2.size - f.2)) f.1 w6 (H4.trans (h5.trans h6))) ?_
      rintro e w7 ⟨v, rfl, h⟩
      exact ⟨v, rfl, h⟩
    | ok y =>
      obtain ⟨vv, vn⟩ := y
      rw [hp2] at hr5
      obtain ⟨vq, vn', vd, rfl, vI⟩ := hr5
      refine .inl ⟨((vv.kind, vv.int, vv.text, (vq, vn', vd), ()), (k2.size : Int), 0, ()), rfl, ?_⟩
      refine put_v (x := vv) (p := vq) (m := vn') (c := vd) fun w6 h6 b6 => ?_
      refine br_false rfl ?_
      have H6 := H4.trans (h5.trans h6)
      refine ld_sl ((b1.ch H6 (fun h => h)).cell 0) (ld_str ((b4.ch (h5.trans h6) (fun h => h)).cell 2) (ld_v b6 ?_))
      dsimp only
      refine nw fun w7 h7 z7 b7 => ?_
      have H7 := H6.trans h7
      have T7 : RowT w7 (nl + 1) q m d acc := T1.ch H7 (fun _ _ _ h => h)
      have k4 : IsVB (fun b => w.heap.size ≤ b ∧ b < w7.heap.size) w7 vv vq vn' vd := ((vI.ch (h6.trans h7) (fun _ _ h => h)).mono fun k hk => ⟨by have := hk.1; have := H4.size; omega, by have := hk.2; have := (h6.trans h7).size; omega⟩)
      refine ap_blk (by kernel_rfl) infoRec rfl (by omega) T7.row (by have := hb.lt; have := H7.size; omega) b7 rfl (fun u hu => ?_) (Nat.le_trans (by omega : m + 1 ≤ 65) (by decide)) (by omega) fun q' c' w8 g8 => ?_
      · simp only [List.mem_cons, List.mem_nil_iff, or_false] at hu
        rcases hu with rfl | rfl | rfl | rfl | rfl | rfl <;> rfl
      have H07 := hd.trans H7
      have b8 : Blk w8 nl (tapeT q m d) 40 := (hb.ch H07 (fun h => h)).ch g8.ch (fun h => by have := (hT.row.lt h).1; omega)
      refine st_blk b8 (by simp [tapeT]) rfl fun w9 h9 z9 b9 => ?_
      have T8 : RowT w8 (nl + 1) q' (m + 1) c' (acc ++ [(kv.text, vv, vq, vn', vd)]) := hT.push H07 (by have := hb.lt; omega) k4 g8
      have T9 := T8.ch h9 (fun k hk _ (h : k = nl) => by omega)
      refine ⟨H07.no.trans ((g8.ch.mono fun k hk => .inr hk).trans (h9.mono fun k hk => .inl hk)), rfl, q', m + 1, c', _, ?_, b9, T9, fun k hk => ?_⟩
      · rw [List.map_append]; rfl
      · rcases g8.lies k hk with h | h
        · exact .inl h
        · exact .inr (Nat.le_trans H07.size h)
end Go.Proofs.YtjlmkahagcojcaaGreatDoor.V
