/- ValueLoose: other lawful forms of a value's text are read as the same value. -/
import Derived.Test.YtjellmblammiaaaDoorLot
namespace Go.Proofs.YtjellmblammiaaaDoor
open Go Tr
set_option maxRecDepth 100000
/-! the tree of function 5 -/
abbrev fx5_22 (n13 : Nat) (n14 : Nat) (s19 : ByteArray) (r20 : (Int × Int × ByteArray × (Option Addr × Nat × Nat) × Unit) × Int × Int × Unit) (n21 : Nat) : List (Tmp × Value) := [(5, .pointer (some ⟨n13, 0, none⟩)), (6, .pointer (some ⟨n14, 0, none⟩)), (7, .string s19), (8, .pointer (some ⟨n21, 0, none⟩)), (9, .int .i64 r20.2.1), (10, .int .i64 r20.2.2.1)]
abbrev mx5_22 : List (Tmp × Comp) := [(46, .leaf .bool)]
def s5_22 : Script := .sym (.lit (.lit (.lit (.lit (.lit (.lit (.lit (.lit (.lit .nil))))))))) (.lit (.lit (.lit (.lit (.sym (.lit (.lit (.lit (.lit .nil)))) (.ld (.int .i64) (.ld (.int .i64) (.ld .str (.ld .sl (.lit (.ld (.int .i64) (.ld (.int .i64) (.ld .str (.ld .sl (.lit (.cl (.one (.leaf .bool)) (.lit (.lit .nil))))))))))))))))))
theorem t5_22 (n13 : Nat) (n14 : Nat) (s19 : ByteArray) (r20 : (Int × Int × ByteArray × (Option Addr × Nat × Nat) × Unit) × Int × Int × Unit) (n21 : Nat) (g : Nat → Value) : pieceT Tryd.prog (at_ Tryd.f5 [1, 1, 1, 1, 1, 1, 0, 0]) 73 (fx5_22 n13 n14 s19 r20 n21) g (mx5_22.map (·.1)) [] [] s5_22 =
  .br (r20.snd.snd.fst != 0)
    (.fin .normal [(46, .bool true)])
    (.br (r20.snd.fst != (↑s19.size : Int))
      (.fin .normal [(46, .bool true)])
      (.load ⟨n21, 0, none⟩ (.int .i64) (fun x23 =>
        .load ⟨n21, 1, none⟩ (.int .i64) (fun x24 =>
          .load ⟨n21, 2, none⟩ .str (fun s25 =>
            .load ⟨n21, 3, none⟩ .sl (fun l26 =>
              .load ⟨n13, 0, none⟩ (.int .i64) (fun x27 =>
                .load ⟨n13, 1, none⟩ (.int .i64) (fun x28 =>
                  .load ⟨n13, 2, none⟩ .str (fun s29 =>
                    .load ⟨n13, 3, none⟩ .sl (fun l30 =>
                      .call 12 #[.agg #[.int .i64 x23, .int .i64 x24, .string s25, .slice l26.1 l26.2.1 l26.2.2], .agg #[.int .i64 x27, .int .i64 x28, .string s29, .slice l30.1 l30.2.1 l30.2.2]] (.one (.leaf .bool)) (fun b31 =>
                        .fin .normal [(46, .bool (!b31))]))))))))))) := by kernel_rfl
def s5 : Script := .ld (.int .i64) (.ld (.int .i64) (.ld .str (.ld .sl (.cl (.one (.leaf .bool)) (.sym .nil (.ld (.int .i64) (.ld (.int .i64) (.ld .str (.ld .sl (.cl (.one (.agg [.int .i64, .int .i64, .str, .sl])) (.ld (.int .i64) (.ld (.int .i64) (.ld .str (.ld .sl (.cl (.one (.leaf .str)) (.nd (.clp (.tup [.agg [.int .i64, .int .i64, .str, .sl], .leaf (.int .i64), .leaf (.int .i64)]) (.ct 1 [5, 6, 7, 8, 9, 10] mx5_22 (.sym .nil (.cl (.one (.leaf .str)) (.nd (.cl (.one (.leaf .str)) (.nd (.clp (.tup [.agg [.int .i64, .int .i64, .str, .sl], .leaf (.int .i64), .leaf (.int .i64)]) (.sym (.lit (.lit (.lit (.lit (.sym (.ld (.int .i64) (.ld (.int .i64) (.ld .str (.ld .sl (.lit (.ld (.int .i64) (.ld (.int .i64) (.ld .str (.ld .sl (.lit (.cl (.one (.leaf .bool)) (.lit .nil)))))))))))) (.lit (.lit (.lit .nil)))))))) (.lit (.lit (.lit (.lit (.lit (.lit (.lit (.lit .nil))))))))) .nil))))))) .nil)))))))))))))))))
theorem t5 (qx0_0 : Int) (qx0_1 : Int) (qs0_2 : ByteArray) (qa0_3 : Option Addr) (qn0_3 : Nat) (qc0_3 : Nat) (qa1 : Option Addr) (qn1 : Nat) (qc1 : Nat) : fnT Tryd.prog Tryd.f5 #[.agg #[.int .i64 qx0_0, .int .i64 qx0_1, .string qs0_2, .slice qa0_3 qn0_3 qc0_3], .slice qa1 qn1 qc1] s5 =
  .new (.cells #[.int .i64 qx0_0, .int .i64 qx0_1, .string qs0_2, .slice qa0_3 qn0_3 qc0_3] 24 (0, 0)) (fun n1 =>
    .load ⟨n1, 0, none⟩ (.int .i64) (fun x2 =>
      .load ⟨n1, 1, none⟩ (.int .i64) (fun x3 =>
        .load ⟨n1, 2, none⟩ .str (fun s4 =>
          .load ⟨n1, 3, none⟩ .sl (fun l5 =>
            .new (.cells #[.int .i64 x2, .int .i64 x3, .string s4, .slice l5.1 l5.2.1 l5.2.2] 24 (0, 0)) (fun n6 =>
              .call 7 #[.slice (some ⟨n6, 0, none⟩) 1 1] (.one (.leaf .bool)) (fun b7 =>
                .br (!b7)
                  (.done (.returned (.bool true)))
                  (.load ⟨n1, 0, none⟩ (.int .i64) (fun x8 =>
                    .load ⟨n1, 1, none⟩ (.int .i64) (fun x9 =>
                      .load ⟨n1, 2, none⟩ .str (fun s10 =>
                        .load ⟨n1, 3, none⟩ .sl (fun l11 =>
                          .call 17 #[.agg #[.int .i64 x8, .int .i64 x9, .string s10, .slice l11.1 l11.2.1 l11.2.2]] (.one (.agg [.int .i64, .int .i64, .str, .sl])) (fun r12 =>
                            .new (.cells #[.int .i64 0, .int .i64 0, .string (bytesL []), .slice none 0 0] 24 (0, 0)) (fun n13 =>
                              .store ⟨n13, 0, none⟩ (.int .i64 r12.1)
                                (.store ⟨n13, 1, none⟩ (.int .i64 r12.2.1)
                                  (.store ⟨n13, 2, none⟩ (.string r12.2.2.1)
                                    (.store ⟨n13, 3, none⟩ (.slice r12.2.2.2.1.1 r12.2.2.2.1.2.1 r12.2.2.2.1.2.2)
                                      (.new (.cells #[.slice qa1 qn1 qc1, .int .i64 0] 43 (0, 0)) (fun n14 =>
                                        .load ⟨n13, 0, none⟩ (.int .i64) (fun x15 =>
                                          .load ⟨n13, 1, none⟩ (.int .i64) (fun x16 =>
                                            .load ⟨n13, 2, none⟩ .str (fun s17 =>
                                              .load ⟨n13, 3, none⟩ .sl (fun l18 =>
                                                .call 18 #[.pointer (some ⟨n14, 0, none⟩), .agg #[.int .i64 x15, .int .i64 x16, .string s17, .slice l18.1 l18.2.1 l18.2.2]] (.one (.leaf .str)) (fun s19 =>
                                                  .need (Decidable.decide (s19.size + (bytesL [32, 120]).size ≤ 9223372036854775807))
                                                    (.callp 19 #[.string (s19 ++ bytesL [32, 120])] (.tup [.agg [.int .i64, .int .i64, .str, .sl], .leaf (.int .i64), .leaf (.int .i64)]) (fun r20 =>
                                                      .new (.cells #[.int .i64 0, .int .i64 0, .string (bytesL []), .slice none 0 0] 24 (0, 0)) (fun n21 =>
                                                        .store ⟨n21, 0, none⟩ (.int .i64 r20.1.1)
                                                          (.store ⟨n21, 1, none⟩ (.int .i64 r20.1.2.1)
                                                            (.store ⟨n21, 2, none⟩ (.string r20.1.2.2.1)
                                                              (.store ⟨n21, 3, none⟩ (.slice r20.1.2.2.2.1.1 r20.1.2.2.2.1.2.1 r20.1.2.2.2.1.2.2)
                                                                (.cut (at_ Tryd.f5 [1, 1, 1, 1, 1, 1, 0, 0]) 73 (fx5_22 n13 n14 s19 r20 n21) mx5_22 (fun u32 g32 =>
                                                                  .br u32.1
                                                                    (.done (.returned (.bool false)))
                                                                    (.call 20 #[.pointer (some ⟨n14, 0, none⟩)] (.one (.leaf .str)) (fun s33 =>
                                                                      .need (Decidable.decide (s33.size + s19.size ≤ 9223372036854775807))
                                                                        (.call 20 #[.pointer (some ⟨n14, 0, none⟩)] (.one (.leaf .str)) (fun s34 =>
                                                                          .need (Decidable.decide ((s33 ++ s19).size + s34.size ≤ 9223372036854775807))
                                                                            (.callp 10 #[.string (s33 ++ s19 ++ s34)] (.tup [.agg [.int .i64, .int .i64, .str, .sl], .leaf (.int .i64), .leaf (.int .i64)]) (fun r35 =>
                                                                              .new (.cells #[.int .i64 0, .int .i64 0, .string (bytesL []), .slice none 0 0] 24 (0, 0)) (fun n36 =>
                                                                                .store ⟨n36, 0, none⟩ (.int .i64 r35.1.1)
                                                                                  (.store ⟨n36, 1, none⟩ (.int .i64 r35.1.2.1)
                                                                                    (.store ⟨n36, 2, none⟩ (.string r35.1.2.2.1)
                                                                                      (.store ⟨n36, 3, none⟩ (.slice r35.1.2.2.2.1.1 r35.1.2.2.2.1.2.1 r35.1.2.2.2.1.2.2)
                                                                                        (.br (r35.snd.snd.fst == 0)
                                                                                          (.br (r35.snd.fst == (↑(s33 ++ s19 ++ s34).size : Int))
                                                                                            (.load ⟨n36, 0, none⟩ (.int .i64) (fun x37 =>
                                                                                              .load ⟨n36, 1, none⟩ (.int .i64) (fun x38 =>
                                                                                                .load ⟨n36, 2, none⟩ .str (fun s39 =>
                                                                                                  .load ⟨n36, 3, none⟩ .sl (fun l40 =>
                                                                                                    .load ⟨n13, 0, none⟩ (.int .i64) (fun x41 =>
                                                                                                      .load ⟨n13, 1, none⟩ (.int .i64) (fun x42 =>
                                                                                                        .load ⟨n13, 2, none⟩ .str (fun s43 =>
                                                                                                          .load ⟨n13, 3, none⟩ .sl (fun l44 =>
                                                                                                            .call 12 #[.agg #[.int .i64 x37, .int .i64 x38, .string s39, .slice l40.1 l40.2.1 l40.2.2], .agg #[.int .i64 x41, .int .i64 x42, .string s43, .slice l44.1 l44.2.1 l44.2.2]] (.one (.leaf .bool)) (fun b45 =>
                                                                                                              .done (.returned (.bool b45))))))))))))
                                                                                            (.done (.returned (.bool false))))
                                                                                          (.done (.returned (.bool false))))))))) (fun ch46 =>
                                                                              .done (.panicked ch46)))))))))))))) (fun ch47 =>
                                                      .done (.panicked ch47))))))))))))))))))))))))))) := by kernel_rfl

theorem AtI.no {w w' : World} {p : Option Addr} {n : Nat} (h : AtI w p n) (hc : Ch No w w') : AtI w' p n := fun hn => by
  obtain ⟨ad, e, h⟩ := h hn
  refine ⟨ad, e, fun j hj => ?_⟩
  obtain ⟨z, hz, rz⟩ := h j hj
  exact ⟨z, hc.cellv hz (fun h => h), rz⟩
theorem bytesL_list (l : List UInt8) : (bytesL l).data.toList = l := by simp
set_option maxHeartbeats 1000000 in
theorem loose_any (x : VT) (p : Option Addr) (m c : Nat) (w : World) (hx : IsV w x p m c) (fx : Fit x) (q : Option Addr) (qn qc : Nat) (hq : AtI w q qn)
    (hT : Tabs w) (hE : Ev w) (h7g : 7 ≤ w.heap.size) :
    Calls Tryd.prog 5 #[valV x p m c, .slice q qn qc] w fun e w' => e = .returned (.bool true) ∧ Ch No w w' := by
  refine calls_of_fnT mixed Tryd.func5 (s := s5) ?_
  unfold valV
  rw [t5]
  refine nw fun w1 h1 z1 (b1 : Blk w1 w.heap.size (cellsV x p m c) 24) => ?_
  refine ld_v b1 ?_
  refine nw fun w2 h2 z2 (b2 : Blk w2 w1.heap.size (cellsV x p m c) 24) => ?_
  have H2 : Ch No w w2 := h1.trans h2
  refine cl_i (few_any _ _ 1 1 w2 (one_is (hx.no H2) b2)) ?_
  rintro r w3 ⟨rfl, h3⟩
  have H3 := H2.trans h3
  have B3 := (b1.ch h2 (fun h => h)).ch h3 (fun h => h)
  refine ⟨_, rfl, br_both (fun _ => ⟨rfl, H3⟩) fun _ => ?_⟩
  have sz : ∀ {w' : World}, Ch No w w' → 7 ≤ w'.heap.size := fun h => Nat.le_trans h7g h.size
  have hck := validV_check x
  have hvf := validV_fit fx
  have hgd := validV_good x
  have hcost := cost_le x
  obtain ⟨px, mx, cx, vx, ex⟩ := valid_is hx
  refine ld_v B3 (cl_i (clean_any x p m c w3 (hx.no H3)) ?_)
  rintro r w4 ⟨rfl, h4⟩
  have H4 := H3.trans h4
  rw [ex]
  refine ⟨((validV x).kind, (validV x).int, (validV x).text, (px, mx, cx), ()), rfl, ?_⟩
  refine put_v (x := validV x) (p := px) (m := mx) (c := cx) fun w5 h5 b5 => ?_
  have H5 := H4.trans h5
  refine nw fun w6 h6 z6 (b6 : Blk w6 w5.heap.size [.slice q qn qc, .int .i64 ((0 : Nat) : Int)] 43) => ?_
  have L6 : LS w5 w6 w5.heap.size q qn qc 0 := ⟨h6, Nat.le_refl _, b6, hq.no H5⟩
  refine ld_v (b5.ch h6 (fun h => h)) (cl_i (loose_text w5 w5.heap.size q qn qc (hT.no H5) (sz H5) _ (validV x) px mx cx w6 0 (Nat.lt_succ_self _) (vx _ H5) hgd hvf L6 (by omega)) ?_)
  rintro r w7 ⟨t, rfl, hfm, htl, ⟨a7, L7, ha7⟩, -⟩
  have H7 := H5.trans L7.ch
  have B7 := b5.ch L7.ch (fun h => h)
  refine ⟨bytesL t, rfl, decide_eq_true (by rw [bytesL_size (a := t)]; show _ + 2 ≤ _; omega), ?_⟩
  have hts := bytesL_size t
  have htd := bytesL_list t
  generalize bytesL t = tx at hts htd ⊢
  have hs2 : (tx ++ bytesL [32, 120]).size = t.length + 2 := by rw [ByteArray.size_append, hts]; rfl
  have hl2 : (tx ++ bytesL [32, 120]).data.toList = t ++ [32, 120] := by rw [ByteArray.data_append, Array.toList_append, htd]
  refine cp_i (lead_any w7 (tx ++ bytesL [32, 120]) (by rw [hs2]; omega) (hT.no H7) (hE.ch H7 (fun h => h)) (sz H7)) ?_
  rintro r w8 ⟨h8, hr⟩
  have H8 := H7.trans h8
  have hld : leadM (t ++ [32, 120]) = some (validV x, [32, 120], (partV 0 0 (validV x)).2) := lead_form hvf hck hfm [32, 120] (by decide)
  rw [hl2, hld] at hr
  obtain ⟨q8, n8, d8, rfl, v8⟩ := hr
  refine .inl ⟨(((validV x).kind, (validV x).int, (validV x).text, (q8, n8, d8), ()), (((tx ++ bytesL [32, 120]).size - [(32 : UInt8), 120].length : Nat) : Int), 0, ()), rfl, ?_⟩
  refine put_v (x := validV x) (p := q8) (m := n8) (c := d8) fun w9 h9 b9 => ?_
  have H9 := H8.trans h9
  have B9 := (B7.ch h8 (fun h => h)).ch h9 (fun h => h)
  have L9 := (L7.no h8).no h9
  refine cut_i mixed s5_22 (fun (v : Bool × Unit) w' => v.1 = false ∧ Ch No w9 w') (by kernel_rfl) (fun g => ?_) ?_
  · rw [t5_22]
    refine br_false rfl (br_false ?_ ?_)
    · rw [hs2, hts]
      show (((t.length + 2 - 2 : Nat) : Int) != (t.length : Int)) = false
      simp
    refine ld_v b9 (ld_v B9 (cl_i (same_any _ (validV x) (validV x) q8 n8 d8 px mx cx w9 (Nat.lt_succ_self _) (v8.no h9) (vx _ H9)) ?_))
    rintro r w10 ⟨rfl, h10⟩
    refine ⟨_, rfl, rfl, (_, ()), rfl, ?_, h10⟩
    show (!sameV _ _) = false
    rw [same_refl hgd]; rfl
  rintro ⟨v, ⟨⟩⟩ g w10 ⟨hv, h10⟩
  dsimp only at hv
  subst hv
  refine br_false rfl ?_
  have L10 := L9.no h10
  refine cl_i (blanksc_any L10 (by omega)) ?_
  rintro r w11 ⟨s1, rfl, hb1, hl1, ⟨a11, L11, ha11⟩, -⟩
  refine ⟨bytesL s1, rfl, decide_eq_true (by rw [bytesL_size (a := s1), hts]; omega), ?_⟩
  refine cl_i (blanksc_any L11 (by omega)) ?_
  rintro r w12 ⟨s2, rfl, hb2, hl2', ⟨a12, L12, ha12⟩, -⟩
  have hs12 : (bytesL s1 ++ tx).size = s1.length + t.length := by rw [ByteArray.size_append, bytesL_size (a := s1), hts]
  refine ⟨bytesL s2, rfl, decide_eq_true (by rw [bytesL_size (a := s2), hs12]; omega), ?_⟩
  have hs3 : (bytesL s1 ++ tx ++ bytesL s2).size = s1.length + t.length + s2.length := by rw [ByteArray.size_append, bytesL_size (a := s2), hs12]
  have hl3 : (bytesL s1 ++ tx ++ bytesL s2).data.toList = s1 ++ (t ++ s2) := by
    rw [ByteArray.data_append, ByteArray.data_append, Array.toList_append, Array.toList_append, htd, bytesL_list, bytesL_list, List.append_assoc]
  generalize bytesL s1 ++ tx ++ bytesL s2 = tz at hs3 hl3 ⊢
  have H12 := H5.trans L12.ch
  have B12 := b5.ch L12.ch (fun h => h)
  refine cp_i (parse_any w12 tz (by omega) (hT.no H12) (hE.ch H12 (fun h => h)) (sz H12)) ?_
  rintro r w13 ⟨h13, hr⟩
  rw [hl3, parse_form hvf hck hfm hb1 hb2] at hr
  obtain ⟨q13, n13, d13, rfl, v13⟩ := hr
  have H13 := H12.trans h13
  refine .inl ⟨(((validV x).kind, (validV x).int, (validV x).text, (q13, n13, d13), ()), (tz.size : Int), 0, ()), rfl, ?_⟩
  refine put_v (x := validV x) (p := q13) (m := n13) (c := d13) fun w14 h14 b14 => ?_
  have H14 := H13.trans h14
  have B14 := (B12.ch h13 (fun h => h)).ch h14 (fun h => h)
  refine br_true rfl (br_true (by simp) ?_)
  refine ld_v b14 (ld_v B14 (cl_i (same_any _ (validV x) (validV x) q13 n13 d13 px mx cx w14 (Nat.lt_succ_self _) (v13.no h14) (vx _ H14)) ?_))
  rintro r w15 ⟨rfl, h15⟩
  refine ⟨_, rfl, ?_, H14.trans h15⟩
  rw [same_refl hgd]
end Go.Proofs.YtjellmblammiaaaDoor
