/- quote: the walk. -/
import Derived.Test.YtjlmkahagcojcaaGreatDoorQuo
namespace Go.Proofs.YtjlmkahagcojcaaGreatDoor
open Go Tr
open Go.Lib (byteCells strCells)
open Go.RowKit (Below)
set_option maxRecDepth 100000
theorem bi_hex {R : Ending → World → Prop} {Q : Exit → List (Tmp × Value) → World → Prop} {w : World} {i : Int} {f : Int → T} (n : Nat) (hi : i = n) (hn : n < 16) (h : wpT Tryz.prog R Q (f ((hexL n).toNat : Int)) .pl w) : wpT Tryz.prog R Q (.bidx (bytesL [48, 49, 50, 51, 52, 53, 54, 55, 56, 57, 97, 98, 99, 100, 101, 102]) i f) .pl w := by
  subst hi
  obtain ⟨hlt, he⟩ := hexL_at n hn
  refine bi_i (by omega) (by rw [Int.toNat_natCast]; exact hlt) ?_
  have : (bytesL [48, 49, 50, 51, 52, 53, 54, 55, 56, 57, 97, 98, 99, 100, 101, 102])[((n : Int)).toNat]'(by rw [Int.toNat_natCast]; exact hlt) = hexL n := he
  rw [this]
  exact h
theorem hi4 (u : UInt8) : ((u.toNat : Nat) : Int).fdiv (2 ^ Min.min (Int.toNat 4) IntKind.u8.bits) = ((u.toNat / 16 : Nat) : Int) := by
  rw [show (2 : Int) ^ Min.min (Int.toNat 4) IntKind.u8.bits = 16 by decide, Int.fdiv_eq_ediv_of_nonneg _ (by decide)]
  omega
theorem lo4 (u : UInt8) : IntKind.u8.wrap (((BitVec.ofInt IntKind.u8.bits ((u.toNat : Nat) : Int) &&& BitVec.ofInt IntKind.u8.bits 15).toNat : Nat) : Int) = ((u.toNat % 16 : Nat) : Int) := by
  have key : ∀ n : Fin 256, (BitVec.ofInt 8 (n.val : Int) &&& BitVec.ofInt 8 15).toNat = n.val % 16 := by decide
  have h := key ⟨u.toNat, u.toNat_lt⟩
  rw [IntKind.wrap_u8']
  show (((BitVec.ofInt 8 ((u.toNat : Nat) : Int) &&& BitVec.ofInt 8 15).toNat : Nat) : Int) % 256 = _
  simp only at h
  rw [h]; omega
theorem hex_loop {R : Ending → World → Prop} {Q : Exit → List (Tmp × Value) → World → Prop} {kx : MVars mx118_16 → (Nat → Value) → T} {kr : MVars mr118_16 → (Nat → Value) → T} (base b : Nat) (w : World) (p : Option Addr) (n c : Nat) (bs : List UInt8) (hb : Bld base w b p n c bs) (hw : base ≤ w.heap.size)
    (s : ByteArray) (n2 g gl gc : Nat) (l : List UInt8) (hl : l.length = gl) (hcell : ∀ (j : Nat) (u : UInt8), l[j]? = some u → w.cell? ⟨g, j, none⟩ = some (.int .u8 u.toNat)) (hlt : g < w.heap.size) (hgb : g ≠ b) (hgr : ¬ rowS p n c g) (hsz : n + 4 * gl ≤ 140737488355328)
    (hk : ∀ w' q m d g', GrewW base b w p n c w' q m d (bs ++ l.flatMap hexB) → wpT Tryz.prog R Q (kx () g') .pl w') :
    wpT Tryz.prog R Q (.loop (at_ Tryz.f118 [1, 0, 1, 0, 0, 1, 1, 0, 1, 1, 0, 1, 1, 1, 1, 1, 1, 1, 1, 1, 0, 0]) 83 (fx118_16 ⟨b, 0, none⟩ s n2 (some ⟨g, 0, none⟩, gl, gc)) [(33, .int .i64 0)] mx118_16 mr118_16 3 kx kr) .pl w := by
  refine loop_i mixed m118_16 s118_16 (by kernel_rfl) (by kernel_rfl)
    (fun (v : Int × Unit) w' => 0 ≤ v.1 ∧ v.1 ≤ gl ∧ ∃ q m d, GrewW base b w p n c w' q m d (bs ++ (l.take v.1.toNat).flatMap hexB)) (fun (v : Int × Unit) _ => gl - v.1.toNat) (0, ()) rfl ⟨by simp, by simp, p, n, c, by simpa using GrewW.refl hb⟩ ?_
  rintro ⟨(i : Int), ⟨⟩⟩ g' w1 ⟨(i0 : 0 ≤ i), (i1 : i ≤ gl), q, m, d, g1⟩
  rw [t118_16]
  dsimp only at g1 ⊢
  refine br_both (fun e => ?_) fun e => ?_
  · have hi : i < gl := of_decide_eq_true e
    obtain ⟨u, hu⟩ : ∃ u, l[i.toNat]? = some u := ⟨_, List.getElem?_eq_getElem (by omega)⟩
    have hm := g1.bld.len
    have hn := hb.len
    simp only [List.length_append, hexB_len, List.length_take] at hm
    have hc : w1.cell? ((⟨g, 0, none⟩ : Addr).add (i.toNat * 1)) = some (.int .u8 u.toNat) := by
      rw [addr_add, Nat.zero_add, Nat.mul_one]
      exact g1.ch.cellv (hcell _ _ hu) (fun h => by
        rcases h with h | h
        · exact hgb h
        · exact hgr h)
    have hb1 : base ≤ w1.heap.size := Nat.le_trans hw g1.ch.size
    refine ix_i i0 hi (ld_int hc ?_)
    refine cl_i (writeString_any base b w1 q m d _ (bytesL [92, 120]) g1.bld hb1 (by show m + 2 ≤ _; omega)) ?_
    rintro e w2 ⟨rfl, q2, m2, d2, g2⟩
    refine ⟨((2 : Int), .nilIface, ()), rfl, ?_⟩
    have hm2 := g2.bld.len
    simp only [List.length_append, hexB_len, List.length_take] at hm2
    have e2 : (bytesL [92, 120]).data.toList.length = 2 := rfl
    rw [e2] at hm2
    refine bi_hex (u.toNat / 16) (hi4 u) (by have := u.toNat_lt; omega) ?_
    refine cl_i (writeByte_any base b w2 q2 m2 d2 _ (hexL (u.toNat / 16)) g2.bld (Nat.le_trans hb1 g2.ch.size) (by omega)) ?_
    rintro e w3 ⟨rfl, q3, m3, d3, g3⟩
    refine ⟨.nilIface, rfl, ?_⟩
    have hm3 := g3.bld.len
    simp only [List.length_append, hexB_len, List.length_take, List.length_cons, List.length_nil] at hm3
    refine bi_hex (u.toNat % 16) (lo4 u) (by omega) ?_
    refine cl_i (writeByte_any base b w3 q3 m3 d3 _ (hexL (u.toNat % 16)) g3.bld (Nat.le_trans (Nat.le_trans hb1 g2.ch.size) g3.ch.size) (by omega)) ?_
    rintro e w4 ⟨rfl, q4, m4, d4, g4⟩
    refine ⟨.nilIface, rfl, (i + 1, ()), ?_, ⟨by dsimp only; omega, by dsimp only; omega, q4, m4, d4, ?_⟩, by dsimp only; omega⟩
    · rw [wrap_succ i0 (by omega)]; rfl
    · dsimp only
      rw [show (i + 1).toNat = i.toNat + 1 by omega, List.take_add_one, hu]
      have := GrewW.trans hb g1 (GrewW.trans g1.bld g2 (GrewW.trans g2.bld g3 g4))
      simpa [hexB] using this
  · have hi : ¬ i < gl := of_decide_eq_false e
    refine ⟨rfl, (), rfl, fun g'' => hk w1 q m d g'' ?_⟩
    rw [List.take_of_length_le (by omega)] at g1
    exact g1
theorem run_bytes (w : World) (s : ByteArray) : (vNext (convert 9 92 (.string s))).run Tryz.prog w = .ok (.value (.slice (some ⟨w.heap.size, 0, none⟩) s.size (grownCap w s.size 0 5))) (Lib.bytesWorld w 5 s) := by
  unfold vNext
  simp only [Sem.run_bind, Lib.run_convert_string_bytes (P := Tryz.prog) w 9 92 5 s (u := .string) (by kernel_rfl) (by kernel_rfl) (by kernel_rfl), Result.andThen]
  rfl
theorem ch_bytes (w : World) (s : ByteArray) : Ch No w (Lib.bytesWorld w 5 s) := ⟨rfl, rfl, rfl, by rw [Lib.bytesWorld_size]; omega, fun k hk _ => Lib.bytesWorld_at_old w 5 s k hk⟩
set_option maxHeartbeats 1000000 in
theorem quote_any (base b : Nat) (w : World) (p : Option Addr) (n c : Nat) (bs : List UInt8) (s : ByteArray) (h : Bld base w b p n c bs) (hw : base ≤ w.heap.size) (hbase : 9 ≤ base) (hT : Lib.Utf8Tabs 3 4 w) (hsz : n + 4 * s.size + 6 ≤ 140737488355328) :
    Calls Tryz.prog 118 #[.pointer (some ⟨b, 0, none⟩), .string s] w fun e w' => e = .returned (.tuple #[]) ∧ ∃ q m d, GrewW base b w p n c w' q m d (bs ++ quoteB s) := by
  refine calls_of_fnT mixed Tryz.func118 (s := s118) ?_
  rw [t118]
  have hn := h.len
  refine cl_i (writeByte_any base b w p n c bs 34 h hw (by omega)) ?_
  rintro e w1 ⟨rfl, q1, m1, d1, g1⟩
  refine ⟨.nilIface, rfl, nwI fun w2 h2 z2 I2 => ?_⟩
  have hkw : w.heap.size ≤ w1.heap.size := g1.ch.size
  generalize hkk : w1.heap.size = k at *
  refine loop_i mixed m118_3 s118_3 (by kernel_rfl) (by kernel_rfl)
    (fun (v : Unit) w' => ∃ pos q m d pre, GrewW base b w p n c w' q m d (bs ++ 34 :: pre) ∧ Itr w' k s pos ∧ pos ≤ s.size ∧ pre ++ quoteF s s.size pos = quoteF s s.size 0 ∧ pre.length ≤ 4 * pos) (fun (v : Unit) w' => s.size - w'.iterPos k) () rfl ⟨0, q1, m1, d1, [], g1.then_no h2, I2, by omega, rfl, by simp⟩ ?_
  rintro ⟨⟩ g w3 ⟨pos, q3, m3, d3, pre, g3, I3, hpos, hs, hpre⟩
  rw [t118_3]
  have hip : w3.iterPos k = pos := by unfold World.iterPos; unfold Itr at I3; rw [I3]
  have hm3 := g3.bld.len
  simp only [List.length_append, List.length_cons] at hm3
  refine nx_s I3 (fun hp w4 h4 z4 I4 => ?_) (fun hp => ?_)
  · obtain ⟨hdec, hin⟩ := decode_in s pos hp
    have hw1 := Lib.decode_width_pos s pos hp
    have hc32 := decode_le s pos
    have g4 := g3.itr I3 h4 hkw
    generalize hcv : (Utf8.decode s pos).1 = cv at *
    generalize hwd : (Utf8.decode s pos).2 = wd at *
    have hb4 : base ≤ w4.heap.size := Nat.le_trans hw g4.ch.size
    refine ⟨decide_eq_true ⟨Int.natCast_nonneg pos, Int.ofNat_le.2 hpos, Int.le_refl _⟩, ?_⟩
    dsimp only
    rw [Int.toNat_natCast]
    refine cl_i (Tryz.utf8_DecodeRuneInString (s.extract pos s.size) w4 (Tabs_ch hT (g4.below h) hbase)) ?_
    rintro e w5 ⟨rfl, hbel⟩
    have h5 : Ch No w4 w5 := Ch.of_below hbel
    have I5 := I4.ch h5 (fun h => h)
    have g5 := g4.then_no h5
    have hb5 : base ≤ w5.heap.size := Nat.le_trans hb4 h5.size
    refine ⟨((cv : Int), (wd : Int), ()), by rw [hdec, hcv, hwd]; rfl, ?_⟩
    -- behind a piece
    have fin : ∀ w6 q6 m6 d6, GrewW base b w5 q3 m3 d3 w6 q6 m6 d6 (bs ++ 34 :: pre ++ pieceQ s pos cv wd) → ∃ v' : MVars m118_3, ([] : List (Tmp × Value)) = mvals m118_3 v' ∧ ((∃ pos q m d pre, GrewW base b w p n c w6 q m d (bs ++ 34 :: pre) ∧ Itr w6 k s pos ∧ pos ≤ s.size ∧ pre ++ quoteF s s.size pos = quoteF s s.size 0 ∧ pre.length ≤ 4 * pos) ∧ s.size - w6.iterPos k < s.size - w3.iterPos k) := by
      intro w6 q6 m6 d6 g6
      have I6 : Itr w6 k s (pos + wd) := I5.write g5.bld g6
      have hl := pieceQ_len s pos cv wd hw1
      refine ⟨(), rfl, ⟨pos + wd, q6, m6, d6, pre ++ pieceQ s pos cv wd, by simpa using GrewW.trans h g5 g6, I6, hin, ?_, by rw [List.length_append]; omega⟩, ?_⟩
      · rw [← hs, quoteF_step s pos hp, hcv, hwd, List.append_assoc]
      · have : w6.iterPos k = pos + wd := by unfold World.iterPos; unfold Itr at I6; rw [I6]
        rw [this, hip]; omega
    refine cut_i mixed s118_6 (fun (v : Bool × Unit) w' => w' = w5 ∧ v.1 = decide (cv = 34 ∨ cv = 92)) (by kernel_rfl) (fun g => ?_) ?_
    · rw [t118_6]
      dsimp only
      refine br_both (fun e => ⟨rfl, (true, ()), rfl, rfl, ?_⟩) fun e => ⟨rfl, (_, ()), rfl, rfl, ?_⟩
      · have e : (cv : Int) = 34 := by simpa using e
        exact (decide_eq_true (.inl (by omega))).symm
      · have e : ¬ (cv : Int) = 34 := by simpa using e
        rw [Bool.eq_iff_iff, decide_eq_true_eq, beq_iff_eq]
        omega
    rintro ⟨u, ⟨⟩⟩ g' w5' ⟨rfl, hu⟩
    dsimp only at hu
    subst hu
    dsimp only
    refine br_both (fun e => ?_) fun e => ?_
    · have e := of_decide_eq_true e
      refine cl_i (writeByte_any base b w5' q3 m3 d3 _ 92 g5.bld hb5 (by omega)) ?_
      rintro e' w6 ⟨rfl, q6, m6, d6, g6⟩
      refine ⟨.nilIface, rfl, ?_⟩
      have hm6 := g6.bld.len
      simp only [List.length_append, List.length_cons, List.length_nil] at hm6
      refine bi_i (by omega) (by rw [Int.toNat_natCast]; exact hp) ?_
      refine cl_i (writeByte_any base b w6 q6 m6 d6 _ (s[((pos : Int)).toNat]'(by rw [Int.toNat_natCast]; exact hp)) g6.bld (Nat.le_trans hb5 g6.ch.size) (by omega)) ?_
      rintro e' w7 ⟨rfl, q7, m7, d7, g7⟩
      refine ⟨.nilIface, rfl, fin w7 q7 m7 d7 ?_⟩
      have hpc : pieceQ s pos cv wd = [92, s[((pos : Int)).toNat]'(by rw [Int.toNat_natCast]; exact hp)] := by
        unfold pieceQ
        rw [if_pos e]
        congr 2
        have hpl : pos < s.data.toList.length := by simpa using hp
        simp [List.getD, List.getElem?_eq_getElem hpl]
        rfl
      rw [hpc]
      simpa using GrewW.trans g5.bld g6 g7
    have e1 := of_decide_eq_false e
    refine br_both (fun e => ?_) fun e => ?_
    · have e : cv = 10 := by have : (cv : Int) = 10 := by simpa using e
                             omega
      refine cl_i (writeString_any base b w5' q3 m3 d3 _ (bytesL [92, 110]) g5.bld hb5 (by show m3 + 2 ≤ _; omega)) ?_
      rintro e' w6 ⟨rfl, q6, m6, d6, g6⟩
      refine ⟨((2 : Int), .nilIface, ()), rfl, fin w6 q6 m6 d6 ?_⟩
      have hpc : pieceQ s pos cv wd = [92, 110] := by unfold pieceQ; rw [if_neg e1, if_pos e]
      rw [hpc]
      exact g6
    have e2 : ¬ cv = 10 := by have : ¬ (cv : Int) = 10 := by simpa using e
                              omega
    refine br_both (fun e => ?_) fun e => ?_
    · have e : cv = 9 := by have : (cv : Int) = 9 := by simpa using e
                            omega
      refine cl_i (writeString_any base b w5' q3 m3 d3 _ (bytesL [92, 116]) g5.bld hb5 (by show m3 + 2 ≤ _; omega)) ?_
      rintro e' w6 ⟨rfl, q6, m6, d6, g6⟩
      refine ⟨((2 : Int), .nilIface, ()), rfl, fin w6 q6 m6 d6 ?_⟩
      have hpc : pieceQ s pos cv wd = [92, 116] := by unfold pieceQ; rw [if_neg e1, if_neg e2, if_pos e]
      rw [hpc]
      exact g6
    have e3 : ¬ cv = 9 := by have : ¬ (cv : Int) = 9 := by simpa using e
                             omega
    refine cl_i (plain_any (cv : Int) (wd : Int) (by omega) (by omega) w5') ?_
    rintro e' w6 ⟨rfl, rfl⟩
    rw [Int.toNat_natCast, Int.toNat_natCast]
    refine ⟨_, rfl, br_both (fun e => ?_) fun e => ?_⟩
    · refine cl_i (writeRune_any base b w6 q3 m3 d3 _ (cv : Int) g5.bld hb5 (by omega) (by omega) (by omega)) ?_
      rintro e' w7 ⟨⟨kk, rfl⟩, q7, m7, d7, g7⟩
      refine ⟨(kk, .nilIface, ()), rfl, fin w7 q7 m7 d7 ?_⟩
      have hpc : pieceQ s pos cv wd = Lib.encodeRune cv := by unfold pieceQ; rw [if_neg e1, if_neg e2, if_neg e3, if_pos e]
      rw [hpc]
      exact g7
    · have hwr : IntKind.i64.wrap ((pos : Int) + wd) = ((pos + wd : Nat) : Int) := by rw [IntKind.wrap_i64]; omega
      refine ⟨decide_eq_true ⟨Int.natCast_nonneg pos, by rw [hwr]; exact Int.ofNat_le.2 (by omega), by rw [hwr]; exact Int.ofNat_le.2 hin⟩, ?_⟩
      simp only [hwr, Int.toNat_natCast]
      have hcs := ch_bytes w6 (s.extract pos (pos + wd))
      have hes : (s.extract pos (pos + wd)).size = wd := by simp [ByteArray.size_extract]; omega
      have hel : (s.extract pos (pos + wd)).data.toList = (s.data.toList.drop pos).take wd := by
        simp [ByteArray.data_extract, Array.toList_extract, List.extract_eq_take_drop]
      refine t_run (x := (some ⟨w6.heap.size, 0, none⟩, (s.extract pos (pos + wd)).size, grownCap w6 (s.extract pos (pos + wd)).size 0 5)) (run_bytes w6 (s.extract pos (pos + wd))) ?_
      have B := g5.bld.no hcs
      refine hex_loop base b (Lib.bytesWorld w6 5 (s.extract pos (pos + wd))) q3 m3 d3 _ B (Nat.le_trans hb5 hcs.size) s k w6.heap.size _ _ ((s.data.toList.drop pos).take wd) (by
        have hsl : s.data.toList.length = s.size := by simp
        rw [List.length_take, List.length_drop, hes, hsl]; omega) (fun j u hu => ?_) (by rw [Lib.bytesWorld_size]; omega) (fun e => by have := g5.bld.lt; omega) (fun hr => by have := (g5.bld.row.lt hr).2; omega) (by rw [hes]; omega) (fun w7 q7 m7 d7 g'' g7 => fin w7 q7 m7 d7 ?_)
      · have hj : j < (s.extract pos (pos + wd)).size := by
          rw [hes]
          have := (List.getElem?_eq_some_iff.1 hu).1
          rw [List.length_take] at this
          omega
        rw [Lib.bytesWorld_cell w6 5 _ j hj, hel]
        simp [List.getD, hu]
      · have hpc : pieceQ s pos cv wd = ((s.data.toList.drop pos).take wd).flatMap hexB := by unfold pieceQ; rw [if_neg e1, if_neg e2, if_neg e3, if_neg (by rw [e]; simp)]
        rw [hpc]
        exact GrewW.after hcs g7
  · refine ⟨rfl, (), rfl, fun g' => ?_⟩
    have hf : quoteF s s.size pos = [] := by
      cases hz : s.size with
      | zero => rfl
      | succ j => rw [quoteF, if_neg hp]
    rw [hf, List.append_nil] at hs
    refine cl_i (writeByte_any base b w3 q3 m3 d3 _ 34 g3.bld (Nat.le_trans hw g3.ch.size) (by omega)) ?_
    rintro e w4 ⟨rfl, q4, m4, d4, g4⟩
    refine ⟨.nilIface, rfl, rfl, q4, m4, d4, ?_⟩
    have := GrewW.trans h g3 g4
    rw [hs] at this
    simpa [quoteB] using this
end Go.Proofs.YtjlmkahagcojcaaGreatDoor
