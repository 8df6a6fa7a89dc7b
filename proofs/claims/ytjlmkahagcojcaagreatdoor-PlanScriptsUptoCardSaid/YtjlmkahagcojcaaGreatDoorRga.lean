/- The document's answer: open blocks in memory; begin. -/
import Derived.Test.YtjlmkahagcojcaaGreatDoorRfz
namespace Go.Proofs.YtjlmkahagcojcaaGreatDoor
open Go Tr
set_option maxRecDepth 100000
/-! the tree of function 26 -/
abbrev fx26_7 (qx1 : Int) (n1 : Nat) (n2 : Nat) (r6 : Int × Bool × Unit) : List (Tmp × Value) := [(1, .int .i64 qx1), (2, .pointer (some ⟨n1, 0, none⟩)), (4, .pointer (some ⟨n2, 0, none⟩)), (7, .int .i64 r6.1), (8, .bool r6.2.1)]
abbrev mx26_7 : List (Tmp × Comp) := [(24, .leaf .bool)]
def s26_7 : Script := .sym (.lit (.lit (.lit (.lit (.lit .nil))))) (.lit (.lit (.sym (.lit (.lit .nil)) (.lit (.lit .nil)))))
theorem t26_7 (qx1 : Int) (n1 : Nat) (n2 : Nat) (r6 : Int × Bool × Unit) (g : Nat → Value) : pieceT Tryz.prog (at_ Tryz.f26 [1, 1, 0, 0]) 41 (fx26_7 qx1 n1 n2 r6) g (mx26_7.map (·.1)) [] [] s26_7 =
  .br (!r6.snd.fst)
    (.fin .normal [(24, .bool true)])
    (.br (Decidable.decide (r6.fst < 1))
      (.fin .normal [(24, .bool true)])
      (.fin .normal [(24, .bool (Decidable.decide (r6.fst > 2000)))])) := by kernel_rfl
def s26 : Script := .ld .str (.ld .sl (.cl (.one (.leaf .str)) (.cl (.tup [.leaf (.int .i64), .leaf .bool]) (.ct 1 [1, 2, 4, 7, 8] mx26_7 (.sym (.ld .str (.ld .sl (.cl (.one (.leaf (.int .i64))) (.ld (.int .i64) (.ld (.int .i64) (.ld (.int .i64) (.ld .sl .nil))))))) (.ld .sl (.sym (.ld .str (.ld .sl (.cl (.one (.leaf (.int .i64))) (.ld (.int .i64) (.ld (.int .i64) (.ld (.int .i64) (.ld .sl .nil))))))) (.ld .str (.ld .sl (.cl (.one (.leaf (.int .i64))) (.ld (.int .i64) (.ld (.int .i64) (.ld (.int .i64) (.ld .sl .nil))))))))))))))
theorem t26 (qs0_0 : ByteArray) (qa0_1 : Option Addr) (qn0_1 : Nat) (qc0_1 : Nat) (qx1 : Int) : fnT Tryz.prog Tryz.f26 #[.agg #[.string qs0_0, .slice qa0_1 qn0_1 qc0_1], .int .i64 qx1] s26 =
  .new (.cells #[.string qs0_0, .slice qa0_1 qn0_1 qc0_1] 77 (0, 0)) (fun n1 =>
    .new (.cells #[.int .i64 0, .int .i64 0, .int .i64 0, .slice none 0 0] 73 (0, 0)) (fun n2 =>
      .load ⟨n1, 0, none⟩ .str (fun s3 =>
        .load ⟨n1, 1, none⟩ .sl (fun l4 =>
          .call 25 #[.agg #[.string s3, .slice l4.1 l4.2.1 l4.2.2], .int .i64 1] (.one (.leaf .str)) (fun s5 =>
            .call 62 #[.string s5, .bool false] (.tup [.leaf (.int .i64), .leaf .bool]) (fun r6 =>
              .cut (at_ Tryz.f26 [1, 1, 0, 0]) 41 (fx26_7 qx1 n1 n2 r6) mx26_7 (fun u8 g8 =>
                .br u8.1
                  (.load ⟨n1, 0, none⟩ .str (fun s9 =>
                    .load ⟨n1, 1, none⟩ .sl (fun l10 =>
                      .call 29 #[.agg #[.string s9, .slice l10.1 l10.2.1 l10.2.2], .int .i64 1] (.one (.leaf (.int .i64))) (fun x11 =>
                        .store ⟨n2, 0, none⟩ (.int .i64 0)
                          (.store ⟨n2, 1, none⟩ (.int .i64 0)
                            (.store ⟨n2, 2, none⟩ (.int .i64 0)
                              (.store ⟨n2, 3, none⟩ (.slice none 0 0)
                                (.load ⟨n2, 0, none⟩ (.int .i64) (fun x12 =>
                                  .load ⟨n2, 1, none⟩ (.int .i64) (fun x13 =>
                                    .load ⟨n2, 2, none⟩ (.int .i64) (fun x14 =>
                                      .load ⟨n2, 3, none⟩ .sl (fun l15 =>
                                        .done (.returned (.tuple #[.agg #[.int .i64 x12, .int .i64 x13, .int .i64 x14, .slice l15.1 l15.2.1 l15.2.2], .int .i64 x11, .int .i64 62]))))))))))))))
                  (.load ⟨n1, 1, none⟩ .sl (fun l16 =>
                    .br (Decidable.decide ((↑l16.snd.fst : Int) > 2))
                      (.load ⟨n1, 0, none⟩ .str (fun s17 =>
                        .load ⟨n1, 1, none⟩ .sl (fun l18 =>
                          .call 29 #[.agg #[.string s17, .slice l18.1 l18.2.1 l18.2.2], .int .i64 2] (.one (.leaf (.int .i64))) (fun x19 =>
                            .store ⟨n2, 0, none⟩ (.int .i64 0)
                              (.store ⟨n2, 1, none⟩ (.int .i64 0)
                                (.store ⟨n2, 2, none⟩ (.int .i64 0)
                                  (.store ⟨n2, 3, none⟩ (.slice none 0 0)
                                    (.load ⟨n2, 0, none⟩ (.int .i64) (fun x20 =>
                                      .load ⟨n2, 1, none⟩ (.int .i64) (fun x21 =>
                                        .load ⟨n2, 2, none⟩ (.int .i64) (fun x22 =>
                                          .load ⟨n2, 3, none⟩ .sl (fun l23 =>
                                            .done (.returned (.tuple #[.agg #[.int .i64 x20, .int .i64 x21, .int .i64 x22, .slice l23.1 l23.2.1 l23.2.2], .int .i64 x19, .int .i64 61]))))))))))))))
                      (.load ⟨n1, 0, none⟩ .str (fun s24 =>
                        .load ⟨n1, 1, none⟩ .sl (fun l25 =>
                          .call 29 #[.agg #[.string s24, .slice l25.1 l25.2.1 l25.2.2], .int .i64 0] (.one (.leaf (.int .i64))) (fun x26 =>
                            .store ⟨n2, 0, none⟩ (.int .i64 r6.1)
                              (.store ⟨n2, 1, none⟩ (.int .i64 (IntKind.i64.wrap (qx1 + 1)))
                                (.store ⟨n2, 2, none⟩ (.int .i64 x26)
                                  (.store ⟨n2, 3, none⟩ (.slice none 0 0)
                                    (.load ⟨n2, 0, none⟩ (.int .i64) (fun x27 =>
                                      .load ⟨n2, 1, none⟩ (.int .i64) (fun x28 =>
                                        .load ⟨n2, 2, none⟩ (.int .i64) (fun x29 =>
                                          .load ⟨n2, 3, none⟩ .sl (fun l30 =>
                                            .done (.returned (.tuple #[.agg #[.int .i64 x27, .int .i64 x28, .int .i64 x29, .slice l30.1 l30.2.1 l30.2.2], .int .i64 0, .int .i64 0]))))))))))))))))))))))) := by kernel_rfl

abbrev tRBlk : TypeId := 73
abbrev tRBlks : TypeId := 74
structure Zn where
  p : Option Addr
  n : Nat
  c : Nat
  x : BlkM
def blkC (z : Zn) : List Value := [.int .i64 z.x.times, .int .i64 z.x.no, .int .i64 z.x.place, .slice z.p z.n z.c]
def blkCells (zs : List Zn) : List Value := zs.flatMap blkC
theorem blkCells_app (a b : List Zn) : blkCells (a ++ b) = blkCells a ++ blkCells b := by unfold blkCells; rw [List.flatMap_append]
theorem blkCells_one (z : Zn) : blkCells [z] = blkC z := by simp [blkCells]
theorem blkCells_len (zs : List Zn) : (blkCells zs).length = zs.length * 4 := by
  induction zs with
  | nil => rfl
  | cons z zs ih =>
    have : blkCells (z :: zs) = blkC z ++ blkCells zs := rfl
    rw [this, List.length_append, ih, List.length_cons]
    show 4 + _ = _
    omega
def zS (z : Zn) (k : Nat) : Prop := rowS z.p z.n z.c k
/-- The open blocks, the outermost first. -/
structure BS (B : Nat) (w : World) (q : Option Addr) (m d : Nat) (zs : List Zn) : Prop where
  row : Row w B tRBlk 4 q m d (blkCells zs)
  ops : ∀ z ∈ zs, OpsRow w z.p z.n z.c z.x.ops
  lo : ∀ z ∈ zs, ∀ k, zS z k → B ≤ k
  apart : zs.Pairwise (fun a b => ∀ k, zS a k → ¬ zS b k)
theorem OpsRow.lt {w : World} {p : Option Addr} {n c : Nat} {os : List OpM} (h : OpsRow w p n c os) {k : Nat} (hk : rowS p n c k) : k < w.heap.size := by
  obtain ⟨cs, hr, _⟩ := h
  exact (hr.lt hk).2
theorem OpsRow.noTy {w : World} {p : Option Addr} {n c : Nat} {os : List OpM} (h : OpsRow w p n c os) {t : TypeId} (ht : tOp ≠ t) : NoTy w (rowS p n c) t := by
  obtain ⟨cs, hr, _⟩ := h
  exact noTy_row hr ht
theorem OpsRow.away {w : World} {p : Option Addr} {n c : Nat} {os : List OpM} (h : OpsRow w p n c os) {S : Nat → Prop} (ht : NoTy w S tOp) (k : Nat) (hk : rowS p n c k) : ¬ S k := by
  obtain ⟨cs, hr, _⟩ := h
  exact hr.noTy ht k hk
section
variable {B : Nat} {w w' : World} {q : Option Addr} {m d : Nat} {zs : List Zn}
theorem BS.len (h : BS B w q m d zs) : m = zs.length := by
  have := h.row.len
  rw [blkCells_len] at this
  omega
theorem BS.ch {S : Nat → Prop} (h : BS B w q m d zs) (hc : Ch S w w') (h1 : ∀ k, rowS q m d k → ¬ S k) (h2 : ∀ z ∈ zs, ∀ k, zS z k → ¬ S k) (h3 : NoInt w S) : BS B w' q m d zs :=
  ⟨h.row.ch hc h1, fun z hz => (h.ops z hz).ch hc (h2 z hz) h3, h.lo, h.apart⟩
theorem BS.no (h : BS B w q m d zs) (hc : Ch No w w') : BS B w' q m d zs := h.ch hc (fun _ _ h => h) (fun _ _ _ _ h => h) (noTy_no _ _)
theorem BS.nt {S : Nat → Prop} (h : BS B w q m d zs) (hc : Ch S w w') (h1 : NoTy w S tRBlk) (h2 : NoTy w S tOp) (h3 : NoInt w S) : BS B w' q m d zs :=
  h.ch hc (h.row.noTy h1) (fun z hz k hk => (h.ops z hz).away h2 k hk) h3
/-- The last block's cells. -/
theorem BS.last {z : Zn} (h : BS B w q m d (zs ++ [z])) : ∃ g, q = some ⟨g, 0, none⟩ ∧ m = zs.length + 1 ∧ rowS q m d g ∧ ∀ j u, (blkC z)[j]? = some u → w.cell? ⟨g, zs.length * 4 + j, none⟩ = some u := by
  have hm := h.len
  rw [List.length_append, List.length_singleton] at hm
  obtain ⟨g, hq, hg, hc⟩ := h.row.get (by omega)
  refine ⟨g, hq, hm, hg, fun j u hu => hc _ _ ?_⟩
  rw [blkCells_app, blkCells_one, List.getElem?_append_right (by rw [blkCells_len]; omega), blkCells_len, Nat.add_sub_cancel_left]
  exact hu
theorem BS.pop {z : Zn} (h : BS B w q m d (zs ++ [z])) : BS B w q zs.length d zs := by
  have hm := h.len
  rw [List.length_append, List.length_singleton] at hm
  refine ⟨?_, fun z hz => h.ops z (List.mem_append_left _ hz), fun z hz => h.lo z (List.mem_append_left _ hz), (List.pairwise_append.1 h.apart).1⟩
  have := h.row.take (m := zs.length) (by omega)
  rw [blkCells_app, List.take_append_of_le_length (by rw [blkCells_len]; omega), List.take_of_length_le (by rw [blkCells_len]; omega)] at this
  exact this
end
theorem infoRBlk : (Tryz.prog.info? tRBlk).map (fun i => (i.zero, i.size, i.bytes)) = some (some (.agg #[.int .i64 0, .int .i64 0, .int .i64 0, .slice none 0 0]), 4, 48) := by kernel_rfl
section
variable {R : Ending → World → Prop} {Q : Exit → List (Tmp × Value) → World → Prop} {w w0 : World}
/-- A store into a row. -/
theorem st_row {md : Md} [hmd : md.Runs] {base : Nat} {e : TypeId} {size : Nat} {g n c i : Nat} {xs : List Value} {v : Value} {K : T} (hr : Row w base e size (some ⟨g, 0, none⟩) n c xs) (hi : i < xs.length) (hv : v.oneCell' = true)
    (h : ∀ w1, Ch (rowS (some ⟨g, 0, none⟩) n c) w w1 → Row w1 base e size (some ⟨g, 0, none⟩) n c (xs.set i v) → wpT Tryz.prog R Q K md w1) : wpT Tryz.prog R Q (.store ⟨g, i, none⟩ v K) md w := by
  have hl : xs.length = n * size := hr.1
  rcases hr.2 with ⟨h', _⟩ | ⟨g', cap, cur, h', hb, hg, h1, h2, h3, h4⟩
  · simp only [Value.slice.injEq] at h'
    cases h'.1
  · simp only [Value.slice.injEq, Option.some.injEq, Addr.mk.injEq, true_and, and_true] at h'
    obtain ⟨rfl, rfl⟩ := h'
    have hblk : Blk w g cur.toList e := by unfold Blk; rw [hg]
    have hlen : i < cur.toList.length := by
      have := congrArg List.length h4
      rw [List.length_take, hl] at this
      omega
    refine st_blk hblk hlen hv fun w1 c1 z1 b1 => h w1 (c1.mono fun k hk => by subst hk; rfl) ⟨by rw [List.length_set]; exact hl, .inr ⟨g, c, (cur.toList.set i v).toArray, rfl, hb, b1, h1, h2, ?_, ?_⟩⟩
    · simpa using h3
    · rw [List.take_set, h4]
/-- Where a step has been put. -/
structure PutZ (B : Nat) (w0 : World) (q : Option Addr) (m d : Nat) (zs : List Zn) (z : Zn) (o : OpM) (w' : World) (q' : Option Addr) (c' : Nat) : Prop where
  ch : Ch (fun k => zS z k ∨ rowS q m d k) w0 w'
  bs : BS B w' q m d (zs ++ [⟨q', z.n + 1, c', { z.x with ops := z.x.ops ++ [o] }⟩])
  lies : ∀ k, rowS q' (z.n + 1) c' k → zS z k ∨ w0.heap.size ≤ k
theorem putz_tail {B g n b1 : Nat} {q : Option Addr} {m d : Nat} {zs : List Zn} {z : Zn} {o : OpM} {p : Option Addr} {kn kc : Nat} {K : T} (hb : BS B w q m d (zs ++ [z])) (hB : B ≤ w.heap.size) (hq : q = some ⟨g, 0, none⟩) (hl : z.x.ops.length ≤ 2100) (hk : Row w 0 tInt 1 p kn kc (intCells o.keep))
    (hn : Blk w n (opTuple o p kn kc) tOp) (hnr : ¬ zS z n) (b1b : Blk w b1 (opTuple o p kn kc) tOp) (h01 : Ch No w0 w) (hB0 : B ≤ w0.heap.size)
    (h : ∀ w' q' c', PutZ B w0 q m d zs z o w' q' c' → wpT Tryz.prog R Q K .pl w') :
    wpT Tryz.prog R Q (.run (builtin .append #[tOps, tOps] tOps #[false, false] #[.slice z.p z.n z.c, .slice (some ⟨b1, 0, none⟩) 1 1]) (.one (.leaf .sl)) fun l =>
      .back (.idx q (zs.length : Int) m 4 (fun a => .eff (.store (a.add 3) (.slice l.1 l.2.1 l.2.2) (.back (.undrawn K)))))) (.ef (fun w' => Blk w' n (opTuple o p kn kc) tOp)) w := by
  have hmem : z ∈ zs ++ [z] := by simp
  have ho := hb.ops z hmem
  have hlen := ho.len
  have hm := hb.len
  rw [List.length_append, List.length_singleton] at hm
  obtain ⟨cs, hr, hoc⟩ := ho
  refine ap_blk (by kernel_rfl) infoOp rfl (by omega) hr (Nat.zero_le _) b1b (by simp [opTuple, opCells]) (opTuple_one o p kn kc) (by unfold maxLen; omega) (by omega) fun q' d' w1 g1 => ?_
  have n1 := hn.ch g1.ch hnr
  have row1 := hb.row.ch g1.ch (hb.row.noTy (noTy_row hr (by decide)))
  subst hq
  refine bk n1 (ix_i (by omega) (by show (zs.length : Int) < (m : Int); omega) ?_)
  rw [addr_add, addr_add, Int.toNat_natCast, Nat.zero_add]
  refine eff_i (st_row row1 (by rw [blkCells_len, List.length_append, List.length_singleton]; omega) rfl fun w2 h2 row2 => bk (n1.ch h2 (n1.noTy (noTy_row row1 (by decide)))) (un_h (h w2 q' d' ⟨?_, ⟨?_, ?_, ?_, ?_⟩, ?_⟩)))
  · exact h01.no.trans ((g1.ch.mono fun k hk => .inl hk).trans (h2.mono fun k hk => .inr hk))
  · have e : (blkCells (zs ++ [z])).set (zs.length * 4 + 3) (.slice q' (z.n + 1) d') = blkCells (zs ++ [⟨q', z.n + 1, d', { z.x with ops := z.x.ops ++ [o] }⟩]) := by
      rw [blkCells_app, blkCells_app, blkCells_one, blkCells_one, List.set_append_right _ _ (by rw [blkCells_len]; omega), blkCells_len, Nat.add_sub_cancel_left]
      rfl
    rw [e] at row2
    exact row2
  · intro y hy
    rcases List.mem_append.1 hy with hy | hy
    · have hy' := hb.ops y (List.mem_append_left _ hy)
      have ha := (List.pairwise_append.1 hb.apart).2.2 y hy z (by simp)
      have h1 := hy'.ch g1.ch ha (noTy_row hr (by decide))
      exact h1.ch h2 (h1.away (noTy_row row1 (by decide))) (noTy_row row1 (by decide))
    · rw [List.mem_singleton] at hy
      subst hy
      have hoc' : OpsC w1 (cs ++ opTuple o p kn kc) (z.x.ops ++ [o]) := by
        have h1 := hoc.ch g1.ch (noTy_row hr (by decide))
        have h2 : OpsC w1 (opCells o.kind o.a o.b p kn kc ++ []) [o] := .cons o p kn kc [] [] (hk.ch g1.ch (hk.noTy (noTy_row hr (by decide)))) .nil
        rw [List.append_nil] at h2
        exact h1.app h2
      exact ⟨_, g1.own.ch h2 (g1.own.noTy (noTy_row row1 (by decide))), hoc'.ch h2 (noTy_row row1 (by decide))⟩
  · intro y hy k hk
    rcases List.mem_append.1 hy with hy | hy
    · exact hb.lo y (List.mem_append_left _ hy) k hk
    · rw [List.mem_singleton] at hy
      subst hy
      rcases g1.lies k hk with h' | h'
      · exact hb.lo z hmem k h'
      · omega
  · refine List.pairwise_append.2 ⟨(List.pairwise_append.1 hb.apart).1, List.pairwise_singleton _ _, fun y hy u hu k hk hk' => ?_⟩
    rw [List.mem_singleton] at hu
    subst hu
    rcases g1.lies k hk' with h' | h'
    · exact (List.pairwise_append.1 hb.apart).2.2 y hy z (by simp) k hk h'
    · have := (hb.ops y (List.mem_append_left _ hy)).lt hk
      omega
  · intro k hk
    have := h01.size
    exact (g1.lies k hk).imp id (fun h => by omega)
theorem putz {B n : Nat} {q : Option Addr} {m d : Nat} {zs : List Zn} {z : Zn} {o : OpM} {p : Option Addr} {kn kc : Nat} {K : T} (hb : BS B w q m d (zs ++ [z])) (hB : B ≤ w.heap.size) (hl : z.x.ops.length ≤ 2100) (hk : Row w 0 tInt 1 p kn kc (intCells o.keep))
    (hn : Blk w n (opTuple o p kn kc) tOp) (hnr : ¬ zS z n)
    (h : ∀ w' q' c', PutZ B w q m d zs z o w' q' c' → wpT Tryz.prog R Q K .pl w') :
    wpT Tryz.prog R Q (.hdrawn (.idx q (zs.length : Int) m 4 (fun a =>
      .load ⟨n, 0, none⟩ (.int .i64) fun x49 => .load ⟨n, 1, none⟩ (.int .i64) fun x50 => .load ⟨n, 2, none⟩ (.int .i64) fun x51 => .load ⟨n, 3, none⟩ .sl fun l52 =>
        .both
          (.eff (.load (a.add 3) .sl fun l53 => .back (.eff (.new (.cells #[.int .i64 x49, .int .i64 x50, .int .i64 x51, .slice l52.1 l52.2.1 l52.2.2] tOp (0, 0)) fun n54 => .back (.eff
            (.run (builtin .append #[tOps, tOps] tOps #[false, false] #[.slice l53.1 l53.2.1 l53.2.2, .slice (some ⟨n54, 0, none⟩) 1 1]) (.one (.leaf .sl)) fun l =>
              .back (.idx q (zs.length : Int) m 4 (fun a => .eff (.store (a.add 3) (.slice l.1 l.2.1 l.2.2) (.back (.undrawn K))))))))))) 
          (.both
            (.eff (.new (.cells #[.int .i64 x49, .int .i64 x50, .int .i64 x51, .slice l52.1 l52.2.1 l52.2.2] tOp (0, 0)) fun n57 => .back (.eff (.load (a.add 3) .sl fun l58 => .back (.eff
              (.run (builtin .append #[tOps, tOps] tOps #[false, false] #[.slice l58.1 l58.2.1 l58.2.2, .slice (some ⟨n57, 0, none⟩) 1 1]) (.one (.leaf .sl)) fun l =>
                .back (.idx q (zs.length : Int) m 4 (fun a => .eff (.store (a.add 3) (.slice l.1 l.2.1 l.2.2) (.back (.undrawn K)))))))))))
            .triv)))) .pl w := by
  have hd := (Ch.refl No w).drew
  have nd := hn.ch hd (fun h => h)
  have bd := hb.no hd
  have kd := hk.no hd
  have hds := hd.size
  obtain ⟨g, hq, hm, hg, hc⟩ := hb.last
  have hc3 : w.drew.cell? ⟨g, zs.length * 4 + 3, none⟩ = some (.slice z.p z.n z.c) := hd.cellv (hc 3 _ rfl) (fun h => h)
  refine hd_i (fun w' => Blk w' n (opTuple o p kn kc) tOp) nd ?_
  subst hq
  refine ix_i (by omega) (by show (zs.length : Int) < (m : Int); omega) ?_
  rw [addr_add, addr_add, Int.toNat_natCast, Nat.zero_add]
  refine lh_int (x := o.kind) (fun w' h => h.cell 0) (lh_int (x := o.a) (fun w' h => h.cell 1) (lh_int (x := o.b) (fun w' h => h.cell 2) (lh_sl (p := p) (n := kn) (c := kc) (fun w' h => h.cell 3) ⟨?_, ?_, trivial⟩)))
  · refine eff_i (ld_sl hc3 (bk nd (eff_i (nw fun w1 h1 z1 b1 => bk (nd.ch h1 (fun h => h)) (eff_i ?_)))))
    exact putz_tail (bd.no h1) (by have := h1.size; omega) rfl hl (kd.no h1) (nd.ch h1 (fun h => h)) hnr b1 (hd.trans h1) hB h
  · refine eff_i (nw fun w1 h1 z1 b1 => bk (nd.ch h1 (fun h => h)) (eff_i (ld_sl (h1.cellv hc3 (fun h => h)) (bk (nd.ch h1 (fun h => h)) (eff_i ?_)))))
    exact putz_tail (bd.no h1) (by have := h1.size; omega) rfl hl (kd.no h1) (nd.ch h1 (fun h => h)) hnr b1 (hd.trans h1) hB h
end
def blkV (k no at_ : Int) : Value := .agg #[.int .i64 k, .int .i64 no, .int .i64 at_, .slice none 0 0]
theorem retb {R : Ending → World → Prop} {Q : Exit → List (Tmp × Value) → World → Prop} {w : World} {n2 : Nat} {t2 : TypeId} {k a b : Int} {v u : Value} {y0 y1 y2 y3 : Value} (b2 : Blk w n2 [y0, y1, y2, y3] t2) (h : ∀ w', Ch (· = n2) w w' → R (.returned (.tuple #[blkV k a b, v, u])) w') :
    wpT Tryz.prog R Q (.store ⟨n2, 0, none⟩ (.int .i64 k) (.store ⟨n2, 1, none⟩ (.int .i64 a) (.store ⟨n2, 2, none⟩ (.int .i64 b) (.store ⟨n2, 3, none⟩ (.slice none 0 0)
      (.load ⟨n2, 0, none⟩ (.int .i64) fun x => .load ⟨n2, 1, none⟩ (.int .i64) fun y => .load ⟨n2, 2, none⟩ (.int .i64) fun z => .load ⟨n2, 3, none⟩ .sl fun l =>
      .done (.returned (.tuple #[.agg #[.int .i64 x, .int .i64 y, .int .i64 z, .slice l.1 l.2.1 l.2.2], v, u]))))))) .pl w :=
  st4 b2 rfl rfl rfl rfl fun w' h' e' => ret5 (k := k) (a := a) (b := b) (p := none) (n := 0) (c := 0) e' (h w' h')
/-- repeat: the block, or where it fails. -/
def begM (L : Nat) (no at_ : Nat) (r : List UInt8) : PRes BlkM := match numM false (wordS r) with
  | none => .error (L - (skipS r).length, 62)
  | some n => if n < 1 ∨ 2000 < n then .error (L - (skipS r).length, 62)
    else match endM L (afterS r) with
      | .error e => .error e
      | .ok _ => .ok ⟨[], n.toNat, no, at_⟩
theorem rbeg_any (s : ByteArray) (p : Option Addr) (n c i : Nat) (hi : i ≤ 100000) (w : World) (A : AtW w p n (wordsR s.size s.data.toList)) :
    Calls Tryz.prog 26 #[lineV s p n c, .int .i64 i] w fun e w' => Ch No w w' ∧ match begM s.size (i + 1) (s.size - (skipS s.data.toList).length) (aft 1 s.data.toList) with
      | .ok x => e = .returned (.tuple #[blkV x.times x.no x.place, .int .i64 0, .int .i64 0])
      | .error (pl, cd) => e = .returned (.tuple #[blkV 0 0 0, .int .i64 pl, .int .i64 cd]) ∧ cd ≠ 0 := by
  unfold lineV begM
  refine calls_of_fnT mixed Tryz.func26 (s := s26) ?_
  rw [t26]
  have e2 : aft 2 s.data.toList = afterS (aft 1 s.data.toList) := aft_succ 1 _
  have hlt := words_lt s.size 2 s.data.toList
  have hwn := A.1
  refine nw fun w1 h1 z1 b1 => nw fun w2 h2 z2 b2 => ?_
  have H2 := h1.trans h2
  replace b1 := b1.ch h2 (fun h => h)
  have h12 : w.heap.size ≠ w1.heap.size := by omega
  have hfin : ∀ {w3 w4 : World}, Ch No w2 w3 → Ch (· = w1.heap.size) w3 w4 → Ch No w w4 := fun a b => (H2.trans a).then_ b (fun i hi (e : i = _) => by omega)
  refine ld_str (b1.cell 0) (ld_sl (b1.cell 1) (cl_i (rword_any s p n c 1 w2 (A.no H2)) ?_))
  rintro e w3 ⟨rfl, h3⟩
  refine ⟨_, rfl, ?_⟩
  refine cl_i (rnumber_any _ false w3) ?_
  rintro e w4 ⟨rfl, rfl⟩
  refine ⟨(_, _, ()), rfl, ?_⟩
  rw [tb_data]
  have hn := @numM_le false (wordS (aft 1 s.data.toList))
  replace b1 := b1.ch h3 (fun h => h)
  replace b2 := b2.ch h3 (fun h => h)
  have A3 := (A.no H2).no h3
  refine cut_i mixed s26_7 (fun (v : Bool × Unit) w' => w' = w4 ∧ v.1 = match numM false (wordS (aft 1 s.data.toList)) with | none => true | some n => decide (n < 1 ∨ 2000 < n)) (by kernel_rfl) (fun g => ?_) ?_
  · rw [t26_7]
    cases hq : numM false (wordS (aft 1 s.data.toList)) with
    | none => exact br_true rfl ⟨rfl, (true, ()), rfl, rfl, rfl⟩
    | some n =>
      refine br_false rfl (br_both (fun e => ⟨rfl, (true, ()), rfl, rfl, ?_⟩) fun e => ⟨rfl, (_, ()), rfl, rfl, ?_⟩)
      · have e : n < 1 := lt_t e
        exact (decide_eq_true (.inl e)).symm
      · have e : 1 ≤ n := lt_f e
        exact decide_eq_decide.2 ⟨fun h => .inr h, fun h => h.resolve_left (by omega)⟩
  rintro ⟨u, ⟨⟩⟩ g w5 ⟨rfl, hu⟩
  dsimp only at hu
  subst hu
  refine br_both (fun e => ?_) fun e => ?_
  · refine ld_str (b1.cell 0) (ld_sl (b1.cell 1) (cl_i (rat_any s p n c 1 w5 A3) ?_))
    rintro e' w6 ⟨rfl, h6⟩
    refine ⟨_, rfl, retb (b2.ch h6 (fun h => h)) fun w7 h7 => ⟨hfin (h3.trans h6) h7, ?_⟩⟩
    cases hq : numM false (wordS (aft 1 s.data.toList)) with
    | none => exact ⟨rfl, by decide⟩
    | some n =>
      rw [hq] at e
      have e := of_decide_eq_true e
      dsimp only
      rw [if_pos e]
      exact ⟨rfl, by decide⟩
  cases hq : numM false (wordS (aft 1 s.data.toList)) with
  | none => rw [hq] at e; cases e
  | some x =>
    rw [hq] at e
    have e := of_decide_eq_false e
    dsimp only
    rw [if_neg e, ← e2]
    unfold endM
    refine ld_sl (b1.cell 1) (br_both (fun e => ?_) fun e => ?_)
    · have e : (2 : Int) < (n : Int) := gt_t e
      rw [if_neg (fun h => hlt.1 (by omega) (word_nil.1 h))]
      refine ld_str (b1.cell 0) (ld_sl (b1.cell 1) (cl_i (rat_any s p n c 2 w5 A3) ?_))
      rintro e' w6 ⟨rfl, h6⟩
      exact ⟨_, rfl, retb (b2.ch h6 (fun h => h)) fun w7 h7 => ⟨hfin (h3.trans h6) h7, rfl, by decide⟩⟩
    · have e : (n : Int) ≤ (2 : Int) := gt_f e
      rw [if_pos (word_nil.2 (Decidable.byContradiction fun h => by have := hlt.2 h; omega))]
      refine ld_str (b1.cell 0) (ld_sl (b1.cell 1) (cl_i (rat_any s p n c 0 w5 A3) ?_))
      rintro e' w6 ⟨rfl, h6⟩
      have hw : IntKind.i64.wrap ((i : Int) + 1) = ((i + 1 : Nat) : Int) := by rw [wrap_succ (by omega) (by omega)]; rfl
      have hx : x = ((x.toNat : Nat) : Int) := by omega
      refine ⟨_, rfl, retb (b2.ch h6 (fun h => h)) fun w7 h7 => ⟨hfin (h3.trans h6) h7, ?_⟩⟩
      rw [hw]
      dsimp only
      rw [← hx]
      rfl
end Go.Proofs.YtjlmkahagcojcaaGreatDoor
