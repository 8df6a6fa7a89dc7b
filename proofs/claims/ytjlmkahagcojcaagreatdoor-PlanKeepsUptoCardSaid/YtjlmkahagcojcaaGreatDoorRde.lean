/- A step is put behind a block's steps. -/
import Derived.Test.YtjlmkahagcojcaaGreatDoorRdr
namespace Go.Proofs.YtjlmkahagcojcaaGreatDoor
open Go Tr
set_option maxRecDepth 100000
def opTuple (o : OpM) (p : Option Addr) (m c : Nat) : List Value := opCells o.kind o.a o.b p m c
theorem opTuple_one (o : OpM) (p : Option Addr) (m c : Nat) : ∀ u ∈ opTuple o p m c, u.oneCell' = true := fun u hu => by
  simp only [opTuple, opCells, List.mem_cons, List.not_mem_nil, or_false] at hu
  rcases hu with rfl | rfl | rfl | rfl <;> rfl
section
variable {R : Ending → World → Prop} {Q : Exit → List (Tmp × Value) → World → Prop} {w w0 : World}
/-- Where a step has been put. -/
structure Put (w : World) (e : Ent) (x : BlkM) (o : OpM) (w' : World) (q : Option Addr) (c : Nat) : Prop where
  ch : Ch (entS e) w w'
  blk : Blk w' e.id (entBlk { e with p := q, n := e.n + 1, c := c } x) tBlk
  ops : OpsRow w' q (e.n + 1) c (x.ops ++ [o])
  lies : ∀ k, rowS q (e.n + 1) c k → rowS e.p e.n e.c k ∨ w.heap.size ≤ k
theorem put_tail {e : Ent} {x : BlkM} {o : OpM} {n b1 : Nat} {p : Option Addr} {m c : Nat} {K : T} (hb : Blk w e.id (entBlk e x) tBlk) (ho : OpsRow w e.p e.n e.c x.ops) (hk : Row w 0 tInt 1 p m c (intCells o.keep)) (hl : x.ops.length ≤ 2100)
    (hn : Blk w n (opTuple o p m c) tOp) (hnr : ¬ rowS e.p e.n e.c n) (b1b : Blk w b1 (opTuple o p m c) tOp) (h01 : Ch No w0 w)
    (h : ∀ w' q c', Put w0 e x o w' q c' → wpT Tryz.prog R Q K .pl w') :
    wpT Tryz.prog R Q (.run (builtin .append #[tOps, tOps] tOps #[false, false] #[.slice e.p e.n e.c, .slice (some ⟨b1, 0, none⟩) 1 1]) (.one (.leaf .sl)) fun l =>
      .back (.ptr (some ⟨e.id, 0, none⟩) (fun a => .eff (.store a (.slice l.1 l.2.1 l.2.2) (.back (.undrawn K)))) .stuck)) (.ef (fun w' => Blk w' n (opTuple o p m c) tOp)) w := by
  have hlen := ho.len
  obtain ⟨cs, hr, hoc⟩ := ho
  refine ap_blk (by kernel_rfl) infoOp rfl (by omega) hr (Nat.zero_le _) b1b (by simp [opTuple, opCells]) (opTuple_one o p m c) (by unfold maxLen; omega) (by omega) fun q' d' w1 g1 => ?_
  have n1 := hn.ch g1.ch hnr
  have hb1 := g1.blk hr hb (by decide)
  refine bk n1 (pt_i (eff_i (st_blk hb1 (by simp [entBlk]) rfl fun w2 h2 z2 b2 => bk (n1.ch h2 (fun en => ?_)) (un_h (h w2 q' d' ⟨?_, b2, ?_, ?_⟩)))))
  · have h1 := hn
    rw [en] at h1
    unfold Blk at h1 hb
    rw [h1] at hb
    simp [tOp, tBlk] at hb
  · exact h01.no.trans ((g1.ch.mono fun k hk => .inr hk).trans (h2.mono fun k hk => .inl hk))
  · have hoc' : OpsC w1 (cs ++ opTuple o p m c) (x.ops ++ [o]) := by
      have h1 := hoc.ch g1.ch (noTy_row hr (by decide))
      have h2 : OpsC w1 (opCells o.kind o.a o.b p m c ++ []) [o] := .cons o p m c [] [] (hk.ch g1.ch (hk.noTy (noTy_row hr (by decide)))) .nil
      rw [List.append_nil] at h2
      exact h1.app h2
    exact ⟨_, g1.own.ch h2 (fun k hk e => by subst e; exact g1.own.ne hb1 (by decide) hk), hoc'.ch h2 (noTy_blk hb1 (by decide))⟩
  · intro k hk
    have := h01.size
    exact (g1.lies k hk).imp id (fun h => by omega)
theorem put_op {e : Ent} {x : BlkM} {o : OpM} {n : Nat} {p : Option Addr} {m c : Nat} {K : T} (hb : Blk w e.id (entBlk e x) tBlk) (ho : OpsRow w e.p e.n e.c x.ops) (hk : Row w 0 tInt 1 p m c (intCells o.keep)) (hl : x.ops.length ≤ 2100)
    (hn : Blk w n (opTuple o p m c) tOp) (hnr : ¬ rowS e.p e.n e.c n)
    (h : ∀ w' q c', Put w e x o w' q c' → wpT Tryz.prog R Q K .pl w') :
    wpT Tryz.prog R Q (.hdrawn (.ptr (some ⟨e.id, 0, none⟩) (fun a48 =>
      .load ⟨n, 0, none⟩ (.int .i64) fun x49 => .load ⟨n, 1, none⟩ (.int .i64) fun x50 => .load ⟨n, 2, none⟩ (.int .i64) fun x51 => .load ⟨n, 3, none⟩ .sl fun l52 =>
        .both
          (.eff (.load a48 .sl fun l53 => .back (.eff (.new (.cells #[.int .i64 x49, .int .i64 x50, .int .i64 x51, .slice l52.1 l52.2.1 l52.2.2] tOp (0, 0)) fun n54 => .back (.eff
            (.run (builtin .append #[tOps, tOps] tOps #[false, false] #[.slice l53.1 l53.2.1 l53.2.2, .slice (some ⟨n54, 0, none⟩) 1 1]) (.one (.leaf .sl)) fun l =>
              .back (.ptr (some ⟨e.id, 0, none⟩) (fun a => .eff (.store a (.slice l.1 l.2.1 l.2.2) (.back (.undrawn K)))) .stuck)))))))
          (.both
            (.eff (.new (.cells #[.int .i64 x49, .int .i64 x50, .int .i64 x51, .slice l52.1 l52.2.1 l52.2.2] tOp (0, 0)) fun n57 => .back (.eff (.load a48 .sl fun l58 => .back (.eff
              (.run (builtin .append #[tOps, tOps] tOps #[false, false] #[.slice l58.1 l58.2.1 l58.2.2, .slice (some ⟨n57, 0, none⟩) 1 1]) (.one (.leaf .sl)) fun l =>
                .back (.ptr (some ⟨e.id, 0, none⟩) (fun a => .eff (.store a (.slice l.1 l.2.1 l.2.2) (.back (.undrawn K)))) .stuck)))))))
            .triv)) .stuck)) .pl w := by
  have hd := (Ch.refl No w).drew
  have nd := hn.ch hd (fun h => h)
  have bd := hb.ch hd (fun h => h)
  have od := ho.ch hd (fun _ _ h => h) (noTy_no _ _)
  have kd := hk.no hd
  refine hd_i (fun w' => Blk w' n (opTuple o p m c) tOp) nd (pt_i ?_)
  refine lh_int (x := o.kind) (fun w' h => h.cell 0) (lh_int (x := o.a) (fun w' h => h.cell 1) (lh_int (x := o.b) (fun w' h => h.cell 2) (lh_sl (p := p) (n := m) (c := c) (fun w' h => h.cell 3) ⟨?_, ?_, trivial⟩)))
  · refine eff_i (ld_sl (bd.cell 0) (bk nd (eff_i (nw fun w1 h1 z1 b1 => bk (nd.ch h1 (fun h => h)) (eff_i ?_)))))
    exact put_tail (bd.ch h1 (fun h => h)) (od.ch h1 (fun _ _ h => h) (noTy_no _ _)) (kd.no h1) hl (nd.ch h1 (fun h => h)) hnr b1 (hd.trans h1) h
  · refine eff_i (nw fun w1 h1 z1 b1 => bk (nd.ch h1 (fun h => h)) (eff_i (ld_sl ((bd.ch h1 (fun h => h)).cell 0) (bk (nd.ch h1 (fun h => h)) (eff_i ?_)))))
    exact put_tail (bd.ch h1 (fun h => h)) (od.ch h1 (fun _ _ h => h) (noTy_no _ _)) (kd.no h1) hl (nd.ch h1 (fun h => h)) hnr b1 (hd.trans h1) h
end
end Go.Proofs.YtjlmkahagcojcaaGreatDoor
