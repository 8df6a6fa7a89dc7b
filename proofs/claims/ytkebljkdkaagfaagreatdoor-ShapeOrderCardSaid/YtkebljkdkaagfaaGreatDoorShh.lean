/- order: the tasks' order, their depths. -/
import Derived.Test.YtkebljkdkaagfaaGreatDoorShg
namespace Go.Proofs.YtkebljkdkaagfaaGreatDoor.S
open Go Tr
set_option maxRecDepth 100000
set_option maxHeartbeats 8000000
/-! ### Depths, plainly -/
/-- n numbers between 0 and B. -/
def Bnd (n : Nat) (B : Int) (l : List Int) : Prop := l.length = n ∧ ∀ (k : Nat) (v : Int), l[k]? = some v → 0 ≤ v ∧ v ≤ B
theorem Bnd.more {n : Nat} {B B' : Int} {l : List Int} (h : Bnd n B l) (hB : B ≤ B') : Bnd n B' l := ⟨h.1, fun k v hv => by have := h.2 k v hv; omega⟩
theorem Bnd.zero (n : Nat) : Bnd n 0 (List.replicate n 0) := ⟨by simp, fun k v hv => by
  rw [List.getElem?_replicate] at hv
  split at hv
  · cases hv; omega
  · cases hv⟩
theorem Bnd.set {n : Nat} {B : Int} {l : List Int} (h : Bnd n B l) (k : Nat) {v : Int} (h0 : 0 ≤ v) (h1 : v ≤ B) : Bnd n B (l.set k v) := ⟨by rw [List.length_set]; exact h.1, fun j u hu => by
  by_cases e : k = j
  · subst e
    by_cases hk : k < l.length
    · rw [List.getElem?_set_self hk] at hu
      cases hu
      exact ⟨h0, h1⟩
    · rw [List.getElem?_eq_none (by rw [List.length_set]; omega)] at hu
      cases hu
  · rw [List.getElem?_set_ne e] at hu
    exact h.2 j u hu⟩
theorem Bnd.at_ {n : Nat} {B : Int} {l : List Int} (h : Bnd n B l) {k : Nat} (hk : k < n) : l[k]? = some (l.getD k 0) ∧ 0 ≤ l.getD k 0 ∧ l.getD k 0 ≤ B := by
  have hl : k < l.length := by rw [h.1]; exact hk
  have e : l[k]? = some (l.getD k 0) := by rw [List.getD_eq_getElem?_getD, List.getElem?_eq_getElem hl]; rfl
  exact ⟨e, h.2 k _ e⟩
theorem Bnd.edge {n : Nat} {B : Int} {p : PM} {l : List Int} (h : Bnd n B l) (hB : 0 ≤ B) (t i : Nat) (ht : t < n) (hf : ∀ e, p.edges[i]? = some e → e.frm.toNat < n) : Bnd n (B + 1) (depthEdge p t l i) := by
  unfold depthEdge
  cases he : p.edges[i]? with
  | none => exact h.more (by omega)
  | some e =>
    dsimp only
    split
    · exact h.more (by omega)
    · have h1 := (h.at_ ht).2
      have h2 := (h.at_ (hf e he)).2
      refine (h.more (by omega)).set t ?_ ?_ <;> omega
theorem IRow.new {w : World} {base : Nat} {q : Option Addr} {n c : Nat} {l : List Int} (h : IRow w base q n c l) {ad : Addr} (hq : q = some ad) : base ≤ ad.block := by
  rcases h.2 with ⟨h', _⟩ | ⟨g, cap, cur, h', hb, _⟩
  · simp only [Value.slice.injEq] at h'
    rw [hq] at h'
    cases h'.1
  · simp only [Value.slice.injEq] at h'
    rw [hq] at h'
    obtain ⟨h1, -⟩ := h'
    cases h1
    exact hb
theorem order_any (w : World) (p : PM) (tp ep : Option Addr) (tc ec : Nat) (ns bd : Nat) (cs : List Value) (ip bp : Option Addr) (ic bc : Nat) (hb : Blk w ns cs tShape) (hl : cs.length = 8) (h0 : cs[0]? = some (.slice ip p.tasks.length ic)) (h2 : cs[2]? = some (.slice bp p.edges.length bc))
    (h3 : cs[3]? = some (.slice none 0 0)) (h7 : cs[7]? = some (.slice (some ⟨bd, 0, none⟩) p.tasks.length p.tasks.length)) (hd : Blk w bd ((List.replicate p.tasks.length (0 : Int)).map intC) tInt)
    (rq : Nat → Option Addr × Nat) (hR : ∀ W', Ch (fun k => k = ns ∨ k = bd) w W' → Rd W' tp ep p ip bp rq) (hg : Good p) (hn : p.tasks.length ≤ 12) (hen : p.edges.length ≤ 24) :
    Calls Tryz.prog 39 #[planV p tp tc ep ec, .pointer (some ⟨ns, 0, none⟩)] w fun r w' => r = .returned (.tuple #[]) ∧ Ch (fun k => k = ns ∨ k = bd) w w' ∧ ∃ q c, Blk w' ns (cs.set 3 (.slice q p.tasks.length c)) tShape ∧ AtI w' q (natI (ordM p)) ∧ Blk w' bd ((depthM p).map intC) tInt ∧ ∀ ad, q = some ad → w.heap.size ≤ ad.block := by
  refine calls_of_fnT mixed Tryz.func39 (s := s39) ?_
  rw [t39]
  simp only [addr_add, Nat.zero_add]
  have hnd : ns ≠ bd := fun e => by
    subst e
    unfold Blk at hb hd
    rw [hb] at hd
    simp only [Option.some.injEq, Obj.cells.injEq] at hd
    exact absurd hd.2.1 (by decide)
  refine nw (cs := planC p tp tc ep ec) fun w1 c1 s1 b1 => ld_sl (b1.cell 1) ?_
  refine mks_i (n := p.tasks.length) (by kernel_rfl) infoBool rfl (by omega) (by omega) fun w2 c2 s2 bq => ?_
  have c02 := c1.trans c2
  have z1 := c1.size
  have z02 := c02.size
  have hb2 := hb.ch c02 (fun h => h)
  have hd2 := hd.ch c02 (fun h => h)
  have b12 := b1.ch c2 (fun h => h)
  have hnsl := hb.lt
  have hbdl := hd.lt
  generalize hn1 : w.heap.size = n1 at *
  generalize hpb : w1.heap.size = pb at *
  generalize hG : grOf p false = G at *
  have hGr := hg.gr false
  rw [hG] at hGr
  have hN : NoCyc G p.tasks.length := by rw [← hG]; exact hg.cycle
  generalize hnn : p.tasks.length = n at *
  have hlay := fun k hk => order_laid hGr hN (n := n) k hk
  have hset : ∀ (v : Value) (i : Nat), i ≠ 3 → (cs.set 3 v)[i]? = cs[i]? := fun v i hi => List.getElem?_set_ne (fun e => hi e.symm)
  have hset3 : ∀ (v : Value), (cs.set 3 v)[3]? = some v := fun v => List.getElem?_set_self (by omega)
  have hcs0 : cs.set 3 (.slice none 0 0) = cs := by
    apply List.ext_getElem?
    intro i
    by_cases e : i = 3
    · subst e; rw [hset3, h3]
    · rw [hset _ _ e]
  have toW : ∀ {W : World}, Ch (fun k => k = ns ∨ k = pb) w2 W → Ch (fun k => k = ns ∨ k = bd) w W := fun h => (c02.no (S := fun k => k = ns ∨ k = bd)).then_ h (fun i hi hk => by rcases hk with hk | hk; exact .inl hk; omega)
  -- the tasks are placed one by one
  refine loop_i mixed m39_4 s39_4 (by kernel_rfl) (by kernel_rfl) (fun _ W => ∃ k q c, k ≤ n ∧ Ch (fun k => k = ns ∨ k = pb) w2 W ∧ Blk W ns (cs.set 3 (.slice q k c)) tShape ∧ Blk W pb (plL n (orderM G n k)) tBool ∧ IRow W w2.heap.size q k c (natI (orderM G n k)))
    (fun _ W => match W.cell? ⟨ns, 3, none⟩ with | some (.slice _ k _) => n - k | _ => 0) () rfl ⟨0, none, 0, Nat.zero_le _, Ch.refl _ _, by rw [hcs0]; exact hb2, ?_, Row.nil _ _ _ _⟩ ?_
  · have : plL n (orderM G n 0) = List.replicate n (.bool false) := by
      apply List.ext_getElem?
      intro i
      rcases Nat.lt_or_ge i n with hi | hi
      · rw [plL_at _ hi, List.getElem?_replicate, if_pos hi]; rfl
      · rw [List.getElem?_eq_none (by simpa using hi), List.getElem?_eq_none (by simpa using hi)]
    rw [this]
    exact bq
  · rintro ⟨⟩ g W ⟨k, q, c, hk, cW, bs, bpl, row⟩
    rw [t39_4]
    have b1W := b12.ch cW (fun hh => by rcases hh with hh | hh <;> omega)
    have hmu : (match W.cell? ⟨ns, 3, none⟩ with | some (.slice _ k _) => n - k | _ => 0) = n - k := by rw [bs.cell, hset3]
    rw [hmu]
    obtain ⟨hlaid, hlen⟩ := hlay k hk
    have hRW := hR W (toW cW)
    refine cut_i mixed s39_5 (fun v W' => Ch No W W' ∧ v.1 = decide (k < n)) (by kernel_rfl) (fun g => ?_) ?_
    · rw [t39_5]
      simp only [addr_add, Nat.zero_add]
      refine dr_no (lc_sl ((bs.cell 3).trans (hset3 _)) (lc_sl (b1W.cell 1) (un_no fun w3 c3 => ⟨rfl, (_, ()), rfl, c3, ?_⟩)))
      rw [← hnn]
      show decide (((k : Nat) : Int) < ((p.tasks.length : Nat) : Int)) = decide (k < p.tasks.length)
      rw [decide_eq_decide]
      omega
    rintro ⟨bb, ⟨⟩⟩ g W3 ⟨c3, hbb⟩
    dsimp only at hbb ⊢
    subst hbb
    have bs3 := bs.ch c3 (fun h => h)
    have bpl3 := bpl.ch c3 (fun h => h)
    have row3 := Row.no row c3
    have b13 := b1W.ch c3 (fun h => h)
    have cW3 : Ch (fun k => k = ns ∨ k = pb) w2 W3 := cW.trans c3.no
    have hR3 := hRW.ch c3
    have hz3 := cW3.size
    refine br_both (fun e => ?_) fun e => ?_
    · have e : k < n := of_decide_eq_true e
      refine ld_sl (b13.cell 1) ?_
      refine loop_i mixed m39_10 s39_10 (by kernel_rfl) (by kernel_rfl) (fun v W4 => Ch No W3 W4 ∧ ∃ t : Nat, v.1 = (t : Nat) ∧ t ≤ n ∧ ∀ u, u < t → freeB G (orderM G n k) u = false) (fun v _ => n - v.1.toNat) (0, ()) rfl ⟨Ch.refl _ _, 0, rfl, Nat.zero_le _, fun u h => by omega⟩ ?_
      rintro ⟨_, ⟨⟩⟩ g W4 ⟨c4, t, rfl, ht, hno⟩
      rw [t39_10]
      simp only [addr_add, Nat.zero_add]
      have bs4 := bs3.ch c4 (fun h => h)
      have bpl4 := bpl3.ch c4 (fun h => h)
      have row4 := Row.no row3 c4
      have b14 := b13.ch c4 (fun h => h)
      have hR4 := hR3.ch c4
      rw [hnn]
      refine br_both (fun e2 => ?_) fun e2 => ?_
      · have e2 : ((t : Nat) : Int) < ((n : Nat) : Int) := lt_t e2
        have htn : t < n := by omega
        have hfr := free_is hg (orderM G n k) (t := t) (by omega)
        rw [hG] at hfr
        refine cut_i mixed s39_11 (fun v W5 => Ch No W4 W5 ∧ v.1 = !freeB G (orderM G n k) t) (by kernel_rfl) (fun g => ?_) ?_
        · rw [t39_11]
          refine ix_i (by omega) (by omega) ?_
          rw [Int.toNat_natCast, addr_add, Nat.zero_add, Nat.mul_one]
          refine ld_bool ((bpl4.cell t).trans (plL_at _ htn)) (br_both (fun e3 => ⟨rfl, (true, ()), rfl, Ch.refl _ _, by rw [hfr, e3]; rfl⟩) fun e3 => ?_)
          refine ld_int (b14.cell 0) (ld_sl (b14.cell 1) (ld_sl (b14.cell 2) ?_))
          rw [← hnn] at h0 ⊢
          refine cl_i (free_any W4 p tp ep tc ec ns (cs.set 3 (.slice q k c)) ip bp _ ic bc _ (orderM G p.tasks.length k) t rq hR4 bs4 ((hset _ 0 (by omega)).trans h0) ((hset _ 2 (by omega)).trans h2) (fun u hu => ⟨⟨pb, 0, none⟩, rfl, ?_⟩) hg (by omega)) ?_
          · rw [addr_add, Nat.zero_add, bpl4.cell, hnn, plL_at _ (by omega)]
          rintro r W5 ⟨rfl, c5⟩
          refine ⟨_, rfl, rfl, (_, ()), rfl, c5, ?_⟩
          rw [hnn] at *
          rw [hfr, e3]
          rfl
        rintro ⟨bb, ⟨⟩⟩ g W5 ⟨c5, hbb⟩
        dsimp only at hbb ⊢
        subst hbb
        have c45 := c4.trans c5
        have bs5 := bs4.ch c5 (fun h => h)
        have bpl5 := bpl4.ch c5 (fun h => h)
        have row5 := Row.no row4 c5
        refine br_both (fun e3 => ?_) fun e3 => ?_
        · have e3 : freeB G (orderM G n k) t = false := by simpa using e3
          refine ⟨(((t : Nat) : Int) + 1, ()), by rw [wrap_succ (by omega) (by omega)]; rfl, ⟨c45, t + 1, rfl, by omega, fun u hu => ?_⟩, by show n - (((t : Nat) : Int) + 1).toNat < _; omega⟩
          by_cases eu : u = t
          · rw [eu]; exact e3
          · exact hno u (by omega)
        · have e3 : freeB G (orderM G n k) t = true := by simpa using e3
          have hnext : nextF G n (orderM G n k) = some t := firstM_some (bad := freeB G (orderM G n k)) htn e3 hno
          have hord : orderM G n (k + 1) = orderM G n k ++ [t] := by
            show (match nextF G n (orderM G n k) with | some t => orderM G n k ++ [t] | none => orderM G n k) = _
            rw [hnext]
          refine ix_i (by omega) (by omega) ?_
          rw [Int.toNat_natCast, addr_add, Nat.zero_add, Nat.mul_one]
          refine st_blk bpl5 (by simpa using htn) rfl fun W6 c6 s6 bpl6 => ?_
          rw [plL_set _ htn, ← hord] at bpl6
          have hne : ns ≠ pb := by omega
          have bs6 := bs5.ch c6 (fun h : ns = pb => hne h)
          have row6 := Row.ch row5 c6 (fun i hi (h : i = pb) => by have := (Row.lt row5 hi).1; have := bq.lt; omega)
          have c36 : Ch (fun k => k = ns ∨ k = pb) w2 W6 := cW3.trans (c45.no.trans (c6.mono fun k h => .inr h))
          have hz6 := c36.size
          refine ld_sl ((bs6.cell 3).trans (hset3 _)) (ap_int row6 (by omega) ((t : Nat) : Int) (by omega) fun k' q' c' W7 g7 => ?_)
          have bs7 := bs6.ch g7.ch (fun hr => by have := (Row.lt row6 hr).1; omega)
          have bpl7 := bpl6.ch g7.ch (fun hr => by have := (Row.lt row6 hr).1; have := bq.lt; omega)
          have c37 : Ch (fun k => k = ns ∨ k = pb) w2 W7 := c36.then_ g7.ch (fun i hi hr => by have := (Row.lt row6 hr).1; omega)
          refine st_blk bs7 (by rw [List.length_set]; omega) rfl fun W8 c8 s8 bs8 => ?_
          rw [List.set_set] at bs8
          have own8 : IRow W8 w2.heap.size q' (k + 1) c' (natI (orderM G n (k + 1))) := by
            have : natI (orderM G n (k + 1)) = natI (orderM G n k) ++ [((t : Nat) : Int)] := by rw [hord]; unfold natI; rw [List.map_append]; rfl
            rw [this]
            exact Row.ch g7.own c8 (fun i hi (h : i = ns) => by have := (Row.lt g7.own hi).1; omega)
          refine ⟨rfl, (), rfl, fun g => ⟨(), rfl, ⟨k + 1, q', c', e, c37.trans (c8.mono fun k h => .inl h), bs8, bpl7.ch c8 (fun h : pb = ns => hne h.symm), own8⟩, ?_⟩⟩
          rw [bs8.cell, hset3]
          show n - (k + 1) < n - k
          omega
      · have e2 : ((n : Nat) : Int) ≤ ((t : Nat) : Int) := lt_f e2
        obtain rfl : t = n := by omega
        obtain ⟨u, hu, hun, huf⟩ := nextF_some hGr hN (o := orderM G t k) (by omega)
        rw [hno u hun] at huf
        cases huf
    · have e : ¬ k < n := of_decide_eq_false e
      obtain rfl : k = n := by omega
      have bd3 := hd2.ch cW3 (fun hh => by rcases hh with hh | hh <;> omega)
      refine ⟨rfl, (), rfl, fun g => ?_⟩
      have horder : orderM G k k = ordM p := by unfold ordM; rw [hG, hnn]
      rw [horder] at row3 hlen
      have hat := IRow.atI row3
      refine ld_sl ((bs3.cell 3).trans (hset3 _)) ?_
      have hc3' : Ch (fun k => k = ns ∨ k = bd) w W3 := toW cW3
      -- the depths, task by task
      have tot : ∀ {W : World}, Ch (fun k => k = bd) W3 W → Ch (fun k => k = ns ∨ k = bd) w W := fun h => hc3'.trans (h.mono fun k h => .inr h)
      refine loop_i mixed m39_27 s39_27 (by kernel_rfl) (by kernel_rfl) (fun v W => ∃ j : Nat, v.1 = (j : Nat) ∧ j ≤ k ∧ Ch (fun k => k = bd) W3 W ∧ Blk W bd ((((ordM p).take j).foldl (depthStep p) (List.replicate k 0)).map intC) tInt ∧ Bnd k ((j : Int) * 100) (((ordM p).take j).foldl (depthStep p) (List.replicate k 0))) (fun v _ => k - v.1.toNat) (0, ()) rfl
        ⟨0, rfl, Nat.zero_le _, Ch.refl _ _, bd3, by simpa using Bnd.zero k⟩ ?_
      rintro ⟨_, ⟨⟩⟩ g W ⟨j, rfl, hj, cj, bj, hbj⟩
      rw [t39_27]
      dsimp only
      generalize hdj : ((ordM p).take j).foldl (depthStep p) (List.replicate k 0) = dj at *
      have rowj := Row.ch row3 cj (fun i hi (h : i = bd) => by have := (Row.lt row3 hi).1; omega)
      refine br_both (fun e2 => ?_) fun e2 => ?_
      · have e2 := lt_t e2
        obtain ⟨t, ht⟩ := some_at (l := ordM p) (i := j) (by omega)
        have htn : t < k := by
          have := (hlay k (Nat.le_refl _)).1.low t (by rw [horder]; exact List.mem_of_getElem? ht)
          exact this
        obtain ⟨qa, rfl, hqc⟩ := IRow.atI rowj j _ (natI_at ht)
        have hRj := hR W (tot cj)
        obtain ⟨ia, rfl, hic, hia⟩ := hRj.ins t (by omega)
        refine ix_i (by omega) (by omega) ?_
        rw [Int.toNat_natCast, Nat.mul_one]
        have bsj := bs3.ch cj (fun h : ns = bd => hnd h)
        refine ld_int hqc (ld_sl ((bsj.cell 0).trans ((hset _ 0 (by omega)).trans h0)) (ix_i (by omega) (by show ((t : Nat) : Int) < ((k : Nat) : Int); omega) ?_))
        rw [Int.toNat_natCast, Nat.mul_one]
        refine ld_sl hic ?_
        have hil := insM_len p t
        refine loop_i mixed m39_33 s39_33 (by kernel_rfl) (by kernel_rfl) (fun v W5 => ∃ x : Nat, v.1 = (x : Nat) ∧ x ≤ (insM p t).length ∧ Ch (fun k => k = bd) W3 W5 ∧ Blk W5 bd ((((insM p t).take x).foldl (depthEdge p t) dj).map intC) tInt ∧ Bnd k ((j : Int) * 100 + x) (((insM p t).take x).foldl (depthEdge p t) dj)) (fun v _ => (insM p t).length - v.1.toNat) (0, ()) rfl
          ⟨0, rfl, Nat.zero_le _, cj, bj, hbj.more (by omega)⟩ ?_
        rintro ⟨_, ⟨⟩⟩ g W5 ⟨x, rfl, hx, c5, b5, hb5⟩
        rw [t39_33]
        simp only [addr_add, Nat.zero_add]
        generalize hdx : ((insM p t).take x).foldl (depthEdge p t) dj = dx at *
        refine br_both (fun e3 => ?_) fun e3 => ?_
        · have e3 := lt_t e3
          obtain ⟨i, hi⟩ := some_at (l := insM p t) (i := x) (by omega)
          obtain ⟨ed, hed, hto⟩ := ins_mem hg (by omega) (List.mem_of_getElem? hi)
          have hil2 := (List.getElem?_eq_some_iff.1 hed).1
          obtain ⟨⟨f0, f1⟩, -⟩ := hg.edges ed (List.mem_of_getElem? hed)
          have hfn : ed.frm.toNat < k := by omega
          have hR5 := hR W5 (tot c5)
          obtain ⟨-, -, -, hia'⟩ := hR5.ins t (by omega)
          obtain ⟨qb, hqb, hqbc⟩ := hia' x _ (natI_at hi)
          have hstep : ((insM p t).take (x + 1)).foldl (depthEdge p t) dj = depthEdge p t dx i := by rw [List.take_add_one, hi, List.foldl_append, hdx]; rfl
          have hbx : Bnd k ((j : Int) * 100 + x + 1) (depthEdge p t dx i) := hb5.edge (by omega) t i htn (fun e he => by rw [hed] at he; cases he; exact hfn)
          have goOn : ∀ W6, Ch (fun k => k = bd) W3 W6 → Blk W6 bd ((depthEdge p t dx i).map intC) tInt → ∃ v : MVars m39_33, [((72 : Tmp), Value.int .i64 (IntKind.i64.wrap (((x : Nat) : Int) + 1)))] = mvals m39_33 v ∧ ((∃ x : Nat, v.1 = (x : Nat) ∧ x ≤ (insM p t).length ∧ Ch (fun k => k = bd) W3 W6 ∧ Blk W6 bd ((((insM p t).take x).foldl (depthEdge p t) dj).map intC) tInt ∧ Bnd k ((j : Int) * 100 + x) (((insM p t).take x).foldl (depthEdge p t) dj)) ∧ (insM p t).length - v.1.toNat < (insM p t).length - ((x : Nat) : Int).toNat) := fun W6 c6 b6 =>
            ⟨(((x : Nat) : Int) + 1, ()), by rw [wrap_succ (by omega) (by omega)]; rfl, ⟨x + 1, rfl, by omega, c6, by rw [hstep]; exact b6, by rw [hstep]; exact hbx.more (by omega)⟩, by show (insM p t).length - (((x : Nat) : Int) + 1).toNat < _; omega⟩
          rw [hqb]
          refine ix_i (by omega) (by omega) ?_
          rw [Int.toNat_natCast, Nat.mul_one]
          have bs5 := bs3.ch c5 (fun h : ns = bd => hnd h)
          have b15 := b13.ch c5 (fun h : n1 = bd => by omega)
          obtain ⟨ba, rfl, hbc⟩ := hR5.back i ed hed
          refine ld_int hqbc (ld_sl ((bs5.cell 2).trans ((hset _ 2 (by omega)).trans h2)) (ix_i (by omega) (by show ((i : Nat) : Int) < ((p.edges.length : Nat) : Int); omega) ?_))
          rw [Int.toNat_natCast, Nat.mul_one]
          have hde : depthEdge p t dx i = if loopsM p ed then dx else dx.set t (max (dx.getD t 0) (dx.getD ed.frm.toNat 0 + 1)) := by unfold depthEdge; rw [hed]
          refine ld_bool hbc (br_both (fun e4 => ?_) fun e4 => ?_)
          · have e4 : loopsM p ed = false := by simpa using e4
            rw [e4, if_neg (by decide)] at hde
            obtain ⟨at1, v10, v11⟩ := hb5.at_ htn
            obtain ⟨at2, v20, v21⟩ := hb5.at_ hfn
            have hmax : ∀ a b : Int, (if b + 1 > a then b + 1 else a) = max a (b + 1) := fun a b => by rw [Int.max_def]; split <;> split <;> omega
            have stable : ∀ W6, Ch (fun k => k = bd) W5 W6 → W6.cell? ⟨ns, 7, none⟩ = some (.slice (some ⟨bd, 0, none⟩) k k) ∧ W6.cell? ⟨n1, 2, none⟩ = some (.slice ep p.edges.length ec) := fun W6 h6 =>
              ⟨((bs5.ch h6 (fun h : ns = bd => hnd h)).cell 7).trans ((hset _ 7 (by omega)).trans h7), (b15.ch h6 (fun h : n1 = bd => by omega)).cell 2⟩
            have hread : ∀ W6, Ch (fun k => k = bd) W5 W6 → ∃ ea, ep = some ea ∧ W6.cell? (ea.add (i * 4)) = some (.int .i64 ed.frm) := fun W6 h6 => by
              obtain ⟨ea, h1, h2, -⟩ := (hR W6 (tot (c5.trans h6))).plan.edges i ed hed
              exact ⟨ea, h1, h2⟩
            obtain ⟨ea, rfl, -⟩ := hread W5 (Ch.refl _ _)
            refine hd_i (Ch (fun k => k = bd) W5) (Ch.refl _ _).drew ?_
            have fin : ∀ W6, Ch (fun k => k = bd) W5 W6 → Blk W6 bd ((dx.set t (max (dx.getD t 0) (dx.getD ed.frm.toNat 0 + 1))).map intC) tInt → _ := fun W6 c6 b6 => goOn W6 (c5.trans c6) (by rw [hde]; exact b6)
            have hbdx : Blk W5.drew bd (dx.map intC) tInt := b5
            refine lh_sl (fun W6 h6 => (stable W6 h6).1) (lh_sl (fun W6 h6 => (stable W6 h6).1) (ix_i (by omega) (by show ((t : Nat) : Int) < ((k : Nat) : Int); omega) ?_))
            refine lh_sl (fun W6 h6 => (stable W6 h6).1) (lh_sl (fun W6 h6 => (stable W6 h6).2) (ix_i (by omega) (by show ((i : Nat) : Int) < ((p.edges.length : Nat) : Int); omega) ?_))
            rw [Int.toNat_natCast, Int.toNat_natCast, addr_add, Nat.zero_add, Nat.mul_one]
            refine lh_int (fun W6 h6 => by obtain ⟨ea', e1, e2⟩ := hread W6 h6; cases e1; exact e2) (ix_i f0 (by show ed.frm < ((k : Nat) : Int); omega) ?_)
            rw [addr_add, Nat.zero_add, Nat.mul_one]
            have hl1 : ∀ {W6 : World}, Blk W6 bd (dx.map intC) tInt → W6.cell? ⟨bd, t, none⟩ = some (.int .i64 (dx.getD t 0)) := fun h => (h.cell t).trans (by rw [List.getElem?_map, at1]; rfl)
            have hl2 : ∀ {W6 : World}, Blk W6 bd (dx.map intC) tInt → W6.cell? ⟨bd, ed.frm.toNat, none⟩ = some (.int .i64 (dx.getD ed.frm.toNat 0)) := fun h => (h.cell _).trans (by rw [List.getElem?_map, at2]; rfl)
            have hw : IntKind.i64.wrap (dx.getD ed.frm.toNat 0 + 1) = dx.getD ed.frm.toNat 0 + 1 := wrap_in (by omega) (by omega)
            have c0 : Ch (fun k => k = bd) W5 W5.drew := (Ch.refl _ _).drew
            have last : ∀ (g : T), True := fun _ => trivial
            refine ⟨?_, ?_, trivial⟩
            · refine eff_i (ld_int (hl1 hbdx) (bk c0 (eff_i (ld_int (hl2 hbdx) (bk c0 (eff_i (bk c0 (ix_i (by omega) (by show ((t : Nat) : Int) < ((k : Nat) : Int); omega) (eff_i ?_)))))))))
              rw [Int.toNat_natCast, addr_add, Nat.zero_add, Nat.mul_one, hw, hmax]
              refine st_blk hbdx (by rw [List.length_map, hb5.1]; exact htn) rfl fun W6 c6 s6 b6 => bk (c0.trans c6) (un_h ?_)
              exact fin W6 (c0.trans c6) (by rw [List.map_set]; exact b6)
            · refine eff_i (ld_int (hl2 hbdx) (bk c0 (eff_i (ld_int (hl1 hbdx) (bk c0 (eff_i (bk c0 (ix_i (by omega) (by show ((t : Nat) : Int) < ((k : Nat) : Int); omega) (eff_i ?_)))))))))
              rw [Int.toNat_natCast, addr_add, Nat.zero_add, Nat.mul_one, hw, hmax]
              refine st_blk hbdx (by rw [List.length_map, hb5.1]; exact htn) rfl fun W6 c6 s6 b6 => bk (c0.trans c6) (un_h ?_)
              exact fin W6 (c0.trans c6) (by rw [List.map_set]; exact b6)
          · have e4 : loopsM p ed = true := by simpa using e4
            rw [e4, if_pos rfl] at hde
            exact goOn W5 c5 (by rw [hde]; exact b5)
        · have e3 := lt_f e3
          obtain rfl : x = (insM p t).length := by omega
          rw [List.take_length] at hdx
          refine ⟨rfl, (), rfl, fun g => ?_⟩
          have hstep : ((ordM p).take (j + 1)).foldl (depthStep p) (List.replicate k 0) = depthStep p dj t := by rw [List.take_add_one, ht, List.foldl_append, hdj]; rfl
          have hds : depthStep p dj t = dx := hdx
          exact ⟨(((j : Nat) : Int) + 1, ()), by rw [wrap_succ (by omega) (by omega)]; rfl, ⟨j + 1, rfl, by omega, c5, by rw [hstep, hds]; exact b5, by rw [hstep, hds]; exact hb5.more (by omega)⟩, by show k - (((j : Nat) : Int) + 1).toNat < _; omega⟩
      · have e2 := lt_f e2
        obtain rfl : j = k := by omega
        refine ⟨rfl, (), rfl, fun g => ⟨rfl, tot cj, q, c, bs3.ch cj (fun h : ns = bd => hnd h), IRow.atI rowj, ?_⟩⟩
        have : (ordM p).take j = ordM p := List.take_of_length_le (by omega)
        rw [this] at hdj
        unfold depthM
        rw [hnn, hdj]
        refine ⟨bj, fun ad had => ?_⟩
        have := IRow.new rowj had
        omega
end Go.Proofs.YtkebljkdkaagfaaGreatDoor.S
