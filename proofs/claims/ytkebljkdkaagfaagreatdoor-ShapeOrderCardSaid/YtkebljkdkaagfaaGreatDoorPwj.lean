/- Brackets that are open; lists of trees that grow. -/
import Derived.Test.YtkebljkdkaagfaaGreatDoorPwi
namespace Go.Proofs.YtkebljkdkaagfaaGreatDoor.E
open Go Tr
open V (rest rest_cases restL sizeB pk_rest cx_i cp_i extract_list)
set_option maxRecDepth 100000
set_option maxHeartbeats 2000000
theorem bindR_ok {α β : Type} {x : R α} {g : α → PS → R β} {y : β × PS} (h : bindR x g = .ok y) : ∃ a st, x = .ok (a, st) ∧ g a st = .ok y := by
  cases x with
  | error c => cases h
  | ok p => exact ⟨p.1, p.2, rfl, h⟩
section
variable {L : Nat}
theorem wantB_op {kind : Nat} {text : Txt} {st st' : PS} {u : Unit} (h : wantB L kind text st = .ok (u, st')) :
    st'.op = if kind = 4 ∧ (text = sLp ∨ text = sLb) then st.op + 1 else if kind = 4 ∧ (text = sRp ∨ text = sRb) then st.op - 1 else st.op := by
  unfold wantB at h
  cases hp : peekB L st with
  | error c => rw [hp] at h; cases h
  | ok y =>
    obtain ⟨t, st1⟩ := y
    have ho := (peekB_again hp).2.2
    rw [hp] at h
    dsimp only at h
    split at h
    · split at h
      · rename_i hk
        rw [if_pos hk]
        split at h
        · cases h
        · cases h; rw [← ho]
      · rename_i hk
        rw [if_neg hk]
        split at h
        · rename_i hk2
          rw [if_pos hk2]
          cases h; rw [← ho]
        · rename_i hk2
          rw [if_neg hk2]
          cases h; exact ho
    · cases h
theorem wantB_op2 {text : Txt} {st st' : PS} {u : Unit} (h : wantB L 2 text st = .ok (u, st')) : st'.op = st.op := by
  rw [wantB_op h, if_neg (by rintro ⟨h, _⟩; omega), if_neg (by rintro ⟨h, _⟩; omega)]
theorem wantB_com {st st' : PS} {u : Unit} (h : wantB L 4 sCom st = .ok (u, st')) : st'.op = st.op := by
  rw [wantB_op h, if_neg (by decide), if_neg (by decide)]
theorem wantB_lp {st st' : PS} {u : Unit} (h : wantB L 4 sLp st = .ok (u, st')) : st'.op = st.op + 1 := by rw [wantB_op h, if_pos (by decide)]
theorem wantB_lb {st st' : PS} {u : Unit} (h : wantB L 4 sLb st = .ok (u, st')) : st'.op = st.op + 1 := by rw [wantB_op h, if_pos (by decide)]
theorem wantB_rp {st st' : PS} {u : Unit} (h : wantB L 4 sRp st = .ok (u, st')) : st'.op = st.op - 1 := by rw [wantB_op h, if_neg (by decide), if_pos (by decide)]
theorem wantB_rb {st st' : PS} {u : Unit} (h : wantB L 4 sRb st = .ok (u, st')) : st'.op = st.op - 1 := by rw [wantB_op h, if_neg (by decide), if_pos (by decide)]
theorem peekB_op {st st' : PS} {t : Tk} (h : peekB L st = .ok (t, st')) : st'.op = st.op := (peekB_again h).2.2
def KeepOp (part : PS → R N) : Prop := ∀ st n st', part st = .ok (n, st') → st'.op = st.op
theorem loopB_op {part : PS → R N} (hp : KeepOp part) {kind : Nat} {ops : List Txt} : ∀ (m : Nat) (a : N) (st : PS) (n : N) (st' : PS), loopB L part kind ops m a st = .ok (n, st') → st'.op = st.op
  | 0, _, _, _, _, h => by cases h
  | m + 1, a, st, n, st', h => by
    obtain ⟨t, st1, h1, h2⟩ := bindR_ok (show bindR (peekB L st) _ = _ from h)
    have o1 := peekB_op h1
    split at h2
    · cases h2; exact o1
    · obtain ⟨c, st2, h3, h4⟩ := bindR_ok h2
      have o2 := hp _ _ _ h3
      have o3 := loopB_op hp m _ _ _ _ h4
      rw [o3, o2]; exact o1
theorem itemsB_op {part : PS → R N} (hp : KeepOp part) : ∀ (m : Nat) (acc : List N) (st : PS) (l : List N) (st' : PS), itemsB L part m acc st = .ok (l, st') → st'.op = st.op
  | 0, _, _, _, _, h => by cases h
  | m + 1, acc, st, l, st', h => by
    unfold itemsB at h
    split at h
    · obtain ⟨t, st1, h1, h2⟩ := bindR_ok h
      have o1 := peekB_op h1
      split at h2
      · obtain ⟨c, st2, h3, h4⟩ := bindR_ok h2
        have o2 := hp _ _ _ h3
        have o3 := itemsB_op hp m _ _ _ _ h4
        rw [o3, o2]; exact o1
      · cases h2; exact o1
    · cases h; rfl
theorem argsB_op {part : PS → R N} (hp : KeepOp part) : ∀ (m : Nat) (acc : List N) (st : PS) (l : List N) (st' : PS), argsB L part m acc st = .ok (l, st') → st'.op = st.op
  | 0, _, _, _, _, h => by cases h; rfl
  | m + 1, acc, st, l, st', h => by
    unfold argsB at h
    obtain ⟨u, st1, h1, h2⟩ := bindR_ok h
    obtain ⟨c, st2, h3, h4⟩ := bindR_ok h2
    have o2 := hp _ _ _ h3
    have o3 := argsB_op hp m _ _ _ _ h4
    rw [o3, o2]
    split at h1
    · cases h1; rfl
    · exact wantB_com h1
theorem prs_op : ∀ (f : Nat) (lv : Lv), KeepOp (prs L f lv)
  | 0, _, _, _, _, h => by cases h
  | f + 1, lv, st, n, st', h => by
    cases lv with
    | expr =>
      obtain ⟨t, st1, h1, h2⟩ := bindR_ok (show bindR (peekB L st) _ = _ from h)
      have o1 := peekB_op h1
      split at h2
      · obtain ⟨c, st2, h3, h2⟩ := bindR_ok h2
        obtain ⟨u, st3, h4, h2⟩ := bindR_ok h2
        obtain ⟨a, st4, h5, h2⟩ := bindR_ok h2
        obtain ⟨u, st5, h6, h2⟩ := bindR_ok h2
        obtain ⟨d, st6, h7, h2⟩ := bindR_ok h2
        cases h2
        rw [prs_op f _ _ _ _ h7, wantB_op2 h6, prs_op f _ _ _ _ h5, wantB_op2 h4, prs_op f _ _ _ _ h3]; exact o1
      · rw [prs_op f _ _ _ _ h2]; exact o1
    | or =>
      obtain ⟨a, st1, h1, h2⟩ := bindR_ok (show bindR (prs L f .and st) _ = _ from h)
      rw [loopB_op (prs_op f _) _ _ _ _ _ h2, prs_op f _ _ _ _ h1]
    | and =>
      obtain ⟨a, st1, h1, h2⟩ := bindR_ok (show bindR (prs L f .not st) _ = _ from h)
      rw [loopB_op (prs_op f _) _ _ _ _ _ h2, prs_op f _ _ _ _ h1]
    | sum =>
      obtain ⟨a, st1, h1, h2⟩ := bindR_ok (show bindR (prs L f .term st) _ = _ from h)
      rw [loopB_op (prs_op f _) _ _ _ _ _ h2, prs_op f _ _ _ _ h1]
    | term =>
      obtain ⟨a, st1, h1, h2⟩ := bindR_ok (show bindR (prs L f .neg st) _ = _ from h)
      rw [loopB_op (prs_op f _) _ _ _ _ _ h2, prs_op f _ _ _ _ h1]
    | not =>
      obtain ⟨t, st1, h1, h2⟩ := bindR_ok (show bindR (peekB L st) _ = _ from h)
      have o1 := peekB_op h1
      split at h2
      · obtain ⟨c, st2, h3, h2⟩ := bindR_ok h2
        cases h2
        rw [prs_op f _ _ _ _ h3]; exact o1
      · rw [prs_op f _ _ _ _ h2]; exact o1
    | neg =>
      obtain ⟨t, st1, h1, h2⟩ := bindR_ok (show bindR (peekB L st) _ = _ from h)
      have o1 := peekB_op h1
      split at h2
      · obtain ⟨c, st2, h3, h2⟩ := bindR_ok h2
        cases h2
        rw [prs_op f _ _ _ _ h3]; exact o1
      · rw [prs_op f _ _ _ _ h2]; exact o1
    | cmp =>
      obtain ⟨a, st1, h1, h2⟩ := bindR_ok (show bindR (prs L f .sum st) _ = _ from h)
      obtain ⟨t, st2, h3, h2⟩ := bindR_ok h2
      have o2 := peekB_op h3
      have o1 := prs_op f _ _ _ _ h1
      split at h2
      · cases h2; rw [o2, o1]
      · obtain ⟨c, st3, h4, h2⟩ := bindR_ok h2
        cases h2
        rw [prs_op f _ _ _ _ h4, ← o1, ← o2]; rfl
    | atom =>
      obtain ⟨t, st1, h1, h2⟩ := bindR_ok (show bindR (peekB L st) _ = _ from h)
      have o1 := peekB_op h1
      split at h2
      · cases h2; exact o1
      split at h2
      · cases h2; exact o1
      split at h2
      · obtain ⟨u, st2, h3, h2⟩ := bindR_ok h2
        obtain ⟨c, st3, h4, h2⟩ := bindR_ok h2
        obtain ⟨u, st4, h5, h2⟩ := bindR_ok h2
        cases h2
        rw [wantB_rp h5, prs_op f _ _ _ _ h4, wantB_lp h3, o1]; rfl
      split at h2
      · rw [prs_op f _ _ _ _ h2]; exact o1
      split at h2
      · split at h2
        · rw [prs_op f _ _ _ _ h2]; exact o1
        · split at h2
          · cases h2; exact o1
          · cases h2
      · cases h2
    | list =>
      obtain ⟨u, st1, h1, h2⟩ := bindR_ok (show bindR (wantB L 4 sLb st) _ = _ from h)
      have o1 := wantB_lb h1
      obtain ⟨t, st2, h3, h2⟩ := bindR_ok h2
      have o2 := peekB_op h3
      split at h2
      · obtain ⟨u, st3, h4, h2⟩ := bindR_ok h2
        cases h2
        rw [wantB_rb h4, o2, o1]; rfl
      · obtain ⟨c, st3, h4, h2⟩ := bindR_ok h2
        obtain ⟨l, st4, h5, h2⟩ := bindR_ok h2
        obtain ⟨u, st5, h6, h2⟩ := bindR_ok h2
        cases h2
        rw [wantB_rb h6, itemsB_op (prs_op f _) _ _ _ _ _ h5, prs_op f _ _ _ _ h4, o2, o1]; rfl
    | call i =>
      obtain ⟨t, st1, h1, h2⟩ := bindR_ok (show bindR (peekB L st) _ = _ from h)
      have o1 := peekB_op h1
      obtain ⟨u, st2, h3, h2⟩ := bindR_ok h2
      obtain ⟨l, st3, h4, h2⟩ := bindR_ok h2
      obtain ⟨u, st4, h5, h2⟩ := bindR_ok h2
      cases h2
      rw [wantB_rp h5, argsB_op (prs_op f _) _ _ _ _ _ h4, wantB_lp h3]
      show st1.op + 1 - 1 = _
      rw [o1]; rfl
end
/-! ### Lists that grow -/
abbrev tNodes : TypeId := 225
theorem infoNode : (Tryz.prog.info? tNode).map (fun i => (i.zero, i.size, i.bytes)) = some (some .nilIface, 1, 16) := by kernel_rfl
structure Its (lo : Nat) (w : World) (p : Option Addr) (n c : Nat) (acc : List N) : Prop where
  ex : ∃ vs, Row w lo tNode 1 p n c vs ∧ IsL (fun k => lo ≤ k ∧ k < w.heap.size ∧ ¬ rowS p n c k) w acc vs
theorem IsL.app {B : Nat → Prop} {w : World} {x : N} {v : Value} (hx : IsN B w x v) : ∀ {l : List N} {vs : List Value}, IsL B w l vs → IsL B w (l ++ [x]) (vs ++ [v])
  | [], vs, h => by
    simp only [IsL] at h
    subst h
    simp only [List.nil_append, IsL]
    exact ⟨v, [], rfl, hx, rfl⟩
  | y :: l, vs, h => by
    simp only [IsL] at h
    obtain ⟨a, r, rfl, h1, h2⟩ := h
    simp only [List.cons_append, IsL]
    exact ⟨a, r ++ [v], rfl, h1, IsL.app hx h2⟩
theorem Its.nil (lo : Nat) (w : World) : Its lo w none 0 0 [] := ⟨[], Row.nil _ _ _ _, by simp only [IsL]⟩
theorem Its.ch {lo : Nat} {w w' : World} {p : Option Addr} {n c : Nat} {acc : List N} {S : Nat → Prop} (h : Its lo w p n c acc) (hc : Ch S w w') (hS : ∀ k, lo ≤ k → ¬ S k) : Its lo w' p n c acc := by
  obtain ⟨vs, h1, h2⟩ := h
  exact ⟨vs, h1.ch hc (fun k hk => hS k (h1.lt hk).1), IsL.mono (fun k hk => ⟨hk.1, Nat.lt_of_lt_of_le hk.2.1 hc.size, hk.2.2⟩) _ _ (IsL.ch hc (fun k hk => hS k hk.1) _ _ h2)⟩
/-- The list as a part of a tree. -/
theorem Its.out {lo : Nat} {w : World} {p : Option Addr} {n c : Nat} {acc : List N} {B : Nat → Prop} (h : Its lo w p n c acc) (hB : ∀ k, lo ≤ k → k < w.heap.size → B k) :
    ∃ vs, vs.length = n ∧ n ≤ c ∧ c ≤ 9223372036854775807 ∧ (0 < n → ∃ g, p = some ⟨g, 0, none⟩ ∧ B g ∧ ∀ (j : Nat) (u : Value), vs[j]? = some u → w.cell? ⟨g, j, none⟩ = some u) ∧ IsL B w acc vs := by
  obtain ⟨vs, h1, h2⟩ := h
  refine ⟨vs, by have := h1.len; omega, h1.cap.1, h1.cap.2, fun hn => ?_, IsL.mono (fun k hk => hB k hk.1 hk.2.1) _ _ h2⟩
  obtain ⟨g, e, hg, hc⟩ := h1.get hn
  exact ⟨g, e, hB g (h1.lt hg).1 (h1.lt hg).2, hc⟩
section
variable {R : Ending → World → Prop} {Q : Exit → List (Tmp × Value) → World → Prop} {w : World} {b nl o lo : Nat} {s : ByteArray} {p : Option Addr} {n c : Nat} {acc : List N} {cs : List Value} {tL : TypeId} {K : T}
theorem itm_tail {C : World → Prop} (hC : ∀ w, C w) {w1 : World} {a : N} {y : TypeId × Value} {st' : PS} {n16 : Nat} (hnl : nl < lo) (hb : b < nl) (hblk : Blk w nl cs tL) (ho : o < cs.length) (hI : Its lo w p n c acc) (ha : IsN (fun k => lo ≤ k ∧ k < w.heap.size ∧ ¬ rowS p n c k) w a (.iface y.1 y.2)) (hn6 : n ≤ 100) (hps : PsS w b s st') (hlo : lo ≤ w.heap.size) (b16 : Blk w n16 [.iface y.1 y.2] tNode)
    (h : ∀ w' p' c', Ch (fun k => nl ≤ k) w w' → PsS w' b s st' → Blk w' nl (cs.set o (.slice p' (n + 1) c')) tL → Its lo w' p' (n + 1) c' (acc ++ [a]) → wpT Tryz.prog R Q K .pl w') :
    wpT Tryz.prog R Q (.run (builtin .append #[tNodes, tNodes] tNodes #[false, false] #[.slice p n c, .slice (some ⟨n16, 0, none⟩) 1 1]) (.one (.leaf .sl)) fun l => .back (.eff (.store ⟨nl, o, none⟩ (.slice l.1 l.2.1 l.2.2) (.back (.undrawn K))))) (.ef C) w := by
  obtain ⟨vs, h1, h2⟩ := hI
  refine ap_blk (by kernel_rfl) infoNode rfl (by omega) h1 hlo b16 (by simp) (by simp [Value.oneCell']) (by unfold maxLen; omega) (by omega) fun q' d' w1 g1 => bk (hC _) (eff_i ?_)
  have hrl : ∀ k, rowS p n c k → lo ≤ k := fun k hk => (h1.lt hk).1
  refine st_blk (hblk.ch g1.ch (fun hk => by have := hrl _ hk; omega)) ho rfl fun w2 h2' z2 b2 => bk (hC _) (un_h (h w2 q' d' ?_ ?_ b2 ⟨vs ++ [.iface y.1 y.2], ?_, ?_⟩))
  · exact (g1.ch.mono fun k hk => by have := hrl k hk; omega).trans (h2'.mono fun k (e : k = nl) => by omega)
  · exact (hps.ch g1.ch (fun hk => by have := hrl _ hk; omega)).ch h2' (fun e : b = nl => by omega)
  · exact g1.own.ch h2' (fun k hk (e : k = nl) => by
      rcases g1.lies k hk with h' | h'
      · have := hrl k h'; omega
      · omega)
  · have hsz := g1.ch.size
    have hsz2 := h2'.size
    have lift : ∀ k, (lo ≤ k ∧ k < w.heap.size ∧ ¬ rowS p n c k) → lo ≤ k ∧ k < w2.heap.size ∧ ¬ rowS q' (n + 1) d' k := fun k hk => ⟨hk.1, by omega, fun hk' => by
      rcases g1.lies k hk' with h' | h'
      · exact hk.2.2 h'
      · omega⟩
    refine IsL.app (IsN.mono lift _ _ (IsN.ch h2' (fun k hk (e : k = nl) => by omega) _ _ (IsN.ch g1.ch (fun k hk => hk.2.2) _ _ ha))) (IsL.mono lift _ _ (IsL.ch h2' (fun k hk (e : k = nl) => by omega) _ _ (IsL.ch g1.ch (fun k hk => hk.2.2) _ _ h2)))
/-- One item more. -/
theorem itm_i {X : E.R N} (hnl : nl < lo) (hb : b < nl) (hblk : Blk w nl cs tL) (hcs : cs[o]? = some (.slice p n c)) (hI : Its lo w p n c acc) (hn6 : n ≤ 100) (hlo : lo ≤ w.heap.size)
    (hcall : Calls Tryz.prog 49 #[.pointer (some ⟨b, 0, none⟩)] w.drew (PostR b s w.drew (relN w.drew) X))
    (hok : ∀ a st' w' p' c', X = .ok (a, st') → Ch (fun k => k = b ∨ nl ≤ k) w w' → PsS w' b s st' → Blk w' nl (cs.set o (.slice p' (n + 1) c')) tL → Its lo w' p' (n + 1) c' (acc ++ [a]) → wpT Tryz.prog R Q K .pl w')
    (herr : ∀ c e w', X = .error c → Ch (· = b) w w' → Thrown w w' e (c.1 : Nat) (c.2 : Nat) → R e w') :
    wpT Tryz.prog R Q (.hdrawn (.both
      (.eff (.load ⟨nl, o, none⟩ .sl (fun l14 => .back (.eff (.callp 49 #[.pointer (some ⟨b, 0, none⟩)] (.one (.leaf .ifc)) (fun i15 => .back (.eff (.new (.cells #[.iface i15.1 i15.2] tNode (0, 0)) (fun n16 => .back (.eff
        (.run (builtin .append #[tNodes, tNodes] tNodes #[false, false] #[.slice l14.1 l14.2.1 l14.2.2, .slice (some ⟨n16, 0, none⟩) 1 1]) (.one (.leaf .sl)) (fun l17 => .back (.eff (.store ⟨nl, o, none⟩ (.slice l17.1 l17.2.1 l17.2.2) (.back (.undrawn K)))))))))))
          (fun ch18 => .done (.panicked ch18)))))))
      (.both
        (.eff (.callp 49 #[.pointer (some ⟨b, 0, none⟩)] (.one (.leaf .ifc)) (fun i19 => .back (.both
          (.eff (.load ⟨nl, o, none⟩ .sl (fun l20 => .back (.eff (.new (.cells #[.iface i19.1 i19.2] tNode (0, 0)) (fun n21 => .back (.eff
            (.run (builtin .append #[tNodes, tNodes] tNodes #[false, false] #[.slice l20.1 l20.2.1 l20.2.2, .slice (some ⟨n21, 0, none⟩) 1 1]) (.one (.leaf .sl)) (fun l22 => .back (.eff (.store ⟨nl, o, none⟩ (.slice l22.1 l22.2.1 l22.2.2) (.back (.undrawn K)))))))))))))
          (.both
            (.eff (.new (.cells #[.iface i19.1 i19.2] tNode (0, 0)) (fun n23 => .back (.eff (.load ⟨nl, o, none⟩ .sl (fun l24 => .back (.eff
              (.run (builtin .append #[tNodes, tNodes] tNodes #[false, false] #[.slice l24.1 l24.2.1 l24.2.2, .slice (some ⟨n23, 0, none⟩) 1 1]) (.one (.leaf .sl)) (fun l25 => .back (.eff (.store ⟨nl, o, none⟩ (.slice l25.1 l25.2.1 l25.2.2) (.back (.undrawn K)))))))))))))
            .triv)))
          (fun ch26 => .done (.panicked ch26))))
        .triv))) .pl w := by
  have hd := (Ch.refl No w).drew
  have ho : o < cs.length := (List.getElem?_eq_some_iff.1 hcs).1
  have bd := hblk.ch hd (fun h => h)
  have Id := hI.ch hd (fun k _ h => h)
  have hds := hd.size
  have cell : ∀ {w'}, Blk w' nl cs tL → w'.cell? ⟨nl, o, none⟩ = some (.slice p n c) := fun hb' => by rw [hb'.cell]; exact hcs
  have err' : ∀ c e w', X = .error c → Ch (· = b) w.drew w' → Thrown w.drew w' e (c.1 : Nat) (c.2 : Nat) → R e w' := fun c e w' hX hc ht => herr c e w' hX (hd.no.trans hc) (ht.from hd.size)
  -- behind the call
  have mk : ∀ {a : N} {st' : PS} {v : Value} {w1 : World}, X = .ok (a, st') → Ch (· = b) w.drew w1 → relN w.drew a v w1 → PsS w1 b s st' → Blk w1 nl cs tL ∧ Its lo w1 p n c acc ∧ IsN (fun k => lo ≤ k ∧ k < w1.heap.size ∧ ¬ rowS p n c k) w1 a v := fun {a st' v w1} _ h1 r1 P1 => by
    refine ⟨bd.ch h1 (fun e : nl = b => by omega), Id.ch h1 (fun k hk (e : k = b) => by omega), IsN.mono (fun k hk => ⟨Nat.le_trans (Nat.le_trans hlo hd.size) hk.1, hk.2, fun hr => ?_⟩) _ _ r1⟩
    obtain ⟨vs, h1', _⟩ := Id
    have := (h1'.lt hr).2
    have := hk.1
    omega
  have fin : ∀ {a : N} {y : TypeId × Value} {st' : PS} {w1 w2 : World} {n16 : Nat}, X = .ok (a, st') → Ch (· = b) w.drew w1 → relN w.drew a (.iface y.1 y.2) w1 → PsS w1 b s st' → Ch No w1 w2 → Blk w2 n16 [.iface y.1 y.2] tNode →
      wpT Tryz.prog R Q (.run (builtin .append #[tNodes, tNodes] tNodes #[false, false] #[.slice p n c, .slice (some ⟨n16, 0, none⟩) 1 1]) (.one (.leaf .sl)) fun l => .back (.eff (.store ⟨nl, o, none⟩ (.slice l.1 l.2.1 l.2.2) (.back (.undrawn K))))) (.ef (fun _ => True)) w2 := fun {a y st' w1 w2 n16} hX h1 r1 P1 h2 b16 => by
    obtain ⟨m1, m2, m3⟩ := mk hX h1 r1 P1
    have hs1 := h1.size
    have hs2 := h2.size
    refine itm_tail (C := fun _ => True) (fun _ => trivial) (w1 := w1) (y := y) hnl hb (m1.ch h2 (fun h => h)) ho (m2.ch h2 (fun _ _ h => h)) (IsN.mono (fun k hk => ⟨hk.1, by omega, hk.2.2⟩) _ _ (IsN.ch h2 (fun _ _ h => h) _ _ m3)) hn6 (P1.ch h2 (fun h => h)) (by omega) b16 fun w' p' c' h3 P3 b3 I3 => ?_
    exact hok a st' w' p' c' hX (((hd.no.trans h1).mono fun k h => .inl h).trans (h2.no.trans (h3.mono fun k h => .inr h))) P3 b3 I3
  refine hd_i (fun _ => True) trivial ⟨?_, ?_, trivial⟩
  · refine eff_i (ld_sl (cell bd) (bk trivial (eff_i (cpR hcall ?_ err'))))
    intro a st' v w1 hX h1 r1 P1
    obtain ⟨y, rfl⟩ := IsN.ifc r1
    exact ⟨y, rfl, bk trivial (eff_i (nw fun w2 h2 z2 b2 => bk trivial (eff_i (fin hX h1 r1 P1 h2 b2))))⟩
  · refine eff_i (cpR hcall ?_ err')
    intro a st' v w1 hX h1 r1 P1
    obtain ⟨y, rfl⟩ := IsN.ifc r1
    obtain ⟨m1, m2, m3⟩ := mk hX h1 r1 P1
    refine ⟨y, rfl, bk trivial ⟨?_, ?_, trivial⟩⟩
    · exact eff_i (ld_sl (cell m1) (bk trivial (eff_i (nw fun w2 h2 z2 b2 => bk trivial (eff_i (fin hX h1 r1 P1 h2 b2))))))
    · exact eff_i (nw fun w2 h2 z2 b2 => bk trivial (eff_i (ld_sl (cell (m1.ch h2 (fun h => h))) (bk trivial (eff_i (fin hX h1 r1 P1 h2 b2))))))
/-- The token that is known is looked at. -/
theorem isK {k : Bool → T} {md : Md} [hmd : md.Runs] {kind : Nat} {text : Txt} {st : PS} {t : Tk} {lv : Lv} (hB : Beg w b s lv st) (hp : peekB s.size st = .ok (t, st))
    (hok : ∀ w', Ch (· = b) w w' → PsS w' b s st → wpT Tryz.prog R Q (k (isB t kind text)) md w') :
    wpT Tryz.prog R Q (.callp 51 #[.pointer (some ⟨b, 0, none⟩), .int .i64 (kind : Nat), .string (bytesL text)] (.one (.leaf .bool)) k (fun ch => .done (.panicked ch))) md w := by
  refine cpR (is_any w b s st kind text hB.ps hB.gl hB.big hB.sz) ?_ ?_
  · intro x st' v w' hX h1 h2 h3
    obtain rfl : v = .bool x := h2
    rw [hp] at hX
    simp only [bindR, Except.ok.injEq, Prod.mk.injEq] at hX
    obtain ⟨rfl, rfl⟩ := hX
    exact ⟨_, rfl, hok w' h1 h3⟩
  · intro c e w' hX
    rw [hp] at hX
    simp [bindR] at hX
end
end Go.Proofs.YtkebljkdkaagfaaGreatDoor.E
