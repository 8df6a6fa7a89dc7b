/- The program's writer: the walk of a tree. The program's writer: each kind of tree. -/
import Derived.Test.YtmdmomccibpjbaaGreatDoorRzd
namespace Go.Proofs.YtmdmomccibpjbaaGreatDoor.E
open Go Tr
set_option maxRecDepth 100000
set_option maxHeartbeats 8000000
/-- A block of tokens beside the row. -/
structure Fr (w : World) (p : Option Addr) (m c : Nat) (k : Nat) (ts : List Txt) : Prop where
 no : ¬ rowS p m c k
 blk : Blk w k (ts.map cellT) tStr
section
variable {base : Nat} {w w1 : World} {p q : Option Addr} {m c n d k : Nat} {ts l l' : List Txt}
theorem Fr.ch (h : Fr w p m c k ts) (hc : Ch No w w1) : Fr w1 p m c k ts := ⟨h.no,h.blk.ch hc (fun h => h)⟩
theorem Fr.grew (h : Fr w p m c k ts) (g : GrewT base w p m c w1 q n d l) : Fr w1 q n d k ts := ⟨fun hr => (g.lies k hr).elim h.no (fun h' => by have := h.blk.lt; omega),h.blk.ch g.ch h.no⟩
theorem Fr.new (hr : RowT w base p m c l) (h1 : w1.heap.size = w.heap.size + 1) (hb : Blk w1 w.heap.size (ts.map cellT) tStr) : Fr w1 p m c w.heap.size ts := ⟨fun h => by have := (Row.lt hr h).2; omega,hb⟩
end
/-- What keeps through the writer's work: a tree's own block, the levels, Go's tables. -/
structure Kp (B : Nat → Prop) (base mp : Nat) (w : World) : Prop where
 map : MapW w mp
 tabs : Tabs w
 big : base ≤ w.heap.size
section
variable {B : Nat → Prop} {base mp : Nat} {w w1 : World} {p q : Option Addr} {m c n d k : Nat} {l l' : List Txt}
theorem Kp.no (h : Kp B base mp w) (hc : Ch No w w1) : Kp B base mp w1 := ⟨h.map.ch hc (fun h => h),h.tabs.no hc,Nat.le_trans h.big hc.size⟩
theorem Kp.grew (h : Kp B base mp w) (hmp : mp < base) (hNG : 10 ≤ base) (hr : RowT w base p m c l) (g : GrewT base w p m c w1 q n d l') : Kp B base mp w1 :=
 ⟨g.keepM hr hmp h.map,h.tabs.ch (g.ch.mono fun k hk => (Row.lt hr hk).1) hNG,Nat.le_trans h.big g.ch.size⟩
end
/-- Tokens ahead, a list's items, a token behind: in whatever order they are laid. -/
theorem brk_held {B : Nat → Prop} {base mp : Nat} (hB : ∀ k,B k → k < base) (hmp : mp < base) (hNG : 10 ≤ base) {w0 w : World} {p : Option Addr} {m c : Nat} {l : List Txt} {b : Nat} {vb : List Value} {tb : TypeId} (hs : List Txt) (kk : Nat) (hkk : hs.length = kk) (z : Txt) {items : List N} {a : Option Addr} {n ca : Nat} {vs : List Value}
  (hw : ∀ x ∈ items,WriteOk B base mp x) (h0 : GrewT base w0 p m c w p m c l) (hb : Blk w b vb tb) (hbB : B b) (ha : AtNs B w a n items vs) (K : Kp B base mp w) (hr : RowT w base p m c l) (hsz : m + hs.length + 8 * szL items + 1 ≤ 100000) {Q : Exit → List (Tmp × Value) → World → Prop} :
  wpT Tryz.prog (WrR base w0 p m c l (hs ++ (tksL true items ++ [z]))) Q (.both
      (.eff
       (.new (.cells (hs.map cellT).toArray tStr (0,0)) (fun n8 =>
        .back
         (.both
          (.eff
           (.run (builtin .append #[tStrs,tStrs] tStrs #[false,false] #[.slice p m c,.slice (some ⟨n8,0,none⟩) kk kk]) (.one (.leaf .sl)) (fun l9 =>
            .back
             (.both
              (.eff
               (.call 35 #[.map (some mp),.slice l9.1 l9.2.1 l9.2.2,.slice a n ca] (.one (.leaf .sl)) (fun l10 =>
                .back
                 (.eff
                  (.new (.cells #[.string (bytesL z)] tStr (0,0)) (fun n11 =>
                   .back
                    (.eff
                     (.run (builtin .append #[tStrs,tStrs] tStrs #[false,false] #[.slice l10.1 l10.2.1 l10.2.2,.slice (some ⟨n11,0,none⟩) 1 1]) (.one (.leaf .sl)) (fun l12 =>
                      .back
                       (.undrawn
                        (.done (.returned (.slice l12.1 l12.2.1 l12.2.2)))))))))))))
              (.both
               (.eff
                (.new (.cells #[.string (bytesL z)] tStr (0,0)) (fun n13 =>
                 .back
                  (.eff
                   (.call 35 #[.map (some mp),.slice l9.1 l9.2.1 l9.2.2,.slice a n ca] (.one (.leaf .sl)) (fun l14 =>
                    .back
                     (.eff
                      (.run (builtin .append #[tStrs,tStrs] tStrs #[false,false] #[.slice l14.1 l14.2.1 l14.2.2,.slice (some ⟨n13,0,none⟩) 1 1]) (.one (.leaf .sl)) (fun l15 =>
                       .back
                        (.undrawn
                         (.done (.returned (.slice l15.1 l15.2.1 l15.2.2)))))))))))))
               (.triv))))))
          (.both
           (.eff
            (.new (.cells #[.string (bytesL z)] tStr (0,0)) (fun n16 =>
             .back
              (.eff
               (.run (builtin .append #[tStrs,tStrs] tStrs #[false,false] #[.slice p m c,.slice (some ⟨n8,0,none⟩) kk kk]) (.one (.leaf .sl)) (fun l17 =>
                .back
                 (.eff
                  (.call 35 #[.map (some mp),.slice l17.1 l17.2.1 l17.2.2,.slice a n ca] (.one (.leaf .sl)) (fun l18 =>
                   .back
                    (.eff
                     (.run (builtin .append #[tStrs,tStrs] tStrs #[false,false] #[.slice l18.1 l18.2.1 l18.2.2,.slice (some ⟨n16,0,none⟩) 1 1]) (.one (.leaf .sl)) (fun l19 =>
                      .back
                       (.undrawn
                        (.done (.returned (.slice l19.1 l19.2.1 l19.2.2))))))))))))))))
           (.triv))))))
      (.both
       (.eff
        (.new (.cells #[.string (bytesL z)] tStr (0,0)) (fun n20 =>
         .back
          (.eff
           (.new (.cells (hs.map cellT).toArray tStr (0,0)) (fun n21 =>
            .back
             (.eff
              (.run (builtin .append #[tStrs,tStrs] tStrs #[false,false] #[.slice p m c,.slice (some ⟨n21,0,none⟩) kk kk]) (.one (.leaf .sl)) (fun l22 =>
               .back
                (.eff
                 (.call 35 #[.map (some mp),.slice l22.1 l22.2.1 l22.2.2,.slice a n ca] (.one (.leaf .sl)) (fun l23 =>
                  .back
                   (.eff
                    (.run (builtin .append #[tStrs,tStrs] tStrs #[false,false] #[.slice l23.1 l23.2.1 l23.2.2,.slice (some ⟨n20,0,none⟩) 1 1]) (.one (.leaf .sl)) (fun l24 =>
                     .back
                      (.undrawn
                       (.done (.returned (.slice l24.1 l24.2.1 l24.2.2)))))))))))))))))))
       (.triv))) (.he (fun w' => Blk w' b vb tb)) w := by
 have hbb := hB b hbB
 have hlen := tksL_len true items
 -- the last token
 have A : ∀ (w1 : World) (q : Option Addr) (d nz : Nat),GrewT base w0 p m c w1 q (m + kk + (tksL true items).length) d (l ++ hs ++ tksL true items) → Blk w1 b vb tb → Fr w1 q (m + kk + (tksL true items).length) d nz [z] → base ≤ w1.heap.size →
   wpT Tryz.prog (WrR base w0 p m c l (hs ++ (tksL true items ++ [z]))) Q (.run (builtin .append #[tStrs,tStrs] tStrs #[false,false] #[.slice q (m + kk + (tksL true items).length) d,.slice (some ⟨nz,0,none⟩) 1 1]) (.one (.leaf .sl)) (fun l12 =>
    .back (.undrawn (.done (.returned (.slice l12.1 l12.2.1 l12.2.2)))))) (.ef (fun w' => Blk w' b vb tb)) w1 := fun w1 q d nz g hb1 hz hbase => by
  refine ap_t g.own hbase hz.blk rfl (by omega) fun q2 d2 w2 g2 => bk (hb1.ch g2.ch (fun h => by have := (Row.lt g.own h).1; omega)) (un_h ?_)
  refine WrR.of (k := m + kk + (tksL true items).length + 1) ?_ (by simp; omega)
  have g3 := Grew.trans g g2
  rw [show l ++ (hs ++ (tksL true items ++ [z])) = l ++ hs ++ tksL true items ++ [z] by simp]
  exact g3
 -- the items
 have I : ∀ (w1 : World) (q : Option Addr) (d : Nat),GrewT base w0 p m c w1 q (m + kk) d (l ++ hs) → Blk w1 b vb tb → Kp B base mp w1 → AtNs B w1 a n items vs → ∀ (K' : Option Addr × Nat × Nat → T),
   (∀ w2 q2 d2,GrewT base w0 p m c w2 q2 (m + kk + (tksL true items).length) d2 (l ++ hs ++ tksL true items) → Blk w2 b vb tb → Kp B base mp w2 → (∀ nz,Fr w1 q (m + kk) d nz [z] → Fr w2 q2 (m + kk + (tksL true items).length) d2 nz [z]) → wpT Tryz.prog (WrR base w0 p m c l (hs ++ (tksL true items ++ [z]))) Q (K' (q2,m + kk + (tksL true items).length,d2)) (.ef (fun w' => Blk w' b vb tb)) w2) →
   wpT Tryz.prog (WrR base w0 p m c l (hs ++ (tksL true items ++ [z]))) Q (.call 35 #[.map (some mp),.slice q (m + kk) d,.slice a n ca] (.one (.leaf .sl)) K') (.ef (fun w' => Blk w' b vb tb)) w1 := fun w1 q d g hb1 K1 A1 K' hK => by
  refine cl_i (all_any B base mp hB hmp hNG items hw w1 q (m + kk) d (l ++ hs) a n ca vs A1 K1.map K1.tabs K1.big g.own (by omega)) ?_
  rintro e w2 ⟨q2,d2,rfl,g2⟩
  refine ⟨(q2,_,d2),rfl,hK w2 q2 d2 (Grew.trans g g2) (hb1.ch g2.ch (fun h => by have := (Row.lt g.own h).1; omega)) (K1.grew hmp hNG g.own g2) fun nz hz => hz.grew g2⟩
 -- the first tokens
 have F : ∀ (w1 : World) (n8 : Nat),Ch No w w1 → Blk w1 n8 (hs.map cellT) tStr → ∀ (K' : Option Addr × Nat × Nat → T),
   (∀ w2 q2 d2,GrewT base w0 p m c w2 q2 (m + kk) d2 (l ++ hs) → Blk w2 b vb tb → Kp B base mp w2 → AtNs B w2 a n items vs → (∀ nz,Fr w1 p m c nz [z] → Fr w2 q2 (m + kk) d2 nz [z]) → wpT Tryz.prog (WrR base w0 p m c l (hs ++ (tksL true items ++ [z]))) Q (K' (q2,m + kk,d2)) (.ef (fun w' => Blk w' b vb tb)) w2) →
   wpT Tryz.prog (WrR base w0 p m c l (hs ++ (tksL true items ++ [z]))) Q (.run (builtin .append #[tStrs,tStrs] tStrs #[false,false] #[.slice p m c,.slice (some ⟨n8,0,none⟩) kk kk]) (.one (.leaf .sl)) K') (.ef (fun w' => Blk w' b vb tb)) w1 := fun w1 n8 h1 hb8 K' hK => by
  have r1 : RowT w1 base p m c l := Row.no hr h1
  have K1 := K.no h1
  refine ap_t r1 K1.big hb8 hkk (by omega) fun q2 d2 w2 g2 => hK w2 q2 d2 (Grew.trans h0 (Grew.after h1 g2)) ((hb.ch h1 (fun h => h)).ch g2.ch (fun h => by have := (Row.lt r1 h).1; omega)) (K1.grew hmp hNG r1 g2) ((ha.ch h1 (fun _ _ h => h)).ch g2.ch (fun k hk h => by have := (Row.lt r1 h).1; have := hB k hk; omega)) fun nz hz => hz.grew g2
 refine ⟨?_,?_,trivial⟩
 ·refine eff_i (nw fun w1 h1 z1 b1 => ?_)
  have hb1 := hb.ch h1 (fun h => h)
  refine bk hb1 ⟨?_,?_,trivial⟩
  ·refine eff_i (F w1 _ h1 b1 _ fun w2 q2 d2 g2 hb2 K2 A2 _ => bk hb2 ⟨?_,?_,trivial⟩)
   ·refine eff_i (I w2 q2 d2 g2 hb2 K2 A2 _ fun w3 q3 d3 g3 hb3 K3 _ => bk hb3 (eff_i (nw fun w4 h4 z4 (b4 : Blk w4 _ ([z].map cellT) tStr) => ?_)))
    have hb4 := hb3.ch h4 (fun h => h)
    exact bk hb4 (eff_i (A w4 q3 d3 _ (Grew.then_no g3 h4) hb4 (Fr.new g3.own z4 b4) (K3.no h4).big))
   ·refine eff_i (nw fun w3 h3 z3 (b3 : Blk w3 _ ([z].map cellT) tStr) => ?_)
    have hb3 := hb2.ch h3 (fun h => h)
    refine bk hb3 (eff_i (I w3 q2 d2 (Grew.then_no g2 h3) hb3 (K2.no h3) (A2.ch h3 (fun _ _ h => h)) _ fun w4 q4 d4 g4 hb4 K4 hz => bk hb4 (eff_i ?_)))
    exact A w4 q4 d4 _ g4 hb4 (hz _ (Fr.new g2.own z3 b3)) K4.big
  ·refine eff_i (nw fun w2 h2 z2 (b2 : Blk w2 _ ([z].map cellT) tStr) => ?_)
   have hb2 := hb1.ch h2 (fun h => h)
   refine bk hb2 (eff_i (F w2 _ (h1.trans h2) (b1.ch h2 (fun h => h)) _ fun w3 q3 d3 g3 hb3 K3 A3 hz3 => bk hb3 (eff_i ?_)))
   refine I w3 q3 d3 g3 hb3 K3 A3 _ fun w4 q4 d4 g4 hb4 K4 hz4 => bk hb4 (eff_i ?_)
   exact A w4 q4 d4 _ g4 hb4 (hz4 _ (hz3 _ (Fr.new (Row.no hr h1) z2 b2))) K4.big
 ·refine eff_i (nw fun w1 h1 z1 (b1 : Blk w1 _ ([z].map cellT) tStr) => ?_)
  have hb1 := hb.ch h1 (fun h => h)
  have fr1 := Fr.new hr z1 b1
  refine bk hb1 (eff_i (nw fun w2 h2 z2 b2 => ?_))
  have hb2 := hb1.ch h2 (fun h => h)
  refine bk hb2 (eff_i (F w2 _ (h1.trans h2) b2 _ fun w3 q3 d3 g3 hb3 K3 A3 hz3 => bk hb3 (eff_i ?_)))
  refine I w3 q3 d3 g3 hb3 K3 A3 _ fun w4 q4 d4 g4 hb4 K4 hz4 => bk hb4 (eff_i ?_)
  exact A w4 q4 d4 _ g4 hb4 (hz4 _ (hz3 _ (fr1.ch h2))) K4.big
/-- A token, then a tree behind it: in a held region. -/
theorem tok_tree {B : Nat → Prop} {base mp : Nat} (hB : ∀ k,B k → k < base) (hmp : mp < base) (hNG : 10 ≤ base) {w0 w : World} {p : Option Addr} {m c : Nat} {l : List Txt} {q : Option Addr} {n d : Nat} {l1 : List Txt} {C : World → Prop} (t : Txt) {x : N} {v : Value} {want : Nat} {K : Option Addr × Nat × Nat → T} {R : Ending → World → Prop} {Q : Exit → List (Tmp × Value) → World → Prop}
  (hx : WriteOk B base mp x) (hv : IsN B w x v) (h0 : GrewT base w0 p m c w q n d l1) (Kw : Kp B base mp w) (hsz : n + 1 + 8 * szN x ≤ 100000)
  (hC1 : ∀ w',Ch No w w' → C w') (hC2 : ∀ w',Ch (fun k => rowS q n d k ∨ w.heap.size ≤ k) w w' → C w')
  (hk : ∀ w' q' d',GrewT base w0 p m c w' q' (n + 1 + (parT (levelN x) want (tks x)).length) d' (l1 ++ [t] ++ parT (levelN x) want (tks x)) → Kp B base mp w' → Ch (fun k => rowS q n d k ∨ w.heap.size ≤ k) w w' → wpT Tryz.prog R Q (K (q',n + 1 + (parT (levelN x) want (tks x)).length,d')) (.ef C) w') :
  wpT Tryz.prog R Q (.new (.cells #[.string (bytesL t)] tStr (0,0)) (fun n9 => .back (.eff
   (.run (builtin .append #[tStrs,tStrs] tStrs #[false,false] #[.slice q n d,.slice (some ⟨n9,0,none⟩) 1 1]) (.one (.leaf .sl)) (fun l10 => .back (.eff
    (.call 15 #[.map (some mp),.slice l10.1 l10.2.1 l10.2.2,v,.int .i64 (want : Nat)] (.one (.leaf .sl)) K))))))) (.ef C) w := by
 refine nw fun w1 h1 z1 (b1 : Blk w1 _ ([t].map cellT) tStr) => bk (hC1 w1 h1) (eff_i ?_)
 have r0 : RowT w base q n d l1 := h0.own
 have r1 : RowT w1 base q n d l1 := Row.no r0 h1
 have K1 := Kw.no h1
 refine ap_t r1 K1.big b1 rfl (by omega) fun q2 d2 w2 g2 => ?_
 have c2 : Ch (fun k => rowS q n d k ∨ w.heap.size ≤ k) w w2 := h1.no.trans (g2.ch.mono fun k hk => .inl hk)
 refine bk (hC2 w2 c2) (eff_i ?_)
 have K2 := K1.grew hmp hNG r1 g2
 refine cl_i (hx v want w2 q2 (n + 1) d2 _ (g2.keepN r1 hB (IsN.ch h1 (fun _ _ h => h) x _ hv)) K2.map K2.tabs K2.big g2.own (by omega)) ?_
 rintro e w3 ⟨q3,d3,rfl,g3⟩
 refine ⟨(q3,_,d3),rfl,hk w3 q3 d3 (Grew.trans h0 (Grew.trans (Grew.after h1 g2) g3)) (K2.grew hmp hNG g2.own g3) ?_⟩
 refine c2.trans (g3.ch.mono fun k hk => ?_)
 rcases g2.lies k hk with h | h
 ·exact .inl h
 ·have := h1.size
  exact .inr (by omega)
end Go.Proofs.YtmdmomccibpjbaaGreatDoor.E
namespace Go.Proofs.YtmdmomccibpjbaaGreatDoor.E
open Go Tr
set_option maxRecDepth 100000
set_option maxHeartbeats 8000000
/-- The writer's beginning: the level is asked for. -/
theorem lv_i {B : Nat → Prop} {w : World} {mp : Nat} {n : N} {v : Value} {want : Nat} {P K : T} {R : Ending → World → Prop} {Q : Exit → List (Tmp × Value) → World → Prop} (hv : IsN B w n v) (hwf : WfN n) (hm : MapW w mp)
  (h1 : levelN n < want → wpT Tryz.prog R Q P .pl w) (h2 : want ≤ levelN n → wpT Tryz.prog R Q K .pl w) :
  wpT Tryz.prog R Q (.call 30 #[.map (some mp),v] (.one (.leaf (.int .i64))) (fun x1 => .br (Decidable.decide (x1 < (want : Nat))) P K)) .pl w := by
 refine cl_i (level3_any w B mp n v hv hwf hm) ?_
 rintro e w2 ⟨rfl,rfl⟩
 refine ⟨_,rfl,br_both (fun e => h1 ?_) fun e => h2 ?_⟩
 ·have := lt_t e; omega
 ·have := lt_f e; omega
/-- In brackets. -/
theorem par_i {B : Nat → Prop} {base mp : Nat} (hB : ∀ k,B k → k < base) (hmp : mp < base) (hNG : 10 ≤ base) {n : N} {v : Value} {w : World} {p : Option Addr} {m c : Nat} {l : List Txt} {want : Nat} {Q : Exit → List (Tmp × Value) → World → Prop}
  (hcore : ∀ (w : World) (p : Option Addr) (m c : Nat) (l : List Txt),IsN B w n v → Kp B base mp w → RowT w base p m c l → m + 8 * szN n ≤ 100001 → Calls Tryz.prog 15 #[.map (some mp),.slice p m c,v,.int .i64 0] w (WrR base w p m c l (tks n)))
  (hv : IsN B w n v) (K : Kp B base mp w) (hr : RowT w base p m c l) (hsz : m + 8 * szN n ≤ 100000) (hlt : levelN n < want) :
  wpT Tryz.prog (WrR base w p m c l (parT (levelN n) want (tks n))) Q (.new (.cells #[.string (bytesL [40])] tStr (0,0)) (fun n2 =>
    .run (builtin .append #[tStrs,tStrs] tStrs #[false,false] #[.slice p m c,.slice (some ⟨n2,0,none⟩) 1 1]) (.one (.leaf .sl)) (fun l3 =>
     .call 15 #[.map (some mp),.slice l3.1 l3.2.1 l3.2.2,v,.int .i64 0] (.one (.leaf .sl)) (fun l4 =>
      .new (.cells #[.string (bytesL [41])] tStr (0,0)) (fun n5 =>
       .run (builtin .append #[tStrs,tStrs] tStrs #[false,false] #[.slice l4.1 l4.2.1 l4.2.2,.slice (some ⟨n5,0,none⟩) 1 1]) (.one (.leaf .sl)) (fun l6 =>
        .done (.returned (.slice l6.1 l6.2.1 l6.2.2)))))))) .pl w := by
 have hlen := tks_len n
 rw [parT,if_pos hlt]
 refine nw fun w1 h1 z1 (b1 : Blk w1 _ ([sLp].map cellT) tStr) => ?_
 have r1 : RowT w1 base p m c l := Row.no hr h1
 have K1 := K.no h1
 refine ap_t r1 K1.big b1 rfl (by omega) fun q2 d2 w2 g2 => ?_
 have K2 := K1.grew hmp hNG r1 g2
 refine cl_i (hcore w2 q2 (m + 1) d2 _ (g2.keepN r1 hB (IsN.ch h1 (fun _ _ h => h) n v hv)) K2 g2.own (by omega)) ?_
 rintro e w3 ⟨q3,d3,rfl,g3⟩
 have K3 := K2.grew hmp hNG g2.own g3
 refine ⟨(q3,_,d3),rfl,nw fun w4 h4 z4 (b4 : Blk w4 _ ([sRp].map cellT) tStr) => ?_⟩
 have K4 := K3.no h4
 have r4 : RowT w4 base q3 _ d3 _ := Row.no g3.own h4
 refine ap_t r4 K4.big b4 rfl (by omega) fun q5 d5 w5 g5 => ?_
 have g6 := Grew.trans (Grew.after h1 g2) (Grew.trans g3 (Grew.after h4 g5))
 refine WrR.of (k := m + 1 + (tks n).length + 1) ?_ (by simp; omega)
 rw [show l ++ sLp :: (tks n ++ [sRp]) = l ++ [sLp] ++ tks n ++ [sRp] by simp]
 exact g6
theorem wfL_mem : ∀ {l : List N} {x : N},WfL l → x ∈ l → WfN x
 | y :: r,x,h,hx => by
  rcases List.mem_cons.1 hx with rfl | hx
  ·exact h.1
  ·exact wfL_mem h.2 hx
/-- One token. -/
theorem one_i {base : Nat} {w0 w : World} {p : Option Addr} {m c : Nat} {l : List Txt} {Q : Exit → List (Tmp × Value) → World → Prop} (t : Txt) (h : Ch No w0 w) (hr : RowT w base p m c l) (hb : base ≤ w.heap.size) (hsz : m ≤ 100000) :
  wpT Tryz.prog (WrR base w0 p m c l [t]) Q (.new (.cells #[.string (bytesL t)] tStr (0,0)) (fun n9 =>
      .run (builtin .append #[tStrs,tStrs] tStrs #[false,false] #[.slice p m c,.slice (some ⟨n9,0,none⟩) 1 1]) (.one (.leaf .sl)) (fun l10 =>
       .done (.returned (.slice l10.1 l10.2.1 l10.2.2))))) .pl w := by
 refine nw fun w1 h1 z1 (b1 : Blk w1 _ ([t].map cellT) tStr) => ?_
 refine ap_t (Row.no hr h1 : RowT w1 base p m c l) (by omega) b1 rfl (by omega) fun q2 d2 w2 g2 => WrR.of (k := m + 1) ?_ rfl
 exact Grew.after (h.trans h1) g2
theorem write_any (B : Nat → Prop) (base mp : Nat) (hB : ∀ k,B k → k < base) (hmp : mp < base) (hNG : 10 ≤ base) (kk : Nat) : ∀ n : N,SizeOf.sizeOf n < kk → WfN n → WriteOk B base mp n := by
 induction kk with
 | zero => intro n h; omega
 | succ kk ih =>
 intro n hk hwf
 -- without brackets
 have core : ∀ (v : Value) (want : Nat) (w : World) (p : Option Addr) (m c : Nat) (l : List Txt),want ≤ levelN n → IsN B w n v → Kp B base mp w → RowT w base p m c l → m + 8 * szN n ≤ 100001 →
   Calls Tryz.prog 15 #[.map (some mp),.slice p m c,v,.int .i64 (want : Nat)] w (WrR base w p m c l (tks n)) := by
  intro v want w p m c l hwant hv K hr hsz
  have hlen := tks_len n
  have hv0 := hv
  have h0 : GrewT base w p m c w p m c l := Grew.refl hr
  cases n with
  | num x =>
   simp only [IsN] at hv
   obtain ⟨b,rfl,hbB,hb⟩ := hv
   refine calls_of_fnT mixed Tryz.func15 (s := s15a) ?_
   rw [t15a]
   refine lv_i hv0 hwf K.map (fun h => absurd h (by omega)) fun _ => ?_
   have hrg : Rng x := ⟨by have := hwf.1; show (-9223372036854775808 : Int) ≤ x; omega,hwf.2⟩
   refine ld_int (hb.cell 0) (cl_i (format_any x hrg w K.tabs) ?_)
   rintro e w2 ⟨rfl,h2⟩
   have h2s := h2.size
   exact ⟨bytesL (Lib.itoa x),rfl,one_i (Lib.itoa x) h2 (Row.no hr h2) (by have := K.big; omega) (by omega)⟩
  | quo x =>
   simp only [IsN] at hv
   obtain ⟨b,rfl,hbB,hb⟩ := hv
   refine calls_of_fnT mixed Tryz.func15 (s := s15b) ?_
   rw [t15b]
   refine lv_i hv0 hwf K.map (fun h => absurd h (by omega)) fun _ => ?_
   have h24 : (bytesL x).size ≤ 24 := by rw [tb_size x]; exact hwf
   refine ld_str (hb.cell 0) (cl_i (ofText_any w (bytesL x)) ?_)
   rintro e w2 ⟨h2,rfl⟩
   refine ⟨(2,0,bytesL x,(none,0,0),()),rfl,?_⟩
   have hbig := K.big
   have h2s := h2.size
   have hfit : Fit (.mk 2 0 (bytesL x) []) := by
    rw [Fit_def]
    exact ⟨(show Rng 2 from ⟨by decide,by decide⟩),(show Rng 0 from ⟨by decide,by decide⟩),by show (bytesL x).size ≤ _; omega,trivial⟩
   refine cl_i (Print_any (.mk 2 0 (bytesL x) []) none 0 0 w2 ⟨Nat.le_refl _,by omega,by rw [RIt_def]; exact ⟨rfl,fun h => absurd h (by omega)⟩⟩ hfit (K.tabs.no h2) (by omega)) ?_
   rintro e w3 ⟨rfl,h3⟩
   rw [print_quo h24]
   have hql := quoteB_len (bytesL x)
   refine ⟨_,rfl,cl_i (plain3_any w3 (quoteB (bytesL x)) (by omega)) ?_⟩
   rintro e w4 ⟨h4,rfl⟩
   rw [plain_quo,tb_data]
   have h24' := h2.trans (h3.trans h4)
   have h24s := h24'.size
   exact ⟨_,rfl,one_i (quoM x) h24' (Row.no hr h24') (by omega) (by omega)⟩
  | wrd x =>
   simp only [IsN] at hv
   obtain ⟨b,rfl,hbB,hb⟩ := hv
   refine calls_of_fnT mixed Tryz.func15 (s := s15c) ?_
   rw [t15c]
   refine lv_i hv0 hwf K.map (fun h => absurd h (by omega)) fun _ => ?_
   exact ld_str (hb.cell 0) (one_i x (Ch.refl _ _) hr K.big (by omega))
  | un op a =>
   simp only [IsN] at hv
   obtain ⟨b,va,rfl,hbB,hb,ha⟩ := hv
   obtain ⟨ta,ua,rfl⟩ := iface_of ha
   have hbb := hB b hbB
   simp only [szN] at hsz
   have ihA := ih a (by simp only [N.un.sizeOf_spec] at hk; omega) hwf.2
   refine calls_of_fnT mixed Tryz.func15 (s := s15d) ?_
   rw [t15d]
   simp only [addr_add,Nat.zero_add]
   refine lv_i hv0 hwf K.map (fun h => absurd h (by omega)) fun _ => ?_
   have hd := (Ch.refl No w).drew
   have hbd := hb.ch hd (fun h => h)
   refine hd_i (fun w' => Blk w' b _ _) hbd (lh_str (fun w' h => h.cell 0) ⟨(ta,ua),fun w' h => h.cell 1,eff_i ?_⟩)
   have rd : RowT w.drew base p m c l := Row.no hr hd
   have Kd := K.no hd
   refine nw fun w1 h1 z1 (b1 : Blk w1 _ ([op].map cellT) tStr) => bk (hbd.ch h1 (fun h => h)) (eff_i ?_)
   have r1 : RowT w1 base p m c l := Row.no rd h1
   have K1 := Kd.no h1
   have hb1 := hbd.ch h1 (fun h => h)
   refine ap_t r1 K1.big b1 rfl (by omega) fun q2 d2 w2 g2 => ?_
   have hb2 := g2.keepT r1 hb1 (fun h => by have := (Row.lt r1 h).1; omega)
   have K2 := K1.grew hmp hNG r1 g2
   have ha1 := IsN.ch (hd.trans h1) (fun _ _ h => h) a _ ha
   have ha2 := g2.keepN r1 hB ha1
   refine bk hb2 (eff_i (cl_i (level3_any w2 B mp (.un op a) _ (by simp only [IsN]; exact ⟨b,_,rfl,hbB,hb2,ha2⟩) hwf K2.map) ?_))
   rintro e w3 ⟨rfl,rfl⟩
   refine ⟨_,rfl,bk hb2 (eff_i (cl_i (ihA (.iface ta ua) (levelN (.un op a)) w3 q2 (m + 1) d2 _ ha2 K2.map K2.tabs K2.big g2.own (by omega)) ?_))⟩
   rintro e w4 ⟨q4,d4,rfl,g4⟩
   have hb4 := GrewT.keepT g4 g2.own hb2 (fun h => by have := (Row.lt g2.own h).1; omega)
   refine ⟨(q4,_,d4),rfl,bk hb4 (un_h (WrR.of (k := m + 1 + (parT (levelN a) (levelN (.un op a)) (tks a)).length) ?_ ?_))⟩
   ·have g5 := Grew.trans (Grew.after (hd.trans h1) g2) g4
    simp only [tks]
    rw [show l ++ op :: parT (levelN a) (if op = tNot then 3 else 7) (tks a) = l ++ [op] ++ parT (levelN a) (if op = tNot then 3 else 7) (tks a) by simp]
    exact g5
   ·simp only [tks,List.length_cons,levelN]
    omega
  | bin op x y =>
   simp only [IsN] at hv
   obtain ⟨b,va,vc,rfl,hbB,hb,hx,hy⟩ := hv
   obtain ⟨ta,ua,rfl⟩ := iface_of hx
   obtain ⟨tc,uc,rfl⟩ := iface_of hy
   have hbb := hB b hbB
   have lx := tks_len x
   have lx2 := par_len (levelN x) (opL op) (tks x)
   simp only [szN] at hsz
   have ihX := ih x (by simp only [N.bin.sizeOf_spec] at hk; omega) hwf.2.1
   have ihY := ih y (by simp only [N.bin.sizeOf_spec] at hk; omega) hwf.2.2
   refine calls_of_fnT mixed Tryz.func15 (s := s15e) ?_
   rw [t15e]
   simp only [addr_add,Nat.zero_add]
   refine lv_i hv0 hwf K.map (fun h => absurd h (by omega)) fun _ => ?_
   refine ld_str (hb.cell 0) (lk_i K.map (bin_ops hwf.1) ?_)
   dsimp only
   refine nw fun w1 h1 z1 n1 => ?_
   have hnn := n1.lt
   refine st_blk n1 (by simp) rfl fun w2 h2 z2 n2 => st_blk n2 (by simp) rfl fun w3 h3 z3 n3 => st_blk n3 (by simp) rfl fun w4 h4 z4 n4 => ?_
   have h04 : Ch No w w4 := h1.then_ (h2.trans (h3.trans h4)) (fun k hk (e : k = w.heap.size) => by omega)
   have hd := (Ch.refl No w4).drew
   have h4d := h04.trans hd
   have hbd := hb.ch h4d (fun h => h)
   have nd := n4.ch hd (fun h => h)
   have rd : RowT w4.drew base p m c l := Row.no hr h4d
   have Kd := K.no h4d
   have hnr : ¬ rowS p m c w.heap.size := fun h => by have := (Row.lt hr h).2; omega
   refine hd_i (fun w' => Blk w' b _ _ ∧ Blk w' w.heap.size _ _) ⟨hbd,nd⟩ ⟨(ta,ua),fun w' h => h.1.cell 1,lh_int (fun w' h => h.2.cell 1) (eff_i ?_)⟩
   refine cl_i (ihX (.iface ta ua) (opL op) w4.drew p m c l (IsN.ch h4d (fun _ _ h => h) x _ hx) Kd.map Kd.tabs Kd.big rd (by omega)) ?_
   rintro e w5 ⟨q5,d5,rfl,g5⟩
   have K5 := Kd.grew hmp hNG rd g5
   have hb5 := g5.keepT rd hbd (fun h => by have := (Row.lt rd h).1; omega)
   have n5 := g5.keepT rd nd hnr
   refine ⟨(q5,_,d5),rfl,bk ⟨hb5,n5⟩ (un_h ?_)⟩
   have hd5 := (Ch.refl No w5).drew
   have hnr5 : ¬ rowS q5 (m + (parT (levelN x) (opL op) (tks x)).length) d5 w.heap.size := fun h => by
    rcases g5.lies _ h with h | h
    ·exact hnr h
    ·have := nd.lt; omega
   have hy5 : IsN B w5 y (.iface tc uc) := g5.keepN rd hB (IsN.ch h4d (fun _ _ h => h) y _ hy)
   have hrow5 : RowT w5.drew base q5 (m + (parT (levelN x) (opL op) (tks x)).length) d5 (l ++ parT (levelN x) (opL op) (tks x)) := Row.no g5.own hd5
   refine hd_i (fun w' => Blk w' b _ _ ∧ Blk w' w.heap.size _ _) ⟨hb5.ch hd5 (fun h => h),n5.ch hd5 (fun h => h)⟩ (lh_str (fun w' h => h.1.cell 0) ⟨(tc,uc),fun w' h => h.1.cell 2,lh_int (fun w' h => h.2.cell 2) (eff_i ?_)⟩)
   refine tok_tree (w0 := w) (p := p) (m := m) (c := c) (l := l) hB hmp hNG op ihY (IsN.ch hd5 (fun _ _ h => h) y _ hy5) (Grew.then_no (Grew.after h4d g5) hd5) (K5.no hd5) (by dsimp only; omega) (fun w' hc => ⟨(hb5.ch hd5 (fun h => h)).ch hc (fun h => h),(n5.ch hd5 (fun h => h)).ch hc (fun h => h)⟩)
    (fun w' hc => ⟨(hb5.ch hd5 (fun h => h)).ch hc (fun h => ?_),(n5.ch hd5 (fun h => h)).ch hc (fun h => ?_)⟩) fun w' q' d' g' K' c' => ?_
   ·rcases h with h | h
    ·have := (Row.lt hrow5 h).1; omega
    ·have := (hb5.ch hd5 (fun h => h)).lt; omega
   ·rcases h with h | h
    ·exact hnr5 h
    ·have := (n5.ch hd5 (fun h => h)).lt; omega
   ·refine bk ⟨(hb5.ch hd5 (fun h => h)).ch c' (fun h => ?_),(n5.ch hd5 (fun h => h)).ch c' (fun h => ?_)⟩ (un_h (WrR.of (k := m + (parT (levelN x) (opL op) (tks x)).length + 1 + (parT (levelN y) (opR op) (tks y)).length) ?_ ?_))
    ·rcases h with h | h
     ·have := (Row.lt hrow5 h).1; omega
     ·have := (hb5.ch hd5 (fun h => h)).lt; omega
    ·rcases h with h | h
     ·exact hnr5 h
     ·have := (n5.ch hd5 (fun h => h)).lt; omega
    ·have g6 := g'
     simp only [tks]
     rw [show l ++ (parT (levelN x) (opL op) (tks x) ++ op :: parT (levelN y) (opR op) (tks y)) = l ++ parT (levelN x) (opL op) (tks x) ++ [op] ++ parT (levelN y) (opR op) (tks y) by simp]
     exact g6
    ·simp only [tks,List.length_append,List.length_cons]
     omega
  | cnd x y z =>
   simp only [IsN] at hv
   obtain ⟨b,va,vc,ve,rfl,hbB,hb,hx,hy,hz⟩ := hv
   obtain ⟨ta,ua,rfl⟩ := iface_of hx
   obtain ⟨tc,uc,rfl⟩ := iface_of hy
   obtain ⟨te,ue,rfl⟩ := iface_of hz
   have hbb := hB b hbB
   have lx := tks_len x
   have ly := tks_len y
   have lz := tks_len z
   simp only [szN] at hsz
   have ihX := ih x (by simp only [N.cnd.sizeOf_spec] at hk; omega) hwf.1
   have ihY := ih y (by simp only [N.cnd.sizeOf_spec] at hk; omega) hwf.2.1
   have ihZ := ih z (by simp only [N.cnd.sizeOf_spec] at hk; omega) hwf.2.2
   have p0 : ∀ (n : N),parT (levelN n) 0 (tks n) = tks n := fun n => by rw [parT,if_neg (by omega)]
   refine calls_of_fnT mixed Tryz.func15 (s := s15f) ?_
   rw [t15f]
   simp only [addr_add,Nat.zero_add]
   refine lv_i hv0 hwf K.map (fun h => absurd h (by omega)) fun _ => ?_
   have hd := (Ch.refl No w).drew
   have hbd := hb.ch hd (fun h => h)
   have rd : RowT w.drew base p m c l := Row.no hr hd
   refine hd_i (fun w' => Blk w' b _ _) hbd ⟨(ta,ua),fun w' h => h.cell 0,eff_i ?_⟩
   refine tok_tree (w0 := w) (p := p) (m := m) (c := c) (l := l) hB hmp hNG tIf ihX (IsN.ch hd (fun _ _ h => h) x _ hx) (Grew.then_no h0 hd) (K.no hd) (by omega) (fun w' hc => hbd.ch hc (fun h => h))
    (fun w' hc => hbd.ch hc (fun h => ?_)) fun w1 q1 d1 g1 K1 c1 => ?_
   ·rcases h with h | h
    ·have := (Row.lt rd h).1; omega
    ·have := hbd.lt; omega
   rw [p0] at g1
   have hb1 := hbd.ch c1 (fun h => by
    rcases h with h | h
    ·have := (Row.lt rd h).1; omega
    ·have := hbd.lt; omega)
   refine bk hb1 (un_h ?_)
   rw [p0]
   have hd1 := (Ch.refl No w1).drew
   have hb1d := hb1.ch hd1 (fun h => h)
   have r1d : RowT w1.drew base q1 (m + 1 + (tks x).length) d1 (l ++ [tIf] ++ tks x) := Row.no g1.own hd1
   have hy1 : IsN B w1 y (.iface tc uc) := g1.keepN hr hB hy
   have hz1 : IsN B w1 z (.iface te ue) := g1.keepN hr hB hz
   refine hd_i (fun w' => Blk w' b _ _) hb1d ⟨(tc,uc),fun w' h => h.cell 1,eff_i ?_⟩
   refine tok_tree (w0 := w) (p := p) (m := m) (c := c) (l := l) hB hmp hNG tThen ihY (IsN.ch hd1 (fun _ _ h => h) y _ hy1) (Grew.then_no g1 hd1) (K1.no hd1) (by dsimp only; omega) (fun w' hc => hb1d.ch hc (fun h => h))
    (fun w' hc => hb1d.ch hc (fun h => ?_)) fun w2 q2 d2 g2 K2 c2 => ?_
   ·rcases h with h | h
    ·have := (Row.lt r1d h).1; omega
    ·have := hb1d.lt; omega
   rw [p0] at g2
   have hb2 := hb1d.ch c2 (fun h => by
    rcases h with h | h
    ·have := (Row.lt r1d h).1; omega
    ·have := hb1d.lt; omega)
   refine bk hb2 (un_h ?_)
   rw [p0]
   have hd2 := (Ch.refl No w2).drew
   have hb2d := hb2.ch hd2 (fun h => h)
   have r2d : RowT w2.drew base q2 (m + 1 + (tks x).length + 1 + (tks y).length) d2 (l ++ [tIf] ++ tks x ++ [tThen] ++ tks y) := Row.no g2.own hd2
   have hz2 : IsN B w2 z (.iface te ue) := g2.keepN hr hB hz
   refine hd_i (fun w' => Blk w' b _ _) hb2d ⟨(te,ue),fun w' h => h.cell 2,eff_i ?_⟩
   refine tok_tree (w0 := w) (p := p) (m := m) (c := c) (l := l) hB hmp hNG tElse ihZ (IsN.ch hd2 (fun _ _ h => h) z _ hz2) (Grew.then_no g2 hd2) (K2.no hd2) (by dsimp only; omega) (fun w' hc => hb2d.ch hc (fun h => h))
    (fun w' hc => hb2d.ch hc (fun h => ?_)) fun w3 q3 d3 g3 K3 c3 => ?_
   ·rcases h with h | h
    ·have := (Row.lt r2d h).1; omega
    ·have := hb2d.lt; omega
   rw [p0] at g3
   have hb3 := hb2d.ch c3 (fun h => by
    rcases h with h | h
    ·have := (Row.lt r2d h).1; omega
    ·have := hb2d.lt; omega)
   refine bk hb3 (un_h ?_)
   rw [p0]
   refine WrR.of ?_ ?_
   ·simp only [tks]
    rw [show l ++ tIf :: (tks x ++ tThen :: (tks y ++ tElse :: tks z)) = l ++ [tIf] ++ tks x ++ [tThen] ++ tks y ++ [tElse] ++ tks z by simp]
    exact g3
   ·simp only [tks,List.length_append,List.length_cons]
    omega
  | lst li =>
   simp only [IsN] at hv
   obtain ⟨b,pa,na,ca,vs,rfl,hbB,hb,hvl,hnc,hcc,hrow,hits⟩ := hv
   have hbb := hB b hbB
   simp only [szN] at hsz
   have ihL : ∀ x ∈ li,WriteOk B base mp x := fun x hx => ih x (by
    have := List.sizeOf_lt_of_mem hx
    simp only [N.lst.sizeOf_spec] at hk
    omega) (wfL_mem hwf hx)
   refine calls_of_fnT mixed Tryz.func15 (s := s15g) ?_
   rw [t15g]
   refine lv_i hv0 hwf K.map (fun h => absurd h (by omega)) fun _ => ?_
   have hd := (Ch.refl No w).drew
   have hbd := hb.ch hd (fun h => h)
   refine hd_i (fun w' => Blk w' b _ _) hbd (lh_sl (fun w' h => h.cell 0) ?_)
   have res := brk_held (w0 := w) (p := p) (m := m) (c := c) (l := l) hB hmp hNG [sLb] 1 rfl sRb (a := pa) (n := na) (ca := ca) ihL (Grew.then_no h0 hd) hbd hbB (AtNs.ch ⟨hvl,hrow,hits⟩ hd (fun _ _ h => h)) (K.no hd) (Row.no hr hd) (by simp only [List.length_nil,List.length_cons]; omega) (Q := fun x x_1 x_2 => False)
   simp only [tks]
   exact res
  | cal i li =>
   simp only [IsN] at hv
   obtain ⟨b,pa,na,ca,vs,rfl,hbB,hi14,hb,hvl,hnc,hcc,hrow,hits⟩ := hv
   have hbb := hB b hbB
   simp only [szN] at hsz
   have ihL : ∀ x ∈ li,WriteOk B base mp x := fun x hx => ih x (by
    have := List.sizeOf_lt_of_mem hx
    simp only [N.cal.sizeOf_spec] at hk
    omega) (wfL_mem hwf.2.2 hx)
   refine calls_of_fnT mixed Tryz.func15 (s := s15h) ?_
   rw [t15h]
   simp only [addr_add,Nat.zero_add]
   refine lv_i hv0 hwf K.map (fun h => absurd h (by omega)) fun _ => ?_
   have hd := (Ch.refl No w).drew
   have hbd := hb.ch hd (fun h => h)
   refine hd_i (fun w' => Blk w' b _ _) hbd (lh_str (fun w' h => h.cell 0) (lh_sl (fun w' h => h.cell 3) ?_))
   have res := brk_held (w0 := w) (p := p) (m := m) (c := c) (l := l) hB hmp hNG [nameB i,sLp] 2 rfl sRp (a := pa) (n := na) (ca := ca) ihL (Grew.then_no h0 hd) hbd hbB (AtNs.ch ⟨hvl,hrow,hits⟩ hd (fun _ _ h => h)) (K.no hd) (Row.no hr hd) (by simp only [List.length_nil,List.length_cons]; omega) (Q := fun x x_1 x_2 => False)
   simp only [tks]
   exact res
 -- in brackets, where they are wanted
 intro v want w p m c l hv hm hT hbase hr hsz
 have K : Kp B base mp w := ⟨hm,hT,hbase⟩
 by_cases hlt : levelN n < want
 ·have hcore : ∀ (w : World) (p : Option Addr) (m c : Nat) (l : List Txt),IsN B w n v → Kp B base mp w → RowT w base p m c l → m + 8 * szN n ≤ 100001 → Calls Tryz.prog 15 #[.map (some mp),.slice p m c,v,.int .i64 0] w (WrR base w p m c l (tks n)) := fun w p m c l hv K hr hsz => core v 0 w p m c l (Nat.zero_le _) hv K hr hsz
  have hv0 := hv
  cases n with
  | num x =>
   simp only [IsN] at hv
   obtain ⟨b,rfl,_⟩ := hv
   refine calls_of_fnT mixed Tryz.func15 (s := s15a) ?_
   rw [t15a]
   exact lv_i hv0 hwf K.map (fun h => par_i hB hmp hNG hcore hv0 K hr hsz h) (fun h => absurd h (by omega))
  | quo x =>
   simp only [IsN] at hv
   obtain ⟨b,rfl,_⟩ := hv
   refine calls_of_fnT mixed Tryz.func15 (s := s15b) ?_
   rw [t15b]
   exact lv_i hv0 hwf K.map (fun h => par_i hB hmp hNG hcore hv0 K hr hsz h) (fun h => absurd h (by omega))
  | wrd x =>
   simp only [IsN] at hv
   obtain ⟨b,rfl,_⟩ := hv
   refine calls_of_fnT mixed Tryz.func15 (s := s15c) ?_
   rw [t15c]
   exact lv_i hv0 hwf K.map (fun h => par_i hB hmp hNG hcore hv0 K hr hsz h) (fun h => absurd h (by omega))
  | un op a =>
   simp only [IsN] at hv
   obtain ⟨b,_,rfl,_⟩ := hv
   refine calls_of_fnT mixed Tryz.func15 (s := s15d) ?_
   rw [t15d]
   exact lv_i hv0 hwf K.map (fun h => par_i hB hmp hNG hcore hv0 K hr hsz h) (fun h => absurd h (by omega))
  | bin op x y =>
   simp only [IsN] at hv
   obtain ⟨b,_,_,rfl,_⟩ := hv
   refine calls_of_fnT mixed Tryz.func15 (s := s15e) ?_
   rw [t15e]
   exact lv_i hv0 hwf K.map (fun h => par_i hB hmp hNG hcore hv0 K hr hsz h) (fun h => absurd h (by omega))
  | cnd x y z =>
   simp only [IsN] at hv
   obtain ⟨b,_,_,_,rfl,_⟩ := hv
   refine calls_of_fnT mixed Tryz.func15 (s := s15f) ?_
   rw [t15f]
   exact lv_i hv0 hwf K.map (fun h => par_i hB hmp hNG hcore hv0 K hr hsz h) (fun h => absurd h (by omega))
  | lst li =>
   simp only [IsN] at hv
   obtain ⟨b,_,_,_,_,rfl,_⟩ := hv
   refine calls_of_fnT mixed Tryz.func15 (s := s15g) ?_
   rw [t15g]
   exact lv_i hv0 hwf K.map (fun h => par_i hB hmp hNG hcore hv0 K hr hsz h) (fun h => absurd h (by omega))
  | cal i li =>
   simp only [IsN] at hv
   obtain ⟨b,_,_,_,_,rfl,_⟩ := hv
   refine calls_of_fnT mixed Tryz.func15 (s := s15h) ?_
   rw [t15h]
   exact lv_i hv0 hwf K.map (fun h => par_i hB hmp hNG hcore hv0 K hr hsz h) (fun h => absurd h (by omega))
 ·rw [parT,if_neg hlt]
  exact core v want w p m c l (by omega) hv K hr (by omega)
end Go.Proofs.YtmdmomccibpjbaaGreatDoor.E
