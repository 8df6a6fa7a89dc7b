/- caught, the deferred closures, Decode. -/
import Derived.Test.YtjellmblammiaaaDoorDcz
import Derived.Tactics
import Derived.Tactics2
import Derived.Laws.Pointers
namespace Go.Proofs.YtjellmblammiaaaDoor
open Go Tr
open Go.RowKit (Below)
set_option maxRecDepth 100000
/-- What is thrown. -/
def gu (er at_ : Int) : Value := .iface 79 (.agg #[.int .i64 er, .int .i64 at_])
/-! the tree of function 29 -/
abbrev fx29_2 (er : Int) (pl : Int) (qa1 : Addr) (qa2 : Addr) (qa3 : Addr) (n1 : Nat) : List (Tmp × Value) := [(0, .iface 79 (.agg #[.int .i64 er, .int .i64 pl])), (1, .pointer (some qa1)), (2, .pointer (some qa2)), (3, .pointer (some qa3)), (8, .pointer (some ⟨n1, 0, none⟩)), (9, .bool true)]
abbrev mx29_2 : List (Tmp × Comp) := []
def s29_2 : Script := .lit .nil
theorem t29_2 (er : Int) (pl : Int) (qa1 : Addr) (qa2 : Addr) (qa3 : Addr) (n1 : Nat) (g : Nat → Value) : pieceT Tryd.prog (at_ Tryd.f29 [1, 1, 0]) 31 (fx29_2 er pl qa1 qa2 qa3 n1) g (mx29_2.map (·.1)) [] [] s29_2 =
  .fin .normal [] := by kernel_rfl
def s29 : Script := .lit (.ct 1 [0, 1, 2, 3, 8, 9] mx29_2 (.hd0 (.hq 0 (.hq 1 (.hq 2 (.hq 3 (.hq 4 (.hq 5 (.ld (.int .i64) (.hq 6 (.hq 7 (.ld (.int .i64) (.hq 8 (.he 9 (.hq 10 (.he 11 (.hq 12 (.he 13 .nil))))))))))))))))))
theorem t29 (er : Int) (pl : Int) (qa1 : Addr) (qa2 : Addr) (qa3 : Addr) : fnT Tryd.prog Tryd.f29 #[.iface 79 (.agg #[.int .i64 er, .int .i64 pl]), .pointer (some qa1), .pointer (some qa2), .pointer (some qa3)] s29 =
  .new (.cells #[.int .i64 0, .int .i64 0] 79 (0, 0)) (fun n1 =>
    .store ⟨n1, 0, none⟩ (.int .i64 er)
      (.store ⟨n1, 1, none⟩ (.int .i64 pl)
        (.cut (at_ Tryd.f29 [1, 1, 0]) 31 (fx29_2 er pl qa1 qa2 qa3 n1) mx29_2 (fun u3 g3 =>
          .hdrawn
            (.load ⟨n1, 1, none⟩ (.int .i64) (fun x4 =>
              .load ⟨n1, 0, none⟩ (.int .i64) (fun x5 =>
                .eff
                  (.store qa1 (.int .i64 0)
                    (.store (qa1.add 1) (.int .i64 0)
                      (.store (qa1.add 2) (.string (bytesL []))
                        (.store (qa1.add 3) (.slice none 0 0)
                          (.back
                            (.eff
                              (.store qa2 (.int .i64 x4)
                                (.back
                                  (.eff
                                    (.store qa3 (.int .i64 x5)
                                      (.back
                                        (.undrawn
                                          (.done (.returned (.tuple #[])))))))))))))))))))))) := by kernel_rfl
/-! the tree of function 2900 -/
def s29n : Script := .lit .nil
theorem t29n (qa1 : Addr) (qa2 : Addr) (qa3 : Addr) : fnT Tryd.prog Tryd.f29 #[.nilIface, .pointer (some qa1), .pointer (some qa2), .pointer (some qa3)] s29n =
  .done (.returned (.tuple #[])) := by kernel_rfl

theorem caught_nil (a b c : Addr) (w : World) : Calls Tryd.prog 29 #[.nilIface, .pointer (some a), .pointer (some b), .pointer (some c)] w fun e w' => e = .returned (.tuple #[]) ∧ w' = w := by
  refine calls_of_fnT mixed Tryd.func29 (s := s29n) ?_
  rw [t29n]
  exact ⟨rfl, rfl⟩
theorem caught_any (n1 n2 n3 : Nat) (er at_ : Int) (w : World) (v1 v2 v3 v4 x y : Value) (t2 t3 : TypeId) (h12 : n1 ≠ n2) (h13 : n1 ≠ n3) (h23 : n2 ≠ n3) (b1 : Blk w n1 [v1, v2, v3, v4] 24) (b2 : Blk w n2 [x] t2) (b3 : Blk w n3 [y] t3) :
    Calls Tryd.prog 29 #[gu er at_, .pointer (some ⟨n1, 0, none⟩), .pointer (some ⟨n2, 0, none⟩), .pointer (some ⟨n3, 0, none⟩)] w fun e w' => e = .returned (.tuple #[]) ∧ Ch (fun b => b = n1 ∨ b = n2 ∨ b = n3) w w' ∧
      Blk w' n1 [.int .i64 0, .int .i64 0, .string (bytesL []), .slice none 0 0] 24 ∧ Blk w' n2 [.int .i64 at_] t2 ∧ Blk w' n3 [.int .i64 er] t3 := by
  unfold gu
  refine calls_of_fnT mixed Tryd.func29 (s := s29) ?_
  rw [t29]
  simp only [addr_add, Nat.zero_add]
  refine nw fun w1 h1 z1 c1 => ?_
  refine st_blk c1 (by simp) rfl fun w2 h2 z2 c2 => st_blk c2 (by simp) rfl fun w3 h3 z3 c3 => ?_
  have hl1 := b1.lt
  have hl2 := b2.lt
  have hl3 := b3.lt
  have h03 : Ch No w w3 := h1.then_ (h2.trans h3) (fun i hi (e : i = _) => by omega)
  refine cut_i mixed s29_2 (fun (v : Unit) w' => w' = w3) (by kernel_rfl) (fun g => ?_) ?_
  · rw [t29_2]
    exact ⟨rfl, (), rfl, rfl⟩
  rintro ⟨⟩ g w4 rfl
  have hd := (Ch.refl No w4).drew
  refine ⟨fun w' => Blk w' w.heap.size [.int .i64 er, .int .i64 at_] 79, c3.ch hd (fun h => h), ?_⟩
  replace c3 := c3.ch hd (fun h => h)
  replace b1 := (b1.ch h03 (fun h => h)).ch hd (fun h => h)
  replace b2 := (b2.ch h03 (fun h => h)).ch hd (fun h => h)
  replace b3 := (b3.ch h03 (fun h => h)).ch hd (fun h => h)
  replace h03 := h03.trans hd
  generalize w4.drew = w5 at *
  refine lh_int (x := at_) (fun w' h => h.cell 1) (lh_int (x := er) (fun w' h => h.cell 0) (eff_i ?_))
  refine st_blk b1 (by simp) rfl fun w6 h6 z6 b6 => st_blk b6 (by simp) rfl fun w7 h7 z7 b7 => st_blk b7 (by simp) rfl fun w8 h8 z8 b8 => st_blk b8 (by simp) rfl fun w9 h9 z9 b9 => ?_
  have h59 := h6.trans (h7.trans (h8.trans h9))
  have d2 := b2.ch h59 (fun e : n2 = n1 => h12 e.symm)
  have d3 := b3.ch h59 (fun e : n3 = n1 => h13 e.symm)
  have c9 := c3.ch h59 (fun e : w.heap.size = n1 => by omega)
  refine bk c9 (eff_i (st_blk d2 (by simp) rfl fun w10 h10 z10 d10 => bk (c9.ch h10 (fun e : w.heap.size = n2 => by omega)) (eff_i (st_blk (d3.ch h10 (fun e : n3 = n2 => h23 e.symm)) (by simp) rfl fun w11 h11 z11 d11 =>
    bk ((c9.ch h10 (fun e : w.heap.size = n2 => by omega)).ch h11 (fun e : w.heap.size = n3 => by omega)) ?_))))
  refine ⟨rfl, ?_, ?_, ?_, d11⟩
  · exact (h03.no.trans (h59.mono fun k h => .inl h)).trans ((h10.mono fun k h => .inr (.inl h)).trans (h11.mono fun k h => .inr (.inr h)))
  · exact (b9.ch h10 (fun e : n1 = n2 => h12 e)).ch h11 (fun e : n1 = n3 => h13 e)
  · exact d10.ch h11 (fun e : n2 = n3 => h23 e)
theorem clos33_pan (a b c : Addr) (er at_ : Int) (w : World) (Post : World → Prop) (h : Calls Tryd.prog 29 #[gu er at_, .pointer (some a), .pointer (some b), .pointer (some c)] w fun e w' => e = .returned (.tuple #[]) ∧ Post w') :
    CallsD Tryd.prog 33 #[.pointer (some a), .pointer (some b), .pointer (some c)] (.panicking (thrown er at_)) w fun e u' w' => e = .returned (.tuple #[]) ∧ u' = .panicking [{ v := gu er at_, recovered := true }] ∧ Post w' := by
  refine callsD_of_wpS Tryd.func33 rfl fun c₀ cs hu => ?_
  apply wpS_region
  simp [wpOpsS, go_sem, recoverD, hu, thrown, Tryd.ntmps33]
  refine h.mono fun e w' ⟨he, hp⟩ => ?_
  subst he
  exact ⟨rfl, _, rfl, .tuple #[], by simp [results, Tryd.results33], rfl, rfl, hp⟩
theorem clos33_idle (a b c : Addr) (w : World) : CallsD Tryd.prog 33 #[.pointer (some a), .pointer (some b), .pointer (some c)] .returning w fun e u' w' => e = .returned (.tuple #[]) ∧ u' = .returning ∧ w' = w := by
  refine callsD_of_wpS Tryd.func33 rfl fun c₀ cs hu => ?_
  apply wpS_region
  simp [wpOpsS, go_sem, recoverD, hu, Tryd.ntmps33]
  refine (caught_nil a b c w).mono fun e w' ⟨he, hw⟩ => ?_
  subst he hw
  exact ⟨rfl, .returning, by cases c₀; simp_all, .tuple #[], by simp [results, Tryd.results33], rfl, rfl, rfl⟩
theorem clos39_pan (a b c : Addr) (er at_ : Int) (w : World) (Post : World → Prop) (h : Calls Tryd.prog 29 #[gu er at_, .pointer (some a), .pointer (some b), .pointer (some c)] w fun e w' => e = .returned (.tuple #[]) ∧ Post w') :
    CallsD Tryd.prog 39 #[.pointer (some a), .pointer (some b), .pointer (some c)] (.panicking (thrown er at_)) w fun e u' w' => e = .returned (.tuple #[]) ∧ u' = .panicking [{ v := gu er at_, recovered := true }] ∧ Post w' := by
  refine callsD_of_wpS Tryd.func39 rfl fun c₀ cs hu => ?_
  apply wpS_region
  simp [wpOpsS, go_sem, recoverD, hu, thrown, Tryd.ntmps39]
  refine h.mono fun e w' ⟨he, hp⟩ => ?_
  subst he
  exact ⟨rfl, _, rfl, .tuple #[], by simp [results, Tryd.results39], rfl, rfl, hp⟩
theorem clos39_idle (a b c : Addr) (w : World) : CallsD Tryd.prog 39 #[.pointer (some a), .pointer (some b), .pointer (some c)] .returning w fun e u' w' => e = .returned (.tuple #[]) ∧ u' = .returning ∧ w' = w := by
  refine callsD_of_wpS Tryd.func39 rfl fun c₀ cs hu => ?_
  apply wpS_region
  simp [wpOpsS, go_sem, recoverD, hu, Tryd.ntmps39]
  refine (caught_nil a b c w).mono fun e w' ⟨he, hw⟩ => ?_
  subst he hw
  exact ⟨rfl, .returning, by cases c₀; simp_all, .tuple #[], by simp [results, Tryd.results39], rfl, rfl, rfl⟩
theorem clos28_pan (a b c : Addr) (er at_ : Int) (w : World) (Post : World → Prop) (h : Calls Tryd.prog 29 #[gu er at_, .pointer (some a), .pointer (some b), .pointer (some c)] w fun e w' => e = .returned (.tuple #[]) ∧ Post w') :
    CallsD Tryd.prog 28 #[.pointer (some a), .pointer (some b), .pointer (some c)] (.panicking (thrown er at_)) w fun e u' w' => e = .returned (.tuple #[]) ∧ u' = .panicking [{ v := gu er at_, recovered := true }] ∧ Post w' := by
  refine callsD_of_wpS Tryd.func28 rfl fun c₀ cs hu => ?_
  apply wpS_region
  simp [wpOpsS, go_sem, recoverD, hu, thrown, Tryd.ntmps28]
  refine h.mono fun e w' ⟨he, hp⟩ => ?_
  subst he
  exact ⟨rfl, _, rfl, .tuple #[], by simp [results, Tryd.results28], rfl, rfl, hp⟩
theorem clos28_idle (a b c : Addr) (w : World) : CallsD Tryd.prog 28 #[.pointer (some a), .pointer (some b), .pointer (some c)] .returning w fun e u' w' => e = .returned (.tuple #[]) ∧ u' = .returning ∧ w' = w := by
  refine callsD_of_wpS Tryd.func28 rfl fun c₀ cs hu => ?_
  apply wpS_region
  simp [wpOpsS, go_sem, recoverD, hu, Tryd.ntmps28]
  refine (caught_nil a b c w).mono fun e w' ⟨he, hw⟩ => ?_
  subst he hw
  exact ⟨rfl, .returning, by cases c₀; simp_all, .tuple #[], by simp [results, Tryd.results28], rfl, rfl, rfl⟩
/-! the tree of function 11 -/
def s11 : Script := .clp (.one (.agg [.int .i64, .int .i64, .str, .sl])) (.ld (.int .i64) (.ld (.int .i64) (.ld .str (.ld .sl (.ld (.int .i64) .nil))))) .nil
theorem t11 (qa0 : Option Addr) (qn0 : Nat) (qc0 : Nat) : defT Tryd.prog Tryd.f11 #[.slice qa0 qn0 qc0] s11 =
  .new (.cells #[.int .i64 0, .int .i64 0, .string (bytesL []), .slice none 0 0] 24 (0, 0)) (fun n1 =>
    .new (.cells #[.int .i64 0] 3 (0, 0)) (fun n2 =>
      .new (.cells #[.int .i64 0] 30 (0, 0)) (fun n3 =>
        .mark
          (.new (.cells #[.slice none 0 0, .int .i64 0, .int .i64 0] 62 (0, 0)) (fun n4 =>
            .store ⟨n4, 0, none⟩ (.slice qa0 qn0 qc0)
              (.store ⟨n4, 1, none⟩ (.int .i64 0)
                (.store ⟨n4, 2, none⟩ (.int .i64 0)
                  (.callp 34 #[.pointer (some ⟨n4, 0, none⟩), .int .i64 0] (.one (.agg [.int .i64, .int .i64, .str, .sl])) (fun r5 =>
                    .store ⟨n1, 0, none⟩ (.int .i64 r5.1)
                      (.store ⟨n1, 1, none⟩ (.int .i64 r5.2.1)
                        (.store ⟨n1, 2, none⟩ (.string r5.2.2.1)
                          (.store ⟨n1, 3, none⟩ (.slice r5.2.2.2.1.1 r5.2.2.2.1.2.1 r5.2.2.2.1.2.2)
                            (.load ⟨n1, 0, none⟩ (.int .i64) (fun x6 =>
                              .load ⟨n1, 1, none⟩ (.int .i64) (fun x7 =>
                                .load ⟨n1, 2, none⟩ .str (fun s8 =>
                                  .load ⟨n1, 3, none⟩ .sl (fun l9 =>
                                    .load ⟨n4, 1, none⟩ (.int .i64) (fun x10 =>
                                      .store ⟨n1, 0, none⟩ (.int .i64 x6)
                                        (.store ⟨n1, 1, none⟩ (.int .i64 x7)
                                          (.store ⟨n1, 2, none⟩ (.string s8)
                                            (.store ⟨n1, 3, none⟩ (.slice l9.1 l9.2.1 l9.2.2)
                                              (.store ⟨n2, 0, none⟩ (.int .i64 x10)
                                                (.store ⟨n3, 0, none⟩ (.int .i64 0)
                                                  (.fin .ret [(0, .func (.func 33) #[] #[.pointer (some ⟨n1, 0, none⟩), .pointer (some ⟨n2, 0, none⟩), .pointer (some ⟨n3, 0, none⟩)]), (1, .agg #[]), (2, .agg #[.slice qa0 qn0 qc0, undef, .pointer (some ⟨n1, 0, none⟩), .pointer (some ⟨n2, 0, none⟩), .pointer (some ⟨n3, 0, none⟩), .pointer (some ⟨n4, 0, none⟩), .func (.func 33) #[] #[.pointer (some ⟨n1, 0, none⟩), .pointer (some ⟨n2, 0, none⟩), .pointer (some ⟨n3, 0, none⟩)], .slice qa0 qn0 qc0, .agg #[.slice qa0 qn0 qc0, .int .i64 0, .int .i64 0], .agg #[.int .i64 r5.1, .int .i64 r5.2.1, .string r5.2.2.1, .slice r5.2.2.2.1.1 r5.2.2.2.1.2.1 r5.2.2.2.1.2.2], .agg #[.int .i64 x6, .int .i64 x7, .string s8, .slice l9.1 l9.2.1 l9.2.2], .pointer (some ⟨n4, 1, none⟩), .int .i64 x10])])))))))))))))))) (fun ch11 =>
                    .fin (.panic ch11) [(0, .func (.func 33) #[] #[.pointer (some ⟨n1, 0, none⟩), .pointer (some ⟨n2, 0, none⟩), .pointer (some ⟨n3, 0, none⟩)]), (1, .agg #[]), (2, .agg #[.slice qa0 qn0 qc0, undef, .pointer (some ⟨n1, 0, none⟩), .pointer (some ⟨n2, 0, none⟩), .pointer (some ⟨n3, 0, none⟩), .pointer (some ⟨n4, 0, none⟩), .func (.func 33) #[] #[.pointer (some ⟨n1, 0, none⟩), .pointer (some ⟨n2, 0, none⟩), .pointer (some ⟨n3, 0, none⟩)], .slice qa0 qn0 qc0, .agg #[.slice qa0 qn0 qc0, .int .i64 0, .int .i64 0], undef, undef, undef, undef])]))))))))) := by kernel_rfl

/-- What Decode answers, of a list of bytes. -/
def DecodeR (w : World) (bs : List UInt8) (e : Ending) (w' : World) : Prop :=
  Ch No w w' ∧ match decodeM bs with
    | .error er => e = .returned (.tuple #[valV noneV none 0 0, .int .i64 0, .int .i64 er])
    | .ok (x, l', _) => ∃ q n d, e = .returned (.tuple #[valV x q n d, .int .i64 ((bs.length - l'.length : Nat) : Int), .int .i64 0]) ∧ IsV w' x q n d
theorem res11 (n1 n2 n3 : Nat) (tm : Array Value) (h2 : tm[2]? = some (.pointer (some ⟨n1, 0, none⟩))) (h3 : tm[3]? = some (.pointer (some ⟨n2, 0, none⟩))) (h4 : tm[4]? = some (.pointer (some ⟨n3, 0, none⟩))) (w : World) (x : VT) (p : Option Addr) (m c : Nat) (a b : Int)
    (b1 : Blk w n1 (cellsV x p m c) 24) (b2 : Blk w n2 [.int .i64 a] 3) (b3 : Blk w n3 [.int .i64 b] 30) : (results Tryd.f11 tm).run Tryd.prog w = .ok (.tuple #[valV x p m c, .int .i64 a, .int .i64 b]) w := by
  have c0 : w.cell? ⟨n1, 0, none⟩ = some (.int .i64 x.kind) := b1.cell 0
  have c1 : w.cell? ⟨n1, 1, none⟩ = some (.int .i64 x.int) := b1.cell 1
  have c2 : w.cell? ⟨n1, 2, none⟩ = some (.string x.text) := b1.cell 2
  have c3 : w.cell? ⟨n1, 3, none⟩ = some (.slice p m c) := b1.cell 3
  have d0 : w.cell? ⟨n2, 0, none⟩ = some (.int .i64 a) := b2.cell 0
  have e0 : w.cell? ⟨n3, 0, none⟩ = some (.int .i64 b) := b3.cell 0
  simp [results, Tryd.results11, go_sem, h2, h3, h4, c0, c1, c2, c3, d0, e0, valV]
theorem res19 (n1 n2 n3 : Nat) (tm : Array Value) (h2 : tm[2]? = some (.pointer (some ⟨n1, 0, none⟩))) (h3 : tm[3]? = some (.pointer (some ⟨n2, 0, none⟩))) (h4 : tm[4]? = some (.pointer (some ⟨n3, 0, none⟩))) (w : World) (x : VT) (p : Option Addr) (m c : Nat) (a b : Int)
    (b1 : Blk w n1 (cellsV x p m c) 24) (b2 : Blk w n2 [.int .i64 a] 3) (b3 : Blk w n3 [.int .i64 b] 30) : (results Tryd.f19 tm).run Tryd.prog w = .ok (.tuple #[valV x p m c, .int .i64 a, .int .i64 b]) w := by
  have c0 : w.cell? ⟨n1, 0, none⟩ = some (.int .i64 x.kind) := b1.cell 0
  have c1 : w.cell? ⟨n1, 1, none⟩ = some (.int .i64 x.int) := b1.cell 1
  have c2 : w.cell? ⟨n1, 2, none⟩ = some (.string x.text) := b1.cell 2
  have c3 : w.cell? ⟨n1, 3, none⟩ = some (.slice p m c) := b1.cell 3
  have d0 : w.cell? ⟨n2, 0, none⟩ = some (.int .i64 a) := b2.cell 0
  have e0 : w.cell? ⟨n3, 0, none⟩ = some (.int .i64 b) := b3.cell 0
  simp [results, Tryd.results19, go_sem, h2, h3, h4, c0, c1, c2, c3, d0, e0, valV]
theorem res10 (n1 n2 n3 : Nat) (tm : Array Value) (h2 : tm[2]? = some (.pointer (some ⟨n1, 0, none⟩))) (h3 : tm[3]? = some (.pointer (some ⟨n2, 0, none⟩))) (h4 : tm[4]? = some (.pointer (some ⟨n3, 0, none⟩))) (w : World) (x : VT) (p : Option Addr) (m c : Nat) (a b : Int)
    (b1 : Blk w n1 (cellsV x p m c) 24) (b2 : Blk w n2 [.int .i64 a] 3) (b3 : Blk w n3 [.int .i64 b] 30) : (results Tryd.f10 tm).run Tryd.prog w = .ok (.tuple #[valV x p m c, .int .i64 a, .int .i64 b]) w := by
  have c0 : w.cell? ⟨n1, 0, none⟩ = some (.int .i64 x.kind) := b1.cell 0
  have c1 : w.cell? ⟨n1, 1, none⟩ = some (.int .i64 x.int) := b1.cell 1
  have c2 : w.cell? ⟨n1, 2, none⟩ = some (.string x.text) := b1.cell 2
  have c3 : w.cell? ⟨n1, 3, none⟩ = some (.slice p m c) := b1.cell 3
  have d0 : w.cell? ⟨n2, 0, none⟩ = some (.int .i64 a) := b2.cell 0
  have e0 : w.cell? ⟨n3, 0, none⟩ = some (.int .i64 b) := b3.cell 0
  simp [results, Tryd.results10, go_sem, h2, h3, h4, c0, c1, c2, c3, d0, e0, valV]
theorem decode_any (w : World) (p : Option Addr) (n c : Nat) (bs : List UInt8) (h : AtB w p n bs) (hnc : n ≤ c) (hc : c ≤ 9223372036854775807) : Calls Tryd.prog 11 #[.slice p n c] w (DecodeR w bs) := by
  refine calls_of_defT mixed Tryd.func11 (s := s11) ?_
  rw [t11]
  refine nw fun w1 h1 z1 b1 => nw fun w2 h2 z2 b2 => nw fun w3 h3 z3 b3 => ?_
  show wpT _ _ _ _ .pl w3
  refine nw fun w4 h4 z4 b4 => st_blk b4 (by simp) rfl fun w5 h5 z5 b5 => st_blk b5 (by simp) rfl fun w6 h6 z6 b6 => st_blk b6 (by simp) rfl fun w7 h7 z7 b7 => ?_
  have h03 : Ch No w w3 := h1.trans (h2.trans h3)
  have h47 := h5.trans (h6.trans h7)
  have h07 : Ch No w w7 := (h03.trans h4).then_ h47 (fun i hi (e : i = w3.heap.size) => by omega)
  have B1 := (((b1.ch h2 (fun h => h)).ch h3 (fun h => h)).ch h4 (fun h => h)).ch h47 (fun e : w.heap.size = w3.heap.size => by omega)
  have B2 := ((b2.ch h3 (fun h => h)).ch h4 (fun h => h)).ch h47 (fun e : w1.heap.size = w3.heap.size => by omega)
  have B3 := (b3.ch h4 (fun h => h)).ch h47 (fun e : w2.heap.size = w3.heap.size => by omega)
  generalize hn1 : w.heap.size = n1 at *
  generalize hn2 : w1.heap.size = n2 at *
  generalize hn3 : w2.heap.size = n3 at *
  generalize hn4 : w3.heap.size = n4 at *
  have D : DecS w7 n4 p n c bs 0 0 := ⟨b7, h.no h07, fun ad e hn => by
    obtain ⟨ad', e', hj⟩ := h.2 hn
    rw [e] at e'
    cases e'
    have hb : 0 < bs.length := by rw [h.1]; exact hn
    have := World.block_lt_of_cell? w _ (hj 0 _ (List.getElem?_eq_getElem hb))
    rw [add_block] at this
    omega, by omega, hnc, hc⟩
  have tm2 : ∀ (l : List Value), (#[Value.slice p n c, undef, .pointer (some ⟨n1, 0, none⟩), .pointer (some ⟨n2, 0, none⟩), .pointer (some ⟨n3, 0, none⟩)] ++ l.toArray)[2]? = some (.pointer (some ⟨n1, 0, none⟩)) := fun l => by simp
  refine cp_i (value_any n4 p n c bs 4 0 (by omega) (by omega) (by decide) w7 0 0 D (by omega) (by omega)) ?_
  rintro e w8 ⟨h8, hr⟩
  rw [List.drop_zero] at hr
  have C1 := B1.ch h8 (fun e : n1 = n4 => by omega)
  have C2 := B2.ch h8 (fun e : n2 = n4 => by omega)
  have C3 := B3.ch h8 (fun e : n3 = n4 => by omega)
  have H8 : Ch No w w8 := h07.then_ h8 (fun i hi (e : i = n4) => by omega)
  cases hx : decV 4 0 bs 0 with
  | error er =>
    rw [hx] at hr
    refine .inr ⟨_, hr, ?_⟩
    refine ⟨_, _, _, _, rfl, ?_⟩
    dsimp only
    refine leaves_cons (f := 33) (args := #[.pointer (some ⟨n1, 0, none⟩), .pointer (some ⟨n2, 0, none⟩), .pointer (some ⟨n3, 0, none⟩)]) (by simp) (by simp [go_sem]) ?_
    refine (clos33_pan _ _ _ er 0 w8 _ (caught_any n1 n2 n3 er 0 w8 _ _ _ _ _ _ _ _ (by omega) (by omega) (by omega) C1 C2 C3)).mono ?_
    rintro e u' w9 ⟨rfl, rfl, h9, c1, c2, c3⟩
    show Leaves _ _ _ _ _ (settle _) _
    refine ⟨_, res11 n1 n2 n3 _ rfl rfl rfl w9 noneV none 0 0 0 er c1 c2 c3, H8.then_ h9 (fun i hi h => by omega), ?_⟩
    unfold decodeM
    rw [hx]
  | ok y =>
    obtain ⟨x, l1, n'⟩ := y
    rw [hx] at hr
    obtain ⟨q, m, d, i', rfl, hI, D8, hl⟩ := hr
    refine .inl ⟨(x.kind, x.int, x.text, (q, m, d), ()), rfl, ?_⟩
    refine st_blk C1 (by simp) rfl fun w9 h9 z9 d9 => st_blk d9 (by simp) rfl fun w10 h10 z10 d10 => st_blk d10 (by simp) rfl fun w11 h11 z11 d11 => st_blk d11 (by simp) rfl fun w12 h12 z12 d12 => ?_
    have h912 := h9.trans (h10.trans (h11.trans h12))
    have D12 := D8.no (w' := w8) (Ch.refl _ _)
    have e12 := D8.blk.ch h912 (fun e : n4 = n1 => by omega)
    refine ld_int (d12.cell 0) (ld_int (d12.cell 1) (ld_str (d12.cell 2) (ld_sl (d12.cell 3) (ld_int (e12.cell 1) ?_))))
    refine st_blk d12 (by simp) rfl fun w13 h13 z13 d13 => st_blk d13 (by simp) rfl fun w14 h14 z14 d14 => st_blk d14 (by simp) rfl fun w15 h15 z15 d15 => st_blk d15 (by simp) rfl fun w16 h16 z16 d16 => ?_
    have h916 := h912.trans (h13.trans (h14.trans (h15.trans h16)))
    refine st_blk (C2.ch h916 (fun e : n2 = n1 => by omega)) (by simp) rfl fun w17 h17 z17 d17 => ?_
    refine st_blk ((C3.ch h916 (fun e : n3 = n1 => by omega)).ch h17 (fun e : n3 = n2 => by omega)) (by simp) rfl fun w18 h18 z18 d18 => ?_
    have H18 : Ch No w w18 := H8.then_ ((h916.mono (S' := fun k => k = n1 ∨ k = n2 ∨ k = n3) fun k h => .inl h).trans ((h17.mono fun k h => .inr (.inl h)).trans (h18.mono fun k h => .inr (.inr h)))) (fun i hi h => by omega)
    have HI : IsV w18 x q m d := (((hI.ch h916 (fun k hk (e : k = n1) => by have := hk.1; have := h07.size; omega)).ch h17 (fun k hk (e : k = n2) => by have := hk.1; have := h07.size; omega)).ch h18 (fun k hk (e : k = n3) => by have := hk.1; have := h07.size; omega)).is
    refine ⟨_, _, _, _, rfl, ?_⟩
    dsimp only
    refine leaves_cons (f := 33) (args := #[.pointer (some ⟨n1, 0, none⟩), .pointer (some ⟨n2, 0, none⟩), .pointer (some ⟨n3, 0, none⟩)]) (by simp) (by simp [go_sem]) ?_
    refine (clos33_idle _ _ _ w18).mono ?_
    rintro e u' w19 ⟨rfl, rfl, rfl⟩
    show Leaves _ _ _ _ _ (settle _) _
    have F1 : Blk w19 n1 (cellsV x q m d) 24 := (d16.ch h17 (fun e : n1 = n2 => by omega)).ch h18 (fun e : n1 = n3 => by omega)
    have F2 : Blk w19 n2 [.int .i64 (i' : Int)] 3 := d17.ch h18 (fun e : n2 = n3 => by omega)
    refine ⟨_, res11 n1 n2 n3 _ rfl rfl rfl w19 x q m d i' 0 F1 F2 d18, H18, ?_⟩
    unfold decodeM
    rw [hx]
    refine ⟨q, m, d, ?_, HI⟩
    have h1 := D8.le
    have h2 := D8.len
    rw [hl, List.length_drop, show bs.length - (bs.length - i') = i' by omega]
end Go.Proofs.YtjellmblammiaaaDoor
