/- The document's answer: finish. -/
import Derived.Test.YtjlmkahagcojcaaGreatDoorRga
namespace Go.Proofs.YtjlmkahagcojcaaGreatDoor
open Go Tr
set_option maxRecDepth 100000
/-! the tree of function 27 -/
abbrev fx27_15 (qa0 : Option Addr) (qn0 : Nat) (qc0 : Nat) (n1 : Nat) (n14 : Nat) : List (Tmp × Value) := [(0, .slice (if qc0 = 0 then qa0 else Option.map (fun q ↦ q.add (0 * 4)) qa0) ((IntKind.i64.wrap ((↑qn0 : Int) - 1)).toNat - 0) (qc0 - 0)), (3, .pointer (some ⟨n1, 0, none⟩)), (7, .pointer (some ⟨n14, 0, none⟩)), (8, .int .i64 (IntKind.i64.wrap ((↑((IntKind.i64.wrap ((↑qn0 : Int) - 1)).toNat - 0) : Int) - 1)))]
abbrev mx27_15 : List (Tmp × Comp) := [(52, .leaf .bool)]
def s27_15 : Script := .qt (.ix (.ld .sl (.ld (.int .i64) (.ld .sl .nil))))
theorem t27_15 (qa0 : Option Addr) (qn0 : Nat) (qc0 : Nat) (n1 : Nat) (n14 : Nat) (gg15 : Nat → Value) : pieceT Tryz.prog (at_ Tryz.f27 [1, 1, 1, 1, 1, 1, 0, 0]) 100 (fx27_15 qa0 qn0 qc0 n1 n14) gg15 (mx27_15.map (·.1)) [] [] s27_15 =
  .drawn
    (.idx (if qc0 = 0 then qa0 else Option.map (fun q ↦ q.add (0 * 4)) qa0) (IntKind.i64.wrap ((↑((IntKind.i64.wrap ((↑qn0 : Int) - 1)).toNat - 0) : Int) - 1)) ((IntKind.i64.wrap ((↑qn0 : Int) - 1)).toNat - 0) 4 (fun a16 =>
      .load (a16.add 3) .sl (fun l17 =>
        .load ⟨n14, 0, none⟩ (.int .i64) (fun x18 =>
          .load ⟨n14, 3, none⟩ .sl (fun l19 =>
            .undrawn
              (.fin .normal [(52, .bool (Decidable.decide (IntKind.i64.wrap ((↑l17.snd.fst : Int) + IntKind.i64.wrap (x18 * (↑l19.snd.fst : Int))) > 2000)))])))))) := by kernel_rfl
abbrev fx27_24 (qa0 : Option Addr) (qn0 : Nat) (qc0 : Nat) (n14 : Nat) (g20 : Nat → Value) : List (Tmp × Value) := [(0, .slice (if qc0 = 0 then qa0 else Option.map (fun q ↦ q.add (0 * 4)) qa0) ((IntKind.i64.wrap ((↑qn0 : Int) - 1)).toNat - 0) (qc0 - 0)), (4, g20 4), (5, g20 5), (6, g20 6), (7, .pointer (some ⟨n14, 0, none⟩)), (8, .int .i64 (IntKind.i64.wrap ((↑((IntKind.i64.wrap ((↑qn0 : Int) - 1)).toNat - 0) : Int) - 1)))]
abbrev m27_24 : List (Tmp × Comp) := []
abbrev mx27_24 : List (Tmp × Comp) := []
abbrev mr27_24 : List (Tmp × Comp) := []
abbrev fx27_25 (qa0 : Option Addr) (qn0 : Nat) (qc0 : Nat) (n14 : Nat) : List (Tmp × Value) := [(0, .slice (if qc0 = 0 then qa0 else Option.map (fun q ↦ q.add (0 * 4)) qa0) ((IntKind.i64.wrap ((↑qn0 : Int) - 1)).toNat - 0) (qc0 - 0)), (7, .pointer (some ⟨n14, 0, none⟩)), (8, .int .i64 (IntKind.i64.wrap ((↑((IntKind.i64.wrap ((↑qn0 : Int) - 1)).toNat - 0) : Int) - 1)))]
abbrev mx27_25 : List (Tmp × Comp) := [(64, .leaf .bool)]
def s27_25 : Script := .ld .sl (.sym (.lit (.ld (.int .i64) (.lit (.lit .nil)))) (.lit (.lit (.lit .nil))))
theorem t27_25 (qa0 : Option Addr) (qn0 : Nat) (qc0 : Nat) (n14 : Nat) (gg25 : Nat → Value) : pieceT Tryz.prog (at_ Tryz.f27 [1, 1, 1, 1, 1, 1, 1, 0, 0, 0, 0, 0]) 100 (fx27_25 qa0 qn0 qc0 n14) gg25 (mx27_25.map (·.1)) [] [] s27_25 =
  .load ⟨n14, 3, none⟩ .sl (fun l26 =>
    .br (Decidable.decide ((↑l26.snd.fst : Int) > 0))
      (.load ⟨n14, 0, none⟩ (.int .i64) (fun x27 =>
        .fin .normal [(64, .bool (Decidable.decide (x27 > 0)))]))
      (.fin .normal [(64, .bool false)])) := by kernel_rfl
abbrev fx27_30 (qa0 : Option Addr) (qn0 : Nat) (qc0 : Nat) (n14 : Nat) (g28 : Nat → Value) : List (Tmp × Value) := [(0, .slice (if qc0 = 0 then qa0 else Option.map (fun q ↦ q.add (0 * 4)) qa0) ((IntKind.i64.wrap ((↑qn0 : Int) - 1)).toNat - 0) (qc0 - 0)), (4, g28 4), (5, g28 5), (6, g28 6), (7, .pointer (some ⟨n14, 0, none⟩)), (8, .int .i64 (IntKind.i64.wrap ((↑((IntKind.i64.wrap ((↑qn0 : Int) - 1)).toNat - 0) : Int) - 1)))]
abbrev m27_30 : List (Tmp × Comp) := [(9, .leaf (.int .i64))]
abbrev mx27_30 : List (Tmp × Comp) := []
abbrev mr27_30 : List (Tmp × Comp) := []
def s27_30 : Script := .ld .sl (.sym (.ld .sl (.ix (.ld (.int .i64) (.ld (.int .i64) (.ld (.int .i64) (.ld .sl (.ld .sl (.rn (.one (.leaf .sl)) (.hd0 (.hq 0 (.hq 1 (.hq 2 (.hq 3 (.hq 4 (.ix (.hq 5 (.hq 7 (.ld (.int .i64) (.ld (.int .i64) (.ld (.int .i64) (.ld .sl (.hl 6 (.ld .sl (.he 8 (.he 9 (.rn (.one (.leaf .sl)) (.hq 10 (.ix (.hq 11 (.he 12 .nil)))))))) (.hl 8 (.he 6 (.ld .sl (.he 9 (.rn (.one (.leaf .sl)) (.hq 10 (.ix (.hq 11 (.he 12 .nil)))))))) .nil))))))))))))))))))))))) .nil)
theorem t27_30 (qa0 : Option Addr) (qn0 : Nat) (qc0 : Nat) (n14 : Nat) (g28 : Nat → Value) (x_9 : Int) (gg30 : Nat → Value) : pieceT Tryz.prog (at_ Tryz.f27 [1, 1, 1, 1, 1, 1, 1, 0, 0, 0, 1, 0, 1, 1, 0, 0]) 100 (fx27_30 qa0 qn0 qc0 n14 g28 ++ mvals m27_30 (x_9, ())) gg30 (m27_30.map (·.1)) (mx27_30.map (·.1)) (mr27_30.map (·.1)) s27_30 =
  .load ⟨n14, 3, none⟩ .sl (fun l31 =>
    .br (Decidable.decide (x_9 < (↑l31.snd.fst : Int)))
      (.load ⟨n14, 3, none⟩ .sl (fun l32 =>
        .idx l32.1 x_9 l32.2.1 4 (fun a33 =>
          .load a33 (.int .i64) (fun x34 =>
            .load (a33.add 1) (.int .i64) (fun x35 =>
              .load (a33.add 2) (.int .i64) (fun x36 =>
                .load (a33.add 3) .sl (fun l37 =>
                  .new (.cells #[.int .i64 0, .int .i64 0, .int .i64 0, .slice none 0 0] 38 (0, 0)) (fun n38 =>
                    .store ⟨n38, 0, none⟩ (.int .i64 x34)
                      (.store ⟨n38, 1, none⟩ (.int .i64 x35)
                        (.store ⟨n38, 2, none⟩ (.int .i64 x36)
                          (.store ⟨n38, 3, none⟩ (.slice l37.1 l37.2.1 l37.2.2)
                            (.load ⟨n38, 3, none⟩ .sl (fun l39 =>
                              .run (builtin .append #[36, 36] 36 #[false, false] #[.slice none 0 0, .slice l39.1 l39.2.1 l39.2.2]) (.one (.leaf .sl)) (fun l40 =>
                                .store ⟨n38, 3, none⟩ (.slice l40.1 l40.2.1 l40.2.2)
                                  (.hdrawn
                                    (.idx (if qc0 = 0 then qa0 else Option.map (fun q ↦ q.add (0 * 4)) qa0) (IntKind.i64.wrap ((↑((IntKind.i64.wrap ((↑qn0 : Int) - 1)).toNat - 0) : Int) - 1)) ((IntKind.i64.wrap ((↑qn0 : Int) - 1)).toNat - 0) 4 (fun a41 =>
                                      .load ⟨n38, 0, none⟩ (.int .i64) (fun x42 =>
                                        .load ⟨n38, 1, none⟩ (.int .i64) (fun x43 =>
                                          .load ⟨n38, 2, none⟩ (.int .i64) (fun x44 =>
                                            .load ⟨n38, 3, none⟩ .sl (fun l45 =>
                                              .both
                                                (.eff
                                                  (.load (a41.add 3) .sl (fun l46 =>
                                                    .back
                                                      (.eff
                                                        (.new (.cells #[.int .i64 x42, .int .i64 x43, .int .i64 x44, .slice l45.1 l45.2.1 l45.2.2] 38 (0, 0)) (fun n47 =>
                                                          .back
                                                            (.eff
                                                              (.run (builtin .append #[22, 22] 22 #[false, false] #[.slice l46.1 l46.2.1 l46.2.2, .slice (some ⟨n47, 0, none⟩) 1 1]) (.one (.leaf .sl)) (fun l48 =>
                                                                .back
                                                                  (.idx (if qc0 = 0 then qa0 else Option.map (fun q ↦ q.add (0 * 4)) qa0) (IntKind.i64.wrap ((↑((IntKind.i64.wrap ((↑qn0 : Int) - 1)).toNat - 0) : Int) - 1)) ((IntKind.i64.wrap ((↑qn0 : Int) - 1)).toNat - 0) 4 (fun a49 =>
                                                                    .eff
                                                                      (.store (a49.add 3) (.slice l48.1 l48.2.1 l48.2.2)
                                                                        (.back
                                                                          (.undrawn
                                                                            (.fin .normal [(9, .int .i64 (IntKind.i64.wrap (x_9 + 1)))])))))))))))))))
                                                (.both
                                                  (.eff
                                                    (.new (.cells #[.int .i64 x42, .int .i64 x43, .int .i64 x44, .slice l45.1 l45.2.1 l45.2.2] 38 (0, 0)) (fun n50 =>
                                                      .back
                                                        (.eff
                                                          (.load (a41.add 3) .sl (fun l51 =>
                                                            .back
                                                              (.eff
                                                                (.run (builtin .append #[22, 22] 22 #[false, false] #[.slice l51.1 l51.2.1 l51.2.2, .slice (some ⟨n50, 0, none⟩) 1 1]) (.one (.leaf .sl)) (fun l52 =>
                                                                  .back
                                                                    (.idx (if qc0 = 0 then qa0 else Option.map (fun q ↦ q.add (0 * 4)) qa0) (IntKind.i64.wrap ((↑((IntKind.i64.wrap ((↑qn0 : Int) - 1)).toNat - 0) : Int) - 1)) ((IntKind.i64.wrap ((↑qn0 : Int) - 1)).toNat - 0) 4 (fun a53 =>
                                                                      .eff
                                                                        (.store (a53.add 3) (.slice l52.1 l52.2.1 l52.2.2)
                                                                          (.back
                                                                            (.undrawn
                                                                              (.fin .normal [(9, .int .i64 (IntKind.i64.wrap (x_9 + 1)))])))))))))))))))
                                                  (.triv)))))))))))))))))))))))
      (.fin (.exit 2) [])) := by kernel_rfl
def s27_24 : Script := .ct 1 [0, 7, 8] mx27_25 (.sym (.ld (.int .i64) (.lp 2 [0, 4, 5, 6, 7, 8] [9] mx27_30 mr27_30 .nil .nil)) .nil)
theorem t27_24 (qa0 : Option Addr) (qn0 : Nat) (qc0 : Nat) (n14 : Nat) (g20 : Nat → Value) (gg24 : Nat → Value) : pieceT Tryz.prog (at_ Tryz.f27 [1, 1, 1, 1, 1, 1, 1, 0, 0, 0]) 100 (fx27_24 qa0 qn0 qc0 n14 g20 ++ mvals m27_24 (())) gg24 (m27_24.map (·.1)) (mx27_24.map (·.1)) (mr27_24.map (·.1)) s27_24 =
  .cut (at_ Tryz.f27 [1, 1, 1, 1, 1, 1, 1, 0, 0, 0, 0, 0]) 100 (fx27_25 qa0 qn0 qc0 n14) mx27_25 (fun u28 g28 =>
    .br u28.1
      (.load ⟨n14, 0, none⟩ (.int .i64) (fun x29 =>
        .store ⟨n14, 0, none⟩ (.int .i64 (IntKind.i64.wrap (x29 - 1)))
          (.loop (at_ Tryz.f27 [1, 1, 1, 1, 1, 1, 1, 0, 0, 0, 1, 0, 1, 1, 0, 0]) 100 (fx27_30 qa0 qn0 qc0 n14 g28) [(9, .int .i64 0)] mx27_30 mr27_30 2 (fun u54 g54 =>
            .fin .normal []) (fun u55 g55 =>
            .stuck))))
      (.fin (.exit 0) [])) := by kernel_rfl
def s27 : Script := .sym (.ld .str (.ld .sl (.cl (.one (.leaf (.int .i64))) .nil))) (.ld .sl (.sym (.ld .str (.ld .sl (.cl (.one (.leaf (.int .i64))) .nil))) (.ix (.ld (.int .i64) (.ld (.int .i64) (.ld (.int .i64) (.ld .sl (.nop (.nop (.nop (.nop (.nop (.nop (.nd (.ct 2 [0, 3, 7, 8] mx27_15 (.sym (.ld .str (.ld .sl (.cl (.one (.leaf (.int .i64))) .nil))) (.lp 0 [0, 4, 5, 6, 7, 8] [] mx27_24 mr27_24 .nil .nil)))))))))))))))))
theorem t27 (qa0 : Option Addr) (qn0 : Nat) (qc0 : Nat) (qs1_0 : ByteArray) (qa1_1 : Option Addr) (qn1_1 : Nat) (qc1_1 : Nat) : fnT Tryz.prog Tryz.f27 #[.slice qa0 qn0 qc0, .agg #[.string qs1_0, .slice qa1_1 qn1_1 qc1_1]] s27 =
  .new (.cells #[.string qs1_0, .slice qa1_1 qn1_1 qc1_1] 77 (0, 0)) (fun n1 =>
    .br (Decidable.decide ((↑qn0 : Int) < 2))
      (.load ⟨n1, 0, none⟩ .str (fun s2 =>
        .load ⟨n1, 1, none⟩ .sl (fun l3 =>
          .call 29 #[.agg #[.string s2, .slice l3.1 l3.2.1 l3.2.2], .int .i64 0] (.one (.leaf (.int .i64))) (fun x4 =>
            .done (.returned (.tuple #[.slice qa0 qn0 qc0, .int .i64 x4, .int .i64 66]))))))
      (.load ⟨n1, 1, none⟩ .sl (fun l5 =>
        .br (Decidable.decide ((↑l5.snd.fst : Int) > 1))
          (.load ⟨n1, 0, none⟩ .str (fun s6 =>
            .load ⟨n1, 1, none⟩ .sl (fun l7 =>
              .call 29 #[.agg #[.string s6, .slice l7.1 l7.2.1 l7.2.2], .int .i64 1] (.one (.leaf (.int .i64))) (fun x8 =>
                .done (.returned (.tuple #[.slice qa0 qn0 qc0, .int .i64 x8, .int .i64 61]))))))
          (.idx qa0 (IntKind.i64.wrap ((↑qn0 : Int) - 1)) qn0 4 (fun a9 =>
            .load a9 (.int .i64) (fun x10 =>
              .load (a9.add 1) (.int .i64) (fun x11 =>
                .load (a9.add 2) (.int .i64) (fun x12 =>
                  .load (a9.add 3) .sl (fun l13 =>
                    .new (.cells #[.int .i64 0, .int .i64 0, .int .i64 0, .slice none 0 0] 73 (0, 0)) (fun n14 =>
                      .store ⟨n14, 0, none⟩ (.int .i64 x10)
                        (.store ⟨n14, 1, none⟩ (.int .i64 x11)
                          (.store ⟨n14, 2, none⟩ (.int .i64 x12)
                            (.store ⟨n14, 3, none⟩ (.slice l13.1 l13.2.1 l13.2.2)
                              (.need (Decidable.decide (Int.ofNat 0 ≤ 0 ∧ 0 ≤ IntKind.i64.wrap ((↑qn0 : Int) - 1) ∧ IntKind.i64.wrap ((↑qn0 : Int) - 1) ≤ (↑qc0 : Int)))
                                (.cut (at_ Tryz.f27 [1, 1, 1, 1, 1, 1, 0, 0]) 100 (fx27_15 qa0 qn0 qc0 n1 n14) mx27_15 (fun u20 g20 =>
                                  .br u20.1
                                    (.load ⟨n1, 0, none⟩ .str (fun s21 =>
                                      .load ⟨n1, 1, none⟩ .sl (fun l22 =>
                                        .call 29 #[.agg #[.string s21, .slice l22.1 l22.2.1 l22.2.2], .int .i64 0] (.one (.leaf (.int .i64))) (fun x23 =>
                                          .done (.returned (.tuple #[.slice (if qc0 = 0 then qa0 else Option.map (fun q ↦ q.add (0 * 4)) qa0) ((IntKind.i64.wrap ((↑qn0 : Int) - 1)).toNat - 0) (qc0 - 0), .int .i64 x23, .int .i64 65]))))))
                                    (.loop (at_ Tryz.f27 [1, 1, 1, 1, 1, 1, 1, 0, 0, 0]) 100 (fx27_24 qa0 qn0 qc0 n14 g20) [] mx27_24 mr27_24 0 (fun u56 g56 =>
                                      .done (.returned (.tuple #[.slice (if qc0 = 0 then qa0 else Option.map (fun q ↦ q.add (0 * 4)) qa0) ((IntKind.i64.wrap ((↑qn0 : Int) - 1)).toNat - 0) (qc0 - 0), .int .i64 0, .int .i64 0]))) (fun u57 g57 =>
                                      .stuck)))))))))))))))))) := by kernel_rfl

/-- A row of ints put behind nothing. -/
theorem ap_none {R : Ending → World → Prop} {Q : Exit → List (Tmp × Value) → World → Prop} {w : World} {k : Option Addr × Nat × Nat → T} {base : Nat} {p : Option Addr} {n c : Nat} {l : List Int} (hr : Row w base tInt 1 p n c (intCells l)) (hn : n ≤ 100000)
    (h : ∀ q' c' w', Ch No w w' → Row w' w.heap.size tInt 1 q' n c' (intCells l) → wpT Tryz.prog R Q (k (q', n, c')) .pl w') :
    wpT Tryz.prog R Q (.run (builtin .append #[tInts, tInts] tInts #[false, false] #[.slice none 0 0, .slice p n c]) (.one (.leaf .sl)) k) .pl w := by
  have hlen := hr.len
  cases p with
  | none =>
    have h0 : n = 0 ∧ c = 0 := by
      rcases hr.2 with ⟨h', _⟩ | ⟨g', cap, cur, h', _⟩
      · simp only [Value.slice.injEq, true_and] at h'
        exact h'
      · simp only [Value.slice.injEq] at h'
        cases h'.1
    obtain ⟨rfl, rfl⟩ := h0
    have hl : intCells l = [] := List.eq_nil_of_length_eq_zero (by omega)
    cases hi : Tryz.prog.info? tInt with
    | none => have := infoInt; rw [hi] at this; cases this
    | some i =>
      have hr' := run_append_owned_none (P := Tryz.prog) w 0 tInts tInts tInt i 1 (by kernel_rfl) hi (.slice none 0 0) 0 [] (Row.nil w 0 tInt 1)
      refine t_run (x := (none, 0, 0)) (w' := w) ?_ (h none 0 w (Ch.refl _ _) (by rw [hl]; exact Row.nil _ _ _ _))
      simp only [builtin, Sem.run_bind, hr', Result.andThen]
      rfl
  | some a =>
    obtain ⟨g0, _⟩ | h0 : n = 0 ∨ 0 < n := by omega
    · refine ap_row (by kernel_rfl) infoInt rfl (by omega) (Row.nil w w.heap.size tInt 1) (Nat.le_refl _) (intCells l) hlen (fun j u hu => ?_) (intCells_one l) (by unfold maxLen; omega) (by omega) fun q' c' w' g1 => ?_
      · have : intCells l = [] := List.eq_nil_of_length_eq_zero (by omega)
        rw [this] at hu
        simp at hu
      · have ho := g1.own
        rw [List.nil_append, Nat.zero_add] at ho
        rw [Nat.zero_add]
        exact h q' c' w' (g1.ch.mono fun k hk => by unfold rowS at hk; simp [Value.ownBlock] at hk) ho
    · obtain ⟨g, hp, _, hc⟩ := hr.get h0
      refine ap_row (by kernel_rfl) infoInt rfl (by omega) (Row.nil w w.heap.size tInt 1) (Nat.le_refl _) (intCells l) hlen (fun j u hu => ?_) (intCells_one l) (by unfold maxLen; omega) (by omega) fun q' c' w' g1 => ?_
      · cases hp
        rw [addr_add, Nat.zero_add]
        exact hc j u hu
      · have ho := g1.own
        rw [List.nil_append, Nat.zero_add] at ho
        rw [Nat.zero_add]
        exact h q' c' w' (g1.ch.mono fun k hk => by unfold rowS at hk; simp [Value.ownBlock] at hk) ho
/-- While a block's steps are put to the one around. -/
structure Fz (B : Nat) (w0 : World) (q : Option Addr) (d : Nat) (zs : List Zn) (z0 : Zn) (x1 : BlkM) (n14 : Nat) (t : Nat) (acc : List OpM) (w : World) : Prop where
  ch : Ch (fun k => B ≤ k) w0 w
  z : ∃ z1 : Zn, BS B w q (zs.length + 1) d (zs ++ [z1]) ∧ z1.x = { x1 with ops := acc } ∧ ∀ k, zS z0 k → ¬ zS z1 k
  top : OpsRow w z0.p z0.n z0.c z0.x.ops
  blk : Blk w n14 [.int .i64 t, .int .i64 z0.x.no, .int .i64 z0.x.place, .slice z0.p z0.n z0.c] tRBlk
  far : ¬ rowS q (zs.length + 1) d n14
  lt : B ≤ n14
theorem cut_nil {d : Nat} {q : Option Addr} {g : Nat} (hq : q = some ⟨g, 0, none⟩) : (if d = 0 then q else Option.map (fun q => q.add (0 * 4)) q) = q := by
  subst hq
  split
  · rfl
  · simp [addr_add]
section
variable {R : Ending → World → Prop} {Q : Exit → List (Tmp × Value) → World → Prop}
theorem fin_in {B : Nat} {w0 w : World} {q : Option Addr} {m d : Nat} {zs : List Zn} {z0 : Zn} {x1 : BlkM} {n14 t : Nat} {acc : List OpM} {kx : MVars mx27_30 → (Nat → Value) → T} {kr : MVars mr27_30 → (Nat → Value) → T} (g28 : Nat → Value) (F : Fz B w0 q d zs z0 x1 n14 t acc w) (hB : B ≤ w0.heap.size) (hf : FewB z0.x) (ha : acc.length + z0.x.ops.length ≤ 2000)
    (hm : m = zs.length + 2) (hz : zs.length ≤ 100000) (h : ∀ w' g', Fz B w0 q d zs z0 x1 n14 t (acc ++ z0.x.ops) w' → wpT Tryz.prog R Q (kx () g') .pl w') :
    wpT Tryz.prog R Q (.loop (at_ Tryz.f27 [1, 1, 1, 1, 1, 1, 1, 0, 0, 0, 1, 0, 1, 1, 0, 0]) 100 (fx27_30 q m d n14 g28) [(9, .int .i64 0)] mx27_30 mr27_30 2 kx kr) .pl w := by
  have hlen := F.top.len
  refine loop_i mixed m27_30 s27_30 (by kernel_rfl) (by kernel_rfl)
    (fun (v : Int × Unit) w' => 0 ≤ v.1 ∧ v.1 ≤ z0.n ∧ Fz B w0 q d zs z0 x1 n14 t (acc ++ z0.x.ops.take v.1.toNat) w') (fun (v : Int × Unit) _ => z0.n - v.1.toNat) (0, ()) rfl ⟨by simp, by simp, by simpa using F⟩ ?_
  rintro ⟨(i : Int), ⟨⟩⟩ g w1 ⟨(i0 : 0 ≤ i), (i1 : i ≤ z0.n), F1⟩
  rw [t27_30]
  dsimp only at F1 ⊢
  refine ld_sl (F1.blk.cell 3) (br_both (fun e => ?_) fun e => ?_)
  · have hi : i < z0.n := lt_t e
    refine ld_sl (F1.blk.cell 3) ?_
    obtain ⟨o, ho⟩ : ∃ u, z0.x.ops[i.toNat]? = some u := ⟨_, List.getElem?_eq_getElem (by omega)⟩
    obtain ⟨cs, hr, hoc⟩ := F1.top
    obtain ⟨gb, hp, _, hcell⟩ := hr.get (by omega)
    obtain ⟨kp, kn, kc, hk, c0, c1, c2, c3⟩ := hoc.get i.toNat o ho
    dsimp only
    rw [hp]
    refine ix_i i0 hi ?_
    simp only [addr_add, Nat.zero_add]
    refine ld_int (hcell _ _ c0) (ld_int (hcell _ _ c1) (ld_int (hcell _ _ c2) (ld_sl (hcell _ _ c3) ?_)))
    refine nw fun w2 h2 z2 b2 => ?_
    refine st4 (x0 := .int .i64 o.kind) (x1 := .int .i64 o.a) (x2 := .int .i64 o.b) (x3 := .slice kp kn kc) b2 rfl rfl rfl rfl fun w3 h3 b3 => ?_
    have H3 : Ch No w1 w3 := h2.then_ h3 (fun i hi (e : i = _) => by omega)
    have hkl : kn ≤ 100000 := by
      have h1 := hk.len
      have h2 := hf.2.2 o (List.mem_of_getElem? ho)
      simp only [intCells, List.length_map, Nat.mul_one] at h1
      omega
    refine ld_sl (b3.cell 3) (ap_none (hk.no H3) hkl fun p' c' w4 h4 hk4 => ?_)
    have b4 := b3.ch h4 (fun h => h)
    refine st_blk b4 (by simp) rfl fun w5 h5 z5 b5 => ?_
    have H5 : Ch No w1 w5 := (H3.trans h4).then_ h5 (fun i hi (e : i = _) => by omega)
    have hk5 := (hk4.base (Nat.zero_le _)).ch h5 (hk4.noTy (noTy_blk b4 (by decide)))
    have b5' : Blk w5 w1.heap.size (opTuple o p' kn c') tOp := b5
    obtain ⟨z1, S1, hx1, hap⟩ := F1.z
    have S5 := S1.no H5
    obtain ⟨g1, hq1, hm1, hgq, _⟩ := S5.last
    have hB5 : B ≤ w5.heap.size := by have := H5.size; have := F1.ch.size; omega
    have e1 : IntKind.i64.wrap ((m : Int) - 1) = ((zs.length + 1 : Nat) : Int) := by rw [wrap_in (by omega) (by omega)]; omega
    have e2 : (((zs.length + 1 : Nat) : Int)).toNat - 0 = zs.length + 1 := by omega
    have e3 : IntKind.i64.wrap (((zs.length + 1 : Nat) : Int) - 1) = (zs.length : Int) := by rw [wrap_in (by omega) (by omega)]; omega
    simp only [cut_nil hq1, e1, e2, e3]
    refine putz S5 hB5 ?_ hk5 b5' (fun hn => ?_) fun w6 q6 c6 P => ?_
    · rw [hx1]
      dsimp only
      rw [List.length_append, List.length_take]; omega
    · have := (S1.ops z1 (by simp)).lt hn
      omega
    · have hSB : ∀ k, (zS z1 k ∨ rowS q (zs.length + 1) d k) → B ≤ k := fun k hk => hk.elim (S1.lo z1 (by simp) k) (fun h => (S1.row.lt h).1)
      have nto : NoTy w5 (fun k => zS z1 k ∨ rowS q (zs.length + 1) d k) tInt := noTy_or ((S5.ops z1 (by simp)).noTy (by decide)) (noTy_row S5.row (by decide))
      have T5 : OpsRow w5 z0.p z0.n z0.c z0.x.ops := F1.top.ch H5 (fun _ _ h => h) (noTy_no _ _)
      refine ⟨(i + 1, ()), ?_, ⟨by dsimp only; omega, by dsimp only; omega, ⟨F1.ch.trans (H5.no.trans (P.ch.mono hSB)), ⟨_, P.bs, ?_, ?_⟩, ?_, ?_, F1.far, F1.lt⟩⟩, by dsimp only; omega⟩
      · rw [wrap_succ i0 (by omega)]; rfl
      · dsimp only
        rw [hx1, show (i + 1).toNat = i.toNat + 1 by omega, List.take_add_one, ho, ← List.append_assoc]
        rfl
      · intro k hk hk'
        rcases P.lies k hk' with h | h
        · exact hap k hk h
        · have := T5.lt hk
          omega
      · exact T5.ch P.ch (fun k hk hs => hs.elim (hap k hk) (fun h => T5.away (noTy_row S5.row (by decide)) k hk h)) nto
      · refine (F1.blk.ch H5 (fun h => h)).ch P.ch (fun hs => hs.elim (fun h => ?_) F1.far)
        exact ((F1.blk.ch H5 (fun h => h)).noTy ((S5.ops z1 (by simp)).noTy (by decide))) h
  · have hi : z0.n ≤ i := lt_f e
    refine ⟨rfl, (), rfl, fun g => h w1 g ?_⟩
    rw [List.take_of_length_le (by omega)] at F1
    exact F1
theorem fin_out {B : Nat} {w0 w : World} {q : Option Addr} {m d : Nat} {zs : List Zn} {z0 : Zn} {x1 : BlkM} {n14 : Nat} {kx : MVars mx27_24 → (Nat → Value) → T} {kr : MVars mr27_24 → (Nat → Value) → T} (g20 : Nat → Value) (F : Fz B w0 q d zs z0 x1 n14 z0.x.times x1.ops w) (hB : B ≤ w0.heap.size) (hf : FewB z0.x) (ha : x1.ops.length + z0.x.times * z0.x.ops.length ≤ 2000)
    (hm : m = zs.length + 2) (hz : zs.length ≤ 100000) (h : ∀ w' g' t, Fz B w0 q d zs z0 x1 n14 t (x1.ops ++ (List.replicate z0.x.times z0.x.ops).flatten) w' → wpT Tryz.prog R Q (kx () g') .pl w') :
    wpT Tryz.prog R Q (.loop (at_ Tryz.f27 [1, 1, 1, 1, 1, 1, 1, 0, 0, 0]) 100 (fx27_24 q m d n14 g20) [] mx27_24 mr27_24 0 kx kr) .pl w := by
  have hlen := F.top.len
  have ht := hf.2.1
  refine loop_i mixed m27_24 s27_24 (by kernel_rfl) (by kernel_rfl)
    (fun _ w' => ∃ t, t ≤ z0.x.times ∧ Fz B w0 q d zs z0 x1 n14 t (x1.ops ++ (List.replicate (z0.x.times - t) z0.x.ops).flatten) w') (fun _ w' => match w'.cell? ⟨n14, 0, none⟩ with
      | some (.int _ x) => x.toNat
      | _ => 0) () rfl ⟨_, Nat.le_refl _, by simpa using F⟩ ?_
  rintro ⟨⟩ g w1 ⟨t, htt, F1⟩
  rw [t27_24]
  refine cut_i mixed s27_25 (fun (v : Bool × Unit) w' => w' = w1 ∧ v.1 = (decide (0 < z0.n) && decide (0 < t))) (by kernel_rfl) (fun g => ?_) ?_
  · rw [t27_25]
    refine ld_sl (F1.blk.cell 3) (br_both (fun e => ?_) fun e => ?_)
    · have e : 0 < (z0.n : Int) := gt_t e
      refine ld_int (F1.blk.cell 0) ⟨rfl, (_, ()), rfl, rfl, ?_⟩
      have e' : decide (0 < z0.n) = true := decide_eq_true (by omega)
      rw [e', Bool.true_and]
      exact decide_eq_decide.2 ⟨fun h => by have h : (0 : Int) < (t : Int) := h; omega, fun h => by show (0 : Int) < (t : Int); omega⟩
    · have e : (z0.n : Int) ≤ 0 := gt_f e
      have e' : decide (0 < z0.n) = false := decide_eq_false (by omega)
      refine ⟨rfl, (_, ()), rfl, rfl, ?_⟩
      rw [e', Bool.false_and]
  rintro ⟨u, ⟨⟩⟩ g w2 ⟨rfl, hu⟩
  dsimp only at hu
  subst hu
  refine br_both (fun e => ?_) fun e => ?_
  · have e := Bool.and_eq_true_iff.1 e
    have h0 := of_decide_eq_true e.1
    have h1 := of_decide_eq_true e.2
    refine ld_int (F1.blk.cell 0) (st_blk F1.blk (by simp) rfl fun w3 h3 z3 b3 => ?_)
    have e1 : IntKind.i64.wrap ((t : Int) - 1) = ((t - 1 : Nat) : Int) := by rw [wrap_in (by omega) (by omega)]; omega
    rw [e1] at b3
    obtain ⟨z1, S1, hx1, hap⟩ := F1.z
    have F3 : Fz B w0 q d zs z0 x1 n14 (t - 1) (x1.ops ++ (List.replicate (z0.x.times - t) z0.x.ops).flatten) w3 := by
      have nt : ∀ t', tRBlk ≠ t' → NoTy w2 (· = n14) t' := fun t' ht' => noTy_blk F1.blk ht'
      refine ⟨F1.ch.trans (h3.mono fun k (e : k = n14) => by have := F1.lt; omega), ⟨z1, S1.ch h3 (fun k hk e => by subst e; exact F1.far hk) (fun z hz k hk => (S1.ops z hz).away (nt _ (by decide)) k hk) (nt _ (by decide)), hx1, hap⟩, F1.top.ch h3 (F1.top.away (nt _ (by decide))) (nt _ (by decide)), b3, F1.far, F1.lt⟩
    have hr : (List.replicate (z0.x.times - t) z0.x.ops).flatten.length + z0.x.ops.length ≤ z0.x.times * z0.x.ops.length := by
      rw [rep_len]
      have : (z0.x.times - t) * z0.x.ops.length + z0.x.ops.length = (z0.x.times - t + 1) * z0.x.ops.length := by rw [Nat.add_mul, Nat.one_mul]
      rw [this]
      exact Nat.mul_le_mul_right _ (by omega)
    refine fin_in _ F3 hB hf (by rw [List.length_append]; omega) hm hz fun w4 g4 F4 => ?_
    refine ⟨(), rfl, ⟨t - 1, by omega, ?_⟩, ?_⟩
    · rw [show z0.x.times - (t - 1) = z0.x.times - t + 1 by omega, rep_succ, ← List.append_assoc]
      exact F4
    · rw [show w4.cell? ⟨n14, 0, none⟩ = some (.int .i64 ((t - 1 : Nat) : Int)) from F4.blk.cell 0, show w2.cell? ⟨n14, 0, none⟩ = some (.int .i64 ((t : Nat) : Int)) from F1.blk.cell 0]
      dsimp only
      omega
  · have hz' : z0.n = 0 ∨ t = 0 := by
      rcases Bool.and_eq_false_iff.1 e with e | e
      · left; have := of_decide_eq_false e; omega
      · right; have := of_decide_eq_false e; omega
    refine ⟨rfl, (), rfl, fun g => h w2 g t ?_⟩
    have : (List.replicate (z0.x.times - t) z0.x.ops).flatten = (List.replicate z0.x.times z0.x.ops).flatten := by
      rcases hz' with h0 | h0
      · have : z0.x.ops = [] := List.eq_nil_of_length_eq_zero (by omega)
        rw [this]
        exact (List.eq_nil_of_length_eq_zero (by rw [rep_len]; simp)).trans (List.eq_nil_of_length_eq_zero (by rw [rep_len]; simp)).symm
      · rw [h0, Nat.sub_zero]
    rw [this] at F1
    exact F1
end
/-- end: the blocks that are left, the innermost first. -/
def finM (L at_ : Nat) (r : List UInt8) : List BlkM → PRes (List BlkM)
  | top :: around :: rest => match endM L r with
    | .error e => .error e
    | .ok _ => if 2000 < around.ops.length + top.times * top.ops.length then .error (at_, 65)
      else .ok ({ around with ops := around.ops ++ (List.replicate top.times top.ops).flatten } :: rest)
  | _ => .error (at_, 66)
def xsOf (zs : List Zn) : List BlkM := (zs.map (·.x)).reverse
theorem xsOf_app (zs : List Zn) (z : Zn) : xsOf (zs ++ [z]) = z.x :: xsOf zs := by simp [xsOf]
theorem rfin_any (B : Nat) (q : Option Addr) (m d : Nat) (zs : List Zn) (s : ByteArray) (p : Option Addr) (n c : Nat) (w : World) (A : AtW w p n (wordsR s.size s.data.toList)) (S : BS B w q m d zs) (hB : B ≤ w.heap.size) (hne : zs ≠ []) (few : ∀ z ∈ zs, FewB z.x) (hz : zs.length ≤ 100000) :
    Calls Tryz.prog 27 #[.slice q m d, lineV s p n c] w fun e w' => Ch (fun k => B ≤ k) w w' ∧ match finM s.size (s.size - (skipS s.data.toList).length) (aft 1 s.data.toList) (xsOf zs) with
      | .ok xs' => ∃ q' m' d' zs', e = .returned (.tuple #[.slice q' m' d', .int .i64 0, .int .i64 0]) ∧ BS B w' q' m' d' zs' ∧ xsOf zs' = xs'
      | .error (pl, cd) => ∃ q' m' d', e = .returned (.tuple #[.slice q' m' d', .int .i64 pl, .int .i64 cd]) ∧ cd ≠ 0 := by
  unfold lineV
  refine calls_of_fnT mixed Tryz.func27 (s := s27) ?_
  rw [t27]
  have hlt := words_lt s.size 1 s.data.toList
  have hwn := A.1
  have hm := S.len
  refine nw fun w1 h1 z1 b1 => ?_
  have A1 := A.no h1
  obtain ⟨zs, z0, rfl⟩ : ∃ a b, zs = a ++ [b] := ⟨zs.dropLast, zs.getLast hne, (List.dropLast_concat_getLast hne).symm⟩
  rw [List.length_append, List.length_singleton] at hm hz
  refine br_both (fun e => ?_) fun e => ?_
  · have e : (m : Int) < 2 := lt_t e
    have : zs = [] := List.eq_nil_of_length_eq_zero (by omega)
    subst this
    refine ld_str (b1.cell 0) (ld_sl (b1.cell 1) (cl_i (rat_any s p n c 0 w1 A1) ?_))
    rintro e w2 ⟨rfl, h2⟩
    exact ⟨_, rfl, (h1.trans h2).no, q, m, d, rfl, by decide⟩
  have e : 2 ≤ (m : Int) := lt_f e
  have hne2 : zs ≠ [] := fun h => by rw [h] at hm; simp at hm; omega
  obtain ⟨zs, za, rfl⟩ : ∃ a b, zs = a ++ [b] := ⟨zs.dropLast, zs.getLast hne2, (List.dropLast_concat_getLast hne2).symm⟩
  rw [List.length_append, List.length_singleton] at hm hz
  rw [xsOf_app, xsOf_app]
  unfold finM endM
  refine ld_sl (b1.cell 1) (br_both (fun e => ?_) fun e => ?_)
  · have e : (1 : Int) < (n : Int) := gt_t e
    rw [if_neg (fun h => hlt.1 (by omega) (word_nil.1 h))]
    refine ld_str (b1.cell 0) (ld_sl (b1.cell 1) (cl_i (rat_any s p n c 1 w1 A1) ?_))
    rintro e w2 ⟨rfl, h2⟩
    exact ⟨_, rfl, (h1.trans h2).no, q, m, d, rfl, by decide⟩
  have e : (n : Int) ≤ (1 : Int) := gt_f e
  rw [if_pos (word_nil.2 (Decidable.byContradiction fun h => by have := hlt.2 h; omega))]
  clear e
  dsimp only
  have S1 := S.no h1
  obtain ⟨g, hq, hm', hgq, hc⟩ := S1.last
  have e1 : IntKind.i64.wrap ((m : Int) - 1) = ((zs.length + 1 : Nat) : Int) := by rw [wrap_in (by omega) (by omega)]; omega
  have hcap := S1.row.cap
  have hq' := cut_nil (d := d) hq
  have hix : ∀ {R : Ending → World → Prop} {Q : Exit → List (Tmp × Value) → World → Prop} {f : Addr → T} {j : Nat} {k : Nat} {md : Md} {w : World}, j < k → wpT Tryz.prog R Q (f ⟨g, j * 4, none⟩) md w → wpT Tryz.prog R Q (.idx q (j : Int) k 4 f) md w := fun {R Q f j k md w} hj h => by
    rw [hq]
    refine ix_i (by omega) (by omega) ?_
    rw [addr_add, Nat.zero_add, Int.toNat_natCast]
    exact h
  simp only [e1]
  refine hix (by omega) ?_
  simp only [addr_add]
  rw [List.length_append, List.length_singleton] at hc
  refine ld_int (hc 0 _ rfl) (ld_int (hc 1 _ rfl) (ld_int (hc 2 _ rfl) (ld_sl (hc 3 _ rfl) ?_)))
  refine nw fun w2 h2 z2 b2 => ?_
  refine st4 (x0 := .int .i64 z0.x.times) (x1 := .int .i64 z0.x.no) (x2 := .int .i64 z0.x.place) (x3 := .slice z0.p z0.n z0.c) b2 rfl rfl rfl rfl fun w3 h3 b3 => ?_
  have H3 : Ch No w1 w3 := h2.then_ h3 (fun i hi (e : i = _) => by omega)
  have S3 := S1.no H3
  have P3 := S3.pop
  rw [List.length_append, List.length_singleton] at P3
  have b13 := b1.ch H3 (fun h => h)
  have A3 := A1.no H3
  refine nd3 (by decide) (by omega) (by omega) ?_
  have e2 : (((zs.length + 1 : Nat) : Int)).toNat - 0 = zs.length + 1 := by omega
  have e3 : IntKind.i64.wrap (((zs.length + 1 : Nat) : Int) - 1) = (zs.length : Int) := by rw [wrap_in (by omega) (by omega)]; omega
  have hf0 := few z0 (by simp)
  have hf1 := few za (by simp)
  have hl0 := (S3.ops z0 (by simp)).len
  have hl1 := (S3.ops za (by simp)).len
  have hmul : z0.x.times * z0.x.ops.length ≤ 2000 * 2000 := Nat.mul_le_mul hf0.2.1 hf0.1
  obtain ⟨ga, hqa, _, _, hca⟩ := P3.last
  obtain rfl : g = ga := by rw [hq] at hqa; cases hqa; rfl
  generalize hn14 : w1.heap.size = n14 at *
  refine cut_i mixed s27_15 (fun (v : Bool × Unit) w' => w' = w3.drew ∧ v.1 = decide (2000 < za.x.ops.length + z0.x.times * z0.x.ops.length)) (by kernel_rfl) (fun g => ?_) ?_
  · rw [t27_15]
    simp only [e1, e2, e3, hq']
    have hd := (Ch.refl No w3).drew
    refine dr_eq (hix (by omega) ?_)
    rw [addr_add]
    refine lq_sl (hd.cellv (hca 3 _ rfl) (fun h => h)) (lq_int ((b3.ch hd (fun h => h)).cell 0) (lq_sl ((b3.ch hd (fun h => h)).cell 3) (un_eq ⟨rfl, (_, ()), rfl, rfl, ?_⟩)))
    dsimp only
    have e2 : ((z0.x.times : Int) * (z0.n : Int)) = ((z0.x.times * z0.x.ops.length : Nat) : Int) := by rw [hl0]; exact (Int.natCast_mul _ _).symm
    rw [e2, wrap_in (x := ((z0.x.times * z0.x.ops.length : Nat) : Int)) (by omega) (by omega), wrap_in (by have := hf1.1; omega) (by have := hf1.1; omega)]
    exact decide_eq_decide.2 ⟨fun h => by have h : (2000 : Int) < _ := h; omega, fun h => by show (2000 : Int) < _; omega⟩
  rintro ⟨v, ⟨⟩⟩ g6 w4 ⟨rfl, hv⟩
  dsimp only at hv
  subst hv
  have hd := (Ch.refl No w3).drew
  have H4 := (h1.trans H3).trans hd
  replace b13 := b13.ch hd (fun h => h)
  replace b3 := b3.ch hd (fun h => h)
  replace A3 := A3.no hd
  replace S3 := S3.no hd
  replace P3 := P3.no hd
  generalize w3.drew = w4 at *
  refine br_both (fun e => ?_) fun e => ?_
  · have e := of_decide_eq_true e
    rw [if_pos e]
    refine ld_str (b13.cell 0) (ld_sl (b13.cell 1) (cl_i (rat_any s p n c 0 w4 A3) ?_))
    rintro e w5 ⟨rfl, h5⟩
    exact ⟨_, rfl, (H4.trans h5).no, _, _, _, rfl, by decide⟩
  have e := of_decide_eq_false e
  rw [if_neg e]
  have hap := List.pairwise_append.1 S3.apart
  have F : Fz B w4 q d zs z0 za.x n14 z0.x.times za.x.ops w4 := by
    refine ⟨Ch.refl _ _, ⟨za, P3, rfl, fun k hk hk' => hap.2.2 za (by simp) z0 (by simp) k hk' hk⟩, S3.ops z0 (by simp), b3, fun hk => ?_, ?_⟩
    · have := (P3.row.lt hk).2
      have hk2 := (P3.row.lt hk).1
      have hk3 : rowS q m d n14 := by simpa [rowS, hq, Value.ownBlock] using hk
      have := (S1.row.lt hk3).2
      omega
    · have := h1.size
      omega
  refine fin_out _ F (by have := H4.size; omega) hf0 (by omega) (by omega) (by omega) fun w5 g5 t F5 => ?_
  simp only [e1, e2, hq']
  obtain ⟨z5, S5, hx5, _⟩ := F5.z
  refine ⟨H4.no.trans F5.ch, q, zs.length + 1, d, zs ++ [z5], rfl, S5, ?_⟩
  rw [xsOf_app, hx5]
end Go.Proofs.YtjlmkahagcojcaaGreatDoor
