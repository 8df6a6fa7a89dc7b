/- The document's answer: closing, record. -/
import Derived.Test.YtjlmkahagcojcaaGreatDoorXl
import Derived.Test.YtjlmkahagcojcaaGreatDoorRfx
namespace Go.Proofs.YtjlmkahagcojcaaGreatDoor.V
open Go Tr
set_option maxRecDepth 100000
/-! the tree of function 85 -/
abbrev fx85_1 (qs0 : ByteArray) (qx1 : Int) : List (Tmp × Value) := [(0, .string qs0), (1, .int .i64 qx1)]
abbrev m85_1 : List (Tmp × Comp) := [(5, .leaf (.int .i64))]
abbrev mx85_1 : List (Tmp × Comp) := []
abbrev mr85_1 : List (Tmp × Comp) := [(4, .leaf (.int .i64))]
abbrev fx85_3 (qs0 : ByteArray) (qx1 : Int) (x_5 : Int) (gg1 : Nat → Value) : List (Tmp × Value) := [(0, .string qs0), (1, .int .i64 qx1), (4, gg1 4), (5, .int .i64 x_5)]
abbrev m85_3 : List (Tmp × Comp) := [(6, .leaf (.int .i64))]
abbrev mx85_3 : List (Tmp × Comp) := [(6, .leaf (.int .i64))]
abbrev mr85_3 : List (Tmp × Comp) := []
def s85_3 : Script := .sym (.lit (.lit (.lit (.ix (.lit (.lit (.sym .nil .nil))))))) (.lit (.lit (.lit (.lit (.lit (.lit .nil))))))
theorem t85_3 (qs0 : ByteArray) (qx1 : Int) (x_5 : Int) (gg1 : Nat → Value) (x_6 : Int) (gg3 : Nat → Value) : pieceT Tryz.prog (at_ Tryz.f85 [1, 0, 1, 0, 0, 1, 0, 0, 1, 1, 0, 0, 0]) 42 (fx85_3 qs0 qx1 x_5 gg1 ++ mvals m85_3 (x_6, ())) gg3 (m85_3.map (·.1)) (mx85_3.map (·.1)) (mr85_3.map (·.1)) s85_3 = .br (Decidable.decide (x_6 > IntKind.i64.wrap (qx1 + 1))) (.bidx qs0 (IntKind.i64.wrap (x_6 - 1)) (fun c4 => .br (c4 == 92) (.fin .normal [(6, .int .i64 (IntKind.i64.wrap (x_6 - 1)))]) (.fin (.exit 2) [(6, .int .i64 x_6)]))) (.fin (.exit 2) [(6, .int .i64 x_6)]) := by kernel_rfl
def s85_1 : Script := .sym (.ix (.sym .nil (.lp 2 [0, 1, 4, 5] [6] mx85_3 mr85_3 (.sym .nil .nil) .nil))) .nil
theorem t85_1 (qs0 : ByteArray) (qx1 : Int) (x_5 : Int) (gg1 : Nat → Value) : pieceT Tryz.prog (at_ Tryz.f85 [1, 0, 1, 0, 0]) 42 (fx85_1 qs0 qx1 ++ mvals m85_1 (x_5, ())) gg1 (m85_1.map (·.1)) (mx85_1.map (·.1)) (mr85_1.map (·.1)) s85_1 = .br (Decidable.decide (x_5 < (↑qs0.size : Int))) (.bidx qs0 x_5 (fun c2 => .br (c2 != 34) (.fin .normal [(5, .int .i64 (IntKind.i64.wrap (x_5 + 1)))]) (.loop (at_ Tryz.f85 [1, 0, 1, 0, 0, 1, 0, 0, 1, 1, 0, 0, 0]) 42 (fx85_3 qs0 qx1 x_5 gg1) [(6, .int .i64 x_5)] mx85_3 mr85_3 2 (fun u5 g5 => .br ((IntKind.i64.wrap (x_5 - u5.fst)).tmod 2 == 0) (.fin .ret [(4, .int .i64 (IntKind.i64.wrap (x_5 + 1)))]) (.fin .normal [(5, .int .i64 (IntKind.i64.wrap (x_5 + 1)))])) (fun u6 g6 => .stuck)))) (.fin (.exit 0) []) := by kernel_rfl
def s85 : Script := .lp 0 [0, 1] [5] mx85_1 mr85_1 .nil .nil
theorem t85 (qs0 : ByteArray) (qx1 : Int) : fnT Tryz.prog Tryz.f85 #[.string qs0, .int .i64 qx1] s85 = .loop (at_ Tryz.f85 [1, 0, 1, 0, 0]) 42 (fx85_1 qs0 qx1) [(5, .int .i64 (IntKind.i64.wrap (qx1 + 1)))] mx85_1 mr85_1 0 (fun u7 g7 => .done (.returned (.int .i64 (↑qs0.size : Int)))) (fun u8 g8 => .done (.returned (.int .i64 u8.1))) := by kernel_rfl
/-! the tree of function 48 -/
def s48 : Script := .ix (.sym (.ld .str (.ld (.int .i64) (.ld (.int .i64) (.ld .str (.ld .sl (.ld .sl (.ld .str (.ld (.int .i64) (.ld (.int .i64) (.ld .str (.ld .sl (.ld .sl .nil)))))))))))) (.cl (.one (.leaf (.int .i64))) (.nd (.cl (.tup [.agg [.int .i64, .int .i64, .str, .sl], .leaf (.int .i64), .leaf (.int .i64)]) (.sym (.ld .str (.ld (.int .i64) (.ld (.int .i64) (.ld .str (.ld .sl (.ld .sl (.ld .str (.ld (.int .i64) (.ld (.int .i64) (.ld .str (.ld .sl (.ld .sl .nil)))))))))))) (.ld .str (.sym (.ld .str (.ld (.int .i64) (.ld (.int .i64) (.ld .str (.ld .sl (.ld .sl (.ld .str (.ld (.int .i64) (.ld (.int .i64) (.ld .str (.ld .sl (.ld .sl .nil)))))))))))) (.nd (.cl (.tup [.agg [.int .i64, .int .i64, .str, .sl], .leaf (.int .i64), .leaf (.int .i64)]) (.sym (.ld .str (.ld (.int .i64) (.ld (.int .i64) (.ld .str (.ld .sl (.ld .sl (.ld .str (.ld (.int .i64) (.ld (.int .i64) (.ld .str (.ld .sl (.ld .sl .nil)))))))))))) (.ld .str (.ld (.int .i64) (.ld (.int .i64) (.ld .str (.ld .sl (.ld .str (.ld (.int .i64) (.ld (.int .i64) (.ld .str (.ld .sl (.ld .sl (.ld .str (.ld (.int .i64) (.ld (.int .i64) (.ld .str (.ld .sl (.ld .sl .nil)))))))))))))))))))))))))))
theorem t48 (qs0 : ByteArray) (qx1 : Int) : fnT Tryz.prog Tryz.f48 #[.string qs0, .int .i64 qx1] s48 = .new (.cells #[.string (bytesL []), .int .i64 0, .int .i64 0, .string (bytesL []), .slice none 0 0, .slice none 0 0] 54 (0, 0)) (fun n1 => .new (.cells #[.string (bytesL []), .int .i64 0, .int .i64 0, .string (bytesL []), .slice none 0 0, .slice none 0 0] 54 (0, 0)) (fun n2 => .bidx qs0 qx1 (fun c3 => .br (c3 != 34) (.load ⟨n2, 0, none⟩ .str (fun s4 => .load ⟨n2, 1, none⟩ (.int .i64) (fun x5 => .load ⟨n2, 2, none⟩ (.int .i64) (fun x6 => .load ⟨n2, 3, none⟩ .str (fun s7 => .load ⟨n2, 4, none⟩ .sl (fun l8 => .load ⟨n2, 5, none⟩ .sl (fun l9 => .store ⟨n1, 0, none⟩ (.string s4) (.store ⟨n1, 1, none⟩ (.int .i64 x5) (.store ⟨n1, 2, none⟩ (.int .i64 x6) (.store ⟨n1, 3, none⟩ (.string s7) (.store ⟨n1, 4, none⟩ (.slice l8.1 l8.2.1 l8.2.2) (.store ⟨n1, 5, none⟩ (.slice l9.1 l9.2.1 l9.2.2) (.load ⟨n1, 0, none⟩ .str (fun s10 => .load ⟨n1, 1, none⟩ (.int .i64) (fun x11 => .load ⟨n1, 2, none⟩ (.int .i64) (fun x12 => .load ⟨n1, 3, none⟩ .str (fun s13 => .load ⟨n1, 4, none⟩ .sl (fun l14 => .load ⟨n1, 5, none⟩ .sl (fun l15 => .done (.returned (.tuple #[.agg #[.string s10, .int .i64 x11, .int .i64 x12, .string s13, .slice l14.1 l14.2.1 l14.2.2, .slice l15.1 l15.2.1 l15.2.2], .int .i64 qx1, .int .i64 67]))))))))))))))))))))) (.call 85 #[.string qs0, .int .i64 qx1] (.one (.leaf (.int .i64))) (fun x16 => .need (Decidable.decide (0 ≤ qx1 ∧ qx1 ≤ x16 ∧ x16 ≤ (↑qs0.size : Int))) (.call 86 #[.string (qs0.extract qx1.toNat x16.toNat)] (.tup [.agg [.int .i64, .int .i64, .str, .sl], .leaf (.int .i64), .leaf (.int .i64)]) (fun r17 => .new (.cells #[.int .i64 0, .int .i64 0, .string (bytesL []), .slice none 0 0] 52 (0, 0)) (fun n18 => .store ⟨n18, 0, none⟩ (.int .i64 r17.1.1) (.store ⟨n18, 1, none⟩ (.int .i64 r17.1.2.1) (.store ⟨n18, 2, none⟩ (.string r17.1.2.2.1) (.store ⟨n18, 3, none⟩ (.slice r17.1.2.2.2.1.1 r17.1.2.2.2.1.2.1 r17.1.2.2.2.1.2.2) (.br (r17.snd.snd.fst != 0) (.load ⟨n2, 0, none⟩ .str (fun s19 => .load ⟨n2, 1, none⟩ (.int .i64) (fun x20 => .load ⟨n2, 2, none⟩ (.int .i64) (fun x21 => .load ⟨n2, 3, none⟩ .str (fun s22 => .load ⟨n2, 4, none⟩ .sl (fun l23 => .load ⟨n2, 5, none⟩ .sl (fun l24 => .store ⟨n1, 0, none⟩ (.string s19) (.store ⟨n1, 1, none⟩ (.int .i64 x20) (.store ⟨n1, 2, none⟩ (.int .i64 x21) (.store ⟨n1, 3, none⟩ (.string s22) (.store ⟨n1, 4, none⟩ (.slice l23.1 l23.2.1 l23.2.2) (.store ⟨n1, 5, none⟩ (.slice l24.1 l24.2.1 l24.2.2) (.load ⟨n1, 0, none⟩ .str (fun s25 => .load ⟨n1, 1, none⟩ (.int .i64) (fun x26 => .load ⟨n1, 2, none⟩ (.int .i64) (fun x27 => .load ⟨n1, 3, none⟩ .str (fun s28 => .load ⟨n1, 4, none⟩ .sl (fun l29 => .load ⟨n1, 5, none⟩ .sl (fun l30 => .done (.returned (.tuple #[.agg #[.string s25, .int .i64 x26, .int .i64 x27, .string s28, .slice l29.1 l29.2.1 l29.2.2, .slice l30.1 l30.2.1 l30.2.2], .int .i64 (IntKind.i64.wrap (qx1 + r17.snd.fst)), .int .i64 r17.2.2.1]))))))))))))))))))))) (.load ⟨n18, 2, none⟩ .str (fun s31 => .br (Decidable.decide ((↑s31.size : Int) > 12)) (.load ⟨n2, 0, none⟩ .str (fun s32 => .load ⟨n2, 1, none⟩ (.int .i64) (fun x33 => .load ⟨n2, 2, none⟩ (.int .i64) (fun x34 => .load ⟨n2, 3, none⟩ .str (fun s35 => .load ⟨n2, 4, none⟩ .sl (fun l36 => .load ⟨n2, 5, none⟩ .sl (fun l37 => .store ⟨n1, 0, none⟩ (.string s32) (.store ⟨n1, 1, none⟩ (.int .i64 x33) (.store ⟨n1, 2, none⟩ (.int .i64 x34) (.store ⟨n1, 3, none⟩ (.string s35) (.store ⟨n1, 4, none⟩ (.slice l36.1 l36.2.1 l36.2.2) (.store ⟨n1, 5, none⟩ (.slice l37.1 l37.2.1 l37.2.2) (.load ⟨n1, 0, none⟩ .str (fun s38 => .load ⟨n1, 1, none⟩ (.int .i64) (fun x39 => .load ⟨n1, 2, none⟩ (.int .i64) (fun x40 => .load ⟨n1, 3, none⟩ .str (fun s41 => .load ⟨n1, 4, none⟩ .sl (fun l42 => .load ⟨n1, 5, none⟩ .sl (fun l43 => .done (.returned (.tuple #[.agg #[.string s38, .int .i64 x39, .int .i64 x40, .string s41, .slice l42.1 l42.2.1 l42.2.2, .slice l43.1 l43.2.1 l43.2.2], .int .i64 qx1, .int .i64 24]))))))))))))))))))))) (.need (Decidable.decide (0 ≤ x16 ∧ x16 ≤ (↑qs0.size : Int) ∧ (↑qs0.size : Int) ≤ (↑qs0.size : Int))) (.call 86 #[.string (qs0.extract x16.toNat qs0.size)] (.tup [.agg [.int .i64, .int .i64, .str, .sl], .leaf (.int .i64), .leaf (.int .i64)]) (fun r44 => .new (.cells #[.int .i64 0, .int .i64 0, .string (bytesL []), .slice none 0 0] 52 (0, 0)) (fun n45 => .store ⟨n45, 0, none⟩ (.int .i64 r44.1.1) (.store ⟨n45, 1, none⟩ (.int .i64 r44.1.2.1) (.store ⟨n45, 2, none⟩ (.string r44.1.2.2.1) (.store ⟨n45, 3, none⟩ (.slice r44.1.2.2.2.1.1 r44.1.2.2.2.1.2.1 r44.1.2.2.2.1.2.2) (.br (r44.snd.snd.fst != 0) (.load ⟨n2, 0, none⟩ .str (fun s46 => .load ⟨n2, 1, none⟩ (.int .i64) (fun x47 => .load ⟨n2, 2, none⟩ (.int .i64) (fun x48 => .load ⟨n2, 3, none⟩ .str (fun s49 => .load ⟨n2, 4, none⟩ .sl (fun l50 => .load ⟨n2, 5, none⟩ .sl (fun l51 => .store ⟨n1, 0, none⟩ (.string s46) (.store ⟨n1, 1, none⟩ (.int .i64 x47) (.store ⟨n1, 2, none⟩ (.int .i64 x48) (.store ⟨n1, 3, none⟩ (.string s49) (.store ⟨n1, 4, none⟩ (.slice l50.1 l50.2.1 l50.2.2) (.store ⟨n1, 5, none⟩ (.slice l51.1 l51.2.1 l51.2.2) (.load ⟨n1, 0, none⟩ .str (fun s52 => .load ⟨n1, 1, none⟩ (.int .i64) (fun x53 => .load ⟨n1, 2, none⟩ (.int .i64) (fun x54 => .load ⟨n1, 3, none⟩ .str (fun s55 => .load ⟨n1, 4, none⟩ .sl (fun l56 => .load ⟨n1, 5, none⟩ .sl (fun l57 => .done (.returned (.tuple #[.agg #[.string s52, .int .i64 x53, .int .i64 x54, .string s55, .slice l56.1 l56.2.1 l56.2.2, .slice l57.1 l57.2.1 l57.2.2], .int .i64 (IntKind.i64.wrap (x16 + r44.snd.fst)), .int .i64 r44.2.2.1]))))))))))))))))))))) (.load ⟨n18, 2, none⟩ .str (fun s58 => .store ⟨n2, 0, none⟩ (.string s58) (.load ⟨n45, 0, none⟩ (.int .i64) (fun x59 => .load ⟨n45, 1, none⟩ (.int .i64) (fun x60 => .load ⟨n45, 2, none⟩ .str (fun s61 => .load ⟨n45, 3, none⟩ .sl (fun l62 => .store ⟨n2, 1, none⟩ (.int .i64 x59) (.store ⟨n2, 2, none⟩ (.int .i64 x60) (.store ⟨n2, 3, none⟩ (.string s61) (.store ⟨n2, 4, none⟩ (.slice l62.1 l62.2.1 l62.2.2) (.load ⟨n2, 0, none⟩ .str (fun s63 => .load ⟨n2, 1, none⟩ (.int .i64) (fun x64 => .load ⟨n2, 2, none⟩ (.int .i64) (fun x65 => .load ⟨n2, 3, none⟩ .str (fun s66 => .load ⟨n2, 4, none⟩ .sl (fun l67 => .load ⟨n2, 5, none⟩ .sl (fun l68 => .store ⟨n1, 0, none⟩ (.string s63) (.store ⟨n1, 1, none⟩ (.int .i64 x64) (.store ⟨n1, 2, none⟩ (.int .i64 x65) (.store ⟨n1, 3, none⟩ (.string s66) (.store ⟨n1, 4, none⟩ (.slice l67.1 l67.2.1 l67.2.2) (.store ⟨n1, 5, none⟩ (.slice l68.1 l68.2.1 l68.2.2) (.load ⟨n1, 0, none⟩ .str (fun s69 => .load ⟨n1, 1, none⟩ (.int .i64) (fun x70 => .load ⟨n1, 2, none⟩ (.int .i64) (fun x71 => .load ⟨n1, 3, none⟩ .str (fun s72 => .load ⟨n1, 4, none⟩ .sl (fun l73 => .load ⟨n1, 5, none⟩ .sl (fun l74 => .done (.returned (.tuple #[.agg #[.string s69, .int .i64 x70, .int .i64 x71, .string s72, .slice l73.1 l73.2.1 l73.2.2, .slice l74.1 l74.2.1 l74.2.2], .int .i64 0, .int .i64 0]))))))))))))))))))))))))))))))))))))))))))))))))))))) := by kernel_rfl
abbrev tRec : TypeId := 54
/-- sl backslashes stand ahead of j. -/
def RunB (s : ByteArray) (i j sl : Nat) : Prop := i + 1 + sl ≤ j ∧ (∀ m, j - sl ≤ m → m < j → pk (rest s m) = 92) ∧ (j - sl = i + 1 ∨ pk (rest s (j - sl - 1)) ≠ 92)
set_option maxHeartbeats 1000000 in
theorem rclose_any (s : ByteArray) (i : Nat) (w : World) (hs : s.size ≤ 140737488355328) (hi : i < s.size) :
    Calls Tryz.prog 85 #[.string s, .int .i64 (i : Int)] w fun e w' => e = .returned (.int .i64 ((i + 1 + qend false (rest s (i + 1)) : Nat) : Int)) ∧ w' = w := by
  refine calls_of_fnT mixed Tryz.func85 (s := s85) ?_
  rw [t85]
  have hw1 : IntKind.i64.wrap ((i : Int) + 1) = ((i + 1 : Nat) : Int) := wrap_succ (by omega) (by omega)
  rw [hw1]
  generalize hE : i + 1 + qend false (rest s (i + 1)) = E
  refine loop_i mixed m85_1 s85_1 (by kernel_rfl) (by kernel_rfl)
    (fun (v : Int × Unit) w' => w' = w ∧ ∃ (j sl : Nat), v.1 = j ∧ j ≤ s.size ∧ RunB s i j sl ∧ E = j + qend (decide (sl % 2 = 1)) (rest s j))
    (fun (v : Int × Unit) _ => s.size - v.1.toNat) (((i + 1 : Nat) : Int), ()) rfl ⟨rfl, i + 1, 0, rfl, hi, ⟨by omega, fun m h1 h2 => by omega, .inl (by omega)⟩, hE.symm⟩ ?_
  intro v g w1 hv
  rw [t85_1]
  obtain ⟨a, ⟨⟩⟩ := v
  dsimp only at hv ⊢
  obtain ⟨hw, j, sl, ha, hj, hrun, hq⟩ := hv
  subst ha hw
  obtain ⟨hr1, hr2, hr3⟩ := hrun
  refine br_both (fun e => ?_) fun e => ?_
  · have hj' : j < s.size := by have := lt_t e; omega
    have hr := pk_rest hj'
    have hwj : IntKind.i64.wrap ((j : Int) + 1) = ((j + 1 : Nat) : Int) := wrap_succ (by omega) (by omega)
    have hc : (s[j]'hj').toNat = pk (rest s j) := by rw [hr]; rfl
    rw [hr, qend] at hq
    have hc34 : (s[j]'hj') = 34 ↔ pk (rest s j) = 34 := by rw [← hc]; exact u8_is (n := 34) (by decide)
    have hc92 : (s[j]'hj') = 92 ↔ pk (rest s j) = 92 := by rw [← hc]; exact u8_is (n := 92) (by decide)
    have next0 : pk (rest s j) ≠ 92 → RunB s i (j + 1) 0 := fun h => ⟨by omega, fun m h1 h2 => by omega, .inr (by simpa using h)⟩
    refine bi_i (by omega) (by rw [Int.toNat_natCast]; exact hj') ?_
    rw [pk_at hj', hwj]
    refine br_both (fun e1 => ?_) fun e1 => ?_
    · have e1 := ne_t e1
      rw [if_neg (fun h => by have := hc34.1 h.1; omega)] at hq
      by_cases h92 : pk (rest s j) = 92
      · rw [if_pos (hc92.2 h92)] at hq
        refine ⟨(((j + 1 : Nat) : Int), ()), rfl, ⟨rfl, j + 1, sl + 1, rfl, hj', ⟨by omega, fun m h1 h2 => ?_, ?_⟩, ?_⟩, by dsimp only; omega⟩
        · rcases Nat.lt_or_ge m j with h | h
          · exact hr2 m (by omega) h
          · rw [show m = j by omega]; exact h92
        · rw [show j + 1 - (sl + 1) = j - sl by omega]; exact hr3
        · rw [hq, show (!decide (sl % 2 = 1)) = decide ((sl + 1) % 2 = 1) by
            by_cases h : sl % 2 = 1
            · rw [decide_eq_true h, decide_eq_false (by omega)]; rfl
            · rw [decide_eq_false h, decide_eq_true (by omega)]; rfl]
          omega
      · rw [if_neg (fun h => h92 (hc92.1 h))] at hq
        refine ⟨(((j + 1 : Nat) : Int), ()), rfl, ⟨rfl, j + 1, 0, rfl, hj', next0 h92, ?_⟩, by dsimp only; omega⟩
        rw [hq]
        show _ = j + 1 + qend false _
        omega
    · have e1 : pk (rest s j) = 34 := by have := ne_f e1; omega
      refine loop_i mixed m85_3 s85_3 (by kernel_rfl) (by kernel_rfl)
        (fun (v : Int × Unit) w' => w' = w1 ∧ ∃ k : Nat, v.1 = k ∧ j - sl ≤ k ∧ k ≤ j)
        (fun (v : Int × Unit) _ => v.1.toNat) ((j : Int), ()) rfl ⟨rfl, j, rfl, by omega, Nat.le_refl _⟩ ?_
      intro v g w2 hv
      rw [t85_3]
      obtain ⟨b, ⟨⟩⟩ := v
      dsimp only at hv ⊢
      obtain ⟨hw, k, hb, hk1, hk2⟩ := hv
      subst hb hw
      rw [hw1]
      have last : k = j - sl → ∀ g : Nat → Value, wpT Tryz.prog (fun e w' => e = .returned (.int .i64 (E : Int)) ∧ w' = w2) (after Tryz.prog (fun e w' => e = .returned (.int .i64 (E : Int)) ∧ w' = w2) (fun _ _ _ => False) m85_1 mx85_1 mr85_1 0 (fun u7 g7 => .done (.returned (.int .i64 (↑s.size : Int)))) (fun u8 g8 => .done (.returned (.int .i64 u8.1))) fun v' w' => (w' = w2 ∧ ∃ (j sl : Nat), v'.1 = j ∧ j ≤ s.size ∧ RunB s i j sl ∧ E = j + qend (decide (sl % 2 = 1)) (rest s j)) ∧ s.size - v'.1.toNat < s.size - (j : Int).toNat)
          (.br ((IntKind.i64.wrap ((j : Int) - (k : Int))).tmod 2 == 0) (.fin .ret [(4, .int .i64 ((j + 1 : Nat) : Int))]) (.fin .normal [(5, .int .i64 ((j + 1 : Nat) : Int))])) .pl w2 := fun hk g => by
        rw [show IntKind.i64.wrap ((j : Int) - (k : Int)) = ((sl : Nat) : Int) by rw [wrap_in (by omega) (by omega)]; omega]
        have hm : ((sl : Nat) : Int).tmod 2 = ((sl % 2 : Nat) : Int) := rfl
        rw [hm]
        refine br_both (fun e2 => ?_) fun e2 => ?_
        · have e2 := eq_t e2
          rw [if_pos ⟨hc34.2 e1, decide_eq_false (by omega)⟩] at hq
          exact ⟨(((j + 1 : Nat) : Int), ()), rfl, fun g => ⟨by rw [hq], rfl⟩⟩
        · have e2 := eq_f e2
          rw [if_neg (fun h => by have := of_decide_eq_false h.2; omega), if_neg (fun h => by have := hc92.1 h; omega)] at hq
          refine ⟨(((j + 1 : Nat) : Int), ()), rfl, ⟨rfl, j + 1, 0, rfl, hj', next0 (by omega), ?_⟩, by dsimp only; omega⟩
          rw [hq]
          show _ = j + 1 + qend false _
          omega
      refine br_both (fun e2 => ?_) fun e2 => ?_
      · have e2 := gt_t e2
        have hkm : IntKind.i64.wrap ((k : Int) - 1) = ((k - 1 : Nat) : Int) := by rw [wrap_in (by omega) (by omega)]; omega
        rw [hkm]
        refine bi_i (by omega) (by rw [Int.toNat_natCast]; omega) ?_
        rw [pk_at (show k - 1 < s.size by omega)]
        refine br_both (fun e3 => ?_) fun e3 => ?_
        · have e3 : pk (rest s (k - 1)) = 92 := by have := eq_t e3; omega
          refine ⟨(((k - 1 : Nat) : Int), ()), rfl, ⟨rfl, k - 1, rfl, ?_, by omega⟩, by dsimp only; omega⟩
          rcases Nat.lt_or_ge (j - sl) k with h | h
          · omega
          · exfalso
            have hkk : k = j - sl := by omega
            rcases hr3 with h' | h'
            · omega
            · rw [hkk] at e3; exact h' e3
        · have e3 := eq_f e3
          refine ⟨rfl, ((k : Int), ()), rfl, fun g => last ?_ g⟩
          rcases Nat.lt_or_ge (j - sl) k with h | h
          · have := hr2 (k - 1) (by omega) (by omega)
            omega
          · omega
      · have e2 := gt_f e2
        exact ⟨rfl, ((k : Int), ()), rfl, fun g => last (by omega) g⟩
  · have hj' : j = s.size := by have := lt_f e; omega
    refine ⟨rfl, (), rfl, fun g => ⟨?_, rfl⟩⟩
    rw [hq, hj', show rest s s.size = [] from List.drop_of_length_le (by have := sizeB s; omega)]
    show Ending.returned (.int .i64 (s.size : Int)) = .returned (.int .i64 ((s.size + 0 : Nat) : Int))
    rfl
section
variable {R : Ending → World → Prop} {Q : Exit → List (Tmp × Value) → World → Prop} {w : World}
/-- A record goes from one block tq another and is loaded there. -/
theorem ret6 {n1 n2 : Nat} {k : ByteArray} {x : VT} {p : Option Addr} {m c : Nat} {q : Option Addr} {t d : Nat} {vs : List Value} {f : ByteArray → Int → Int → ByteArray → Option Addr × Nat × Nat → Option Addr × Nat × Nat → T} (b2 : Blk w n2 [.string k, .int .i64 x.kind, .int .i64 x.int, .string x.text, .slice p m c, .slice q t d] tRec) (b1 : Blk w n1 vs tRec) (hl : vs.length = 6)
    (h : ∀ w1, Ch (· = n1) w w1 → wpT Tryz.prog R Q (f k x.kind x.int x.text (p, m, c) (q, t, d)) .pl w1) :
    wpT Tryz.prog R Q (.load ⟨n2, 0, none⟩ .str (fun s4 => .load ⟨n2, 1, none⟩ (.int .i64) (fun x5 => .load ⟨n2, 2, none⟩ (.int .i64) (fun x6 => .load ⟨n2, 3, none⟩ .str (fun s7 => .load ⟨n2, 4, none⟩ .sl (fun l8 => .load ⟨n2, 5, none⟩ .sl (fun l9 =>
      .store ⟨n1, 0, none⟩ (.string s4) (.store ⟨n1, 1, none⟩ (.int .i64 x5) (.store ⟨n1, 2, none⟩ (.int .i64 x6) (.store ⟨n1, 3, none⟩ (.string s7) (.store ⟨n1, 4, none⟩ (.slice l8.1 l8.2.1 l8.2.2) (.store ⟨n1, 5, none⟩ (.slice l9.1 l9.2.1 l9.2.2)
      (.load ⟨n1, 0, none⟩ .str (fun s10 => .load ⟨n1, 1, none⟩ (.int .i64) (fun x11 => .load ⟨n1, 2, none⟩ (.int .i64) (fun x12 => .load ⟨n1, 3, none⟩ .str (fun s13 => .load ⟨n1, 4, none⟩ .sl (fun l14 => .load ⟨n1, 5, none⟩ .sl (fun l15 => f s10 x11 x12 s13 l14 l15))))))))))))))))))) .pl w := by
  match vs, hl with
  | [v0, v1, v2, v3, v4, v5], _ =>
    refine ld_str (b2.cell 0) (ld_int (b2.cell 1) (ld_int (b2.cell 2) (ld_str (b2.cell 3) (ld_sl (b2.cell 4) (ld_sl (b2.cell 5) ?_)))))
    refine st_blk b1 (by simp) rfl fun w2 h2 z2 b2 => st_blk b2 (by simp) rfl fun w3 h3 z3 b3 => st_blk b3 (by simp) rfl fun w4 h4 z4 b4 => st_blk b4 (by simp) rfl fun w5 h5 z5 b5 => st_blk b5 (by simp) rfl fun w6 h6 z6 b6 => st_blk b6 (by simp) rfl fun w7 h7 z7 b7 => ?_
    refine ld_str (b7.cell 0) (ld_int (b7.cell 1) (ld_int (b7.cell 2) (ld_str (b7.cell 3) (ld_sl (b7.cell 4) (ld_sl (b7.cell 5) ?_)))))
    exact h w7 (h2.trans (h3.trans (h4.trans (h5.trans (h6.trans h7)))))
end
/-- A record read, or its fault. -/
def recM (L : List UInt8) (at_ : Nat) : Except (Nat × Int) RecM :=
  if pk L ≠ 34 then .error (at_, 67)
  else match parseX (L.take (1 + qend false L.tail)) with
    | .error f => .error (at_ + ((L.take (1 + qend false L.tail)).length - f.2), f.1)
    | .ok (k, _) => if k.text.size > 12 then .error (at_, 24)
      else match parseX (L.drop (1 + qend false L.tail)) with
        | .error f => .error (at_ + (1 + qend false L.tail) + ((L.drop (1 + qend false L.tail)).length - f.2), f.1)
        | .ok (v, _) => .ok ⟨k.text, v, []⟩
theorem tapeLine_rec (l : List UInt8) (st : List RecM) : tapeLine l st = if st.length = 64 then .error (l.length - (skipS l).length, 65) else match recM (skipS l) (l.length - (skipS l).length) with
    | .error e => .error e
    | .ok r => .ok (st ++ [r]) := by
  unfold tapeLine recM
  by_cases h0 : st.length = 64
  · rw [if_pos h0, if_pos h0]
  rw [if_neg h0, if_neg h0]
  by_cases h1 : pk (skipS l) ≠ 34
  · rw [if_pos h1, if_pos h1]
  rw [if_neg h1, if_neg h1]
  cases parseX ((skipS l).take (1 + qend false (skipS l).tail)) with
  | error f => rfl
  | ok y =>
    obtain ⟨k, n⟩ := y
    dsimp only
    by_cases h2 : k.text.size > 12
    · rw [if_pos h2, if_pos h2]
    rw [if_neg h2, if_neg h2]
    cases parseX ((skipS l).drop (1 + qend false (skipS l).tail)) with
    | error f => rfl
    | ok y => rfl
/-- What record answers. -/
def RecR (w : World) (e : Ending) (w' : World) : Except (Nat × Int) RecM → Prop
  | .error (a, c) => e = .returned (.tuple #[.agg #[.string (bytesL []), .int .i64 0, .int .i64 0, .string (bytesL []), .slice none 0 0, .slice none 0 0], .int .i64 (a : Int), .int .i64 c]) ∧ c ≠ 0
  | .ok r => ∃ p m c, e = .returned (.tuple #[.agg #[.string r.key, .int .i64 r.val.kind, .int .i64 r.val.int, .string r.val.text, .slice p m c, .slice none 0 0], .int .i64 0, .int .i64 0]) ∧ IsVB (fun b => w.heap.size ≤ b ∧ b < w'.heap.size) w' r.val p m c ∧ r.loops = []
theorem ex_list (s : ByteArray) (a b : Nat) : (s.extract a b).data.toList = (rest s a).take (b - a) := extract_list s a b
set_option maxHeartbeats 2000000 in
theorem rrec_any (s : ByteArray) (i : Nat) (w : World) (hs : s.size ≤ 1000000) (hi : i < s.size) :
    Calls Tryz.prog 48 #[.string s, .int .i64 (i : Int)] w fun e w' => Ch No w w' ∧ RecR w e w' (recM (rest s i) i) := by
  refine calls_of_fnT mixed Tryz.func48 (s := s48) ?_
  rw [t48]
  refine nw fun w1 h1 z1 (b1 : Blk w1 _ [.string (bytesL []), .int .i64 0, .int .i64 0, .string (bytesL []), .slice none 0 0, .slice none 0 0] tRec) => nw fun w2 h2 z2 (b2 : Blk w2 _ [.string (bytesL []), .int .i64 (VT.kind (.mk 0 0 (bytesL []) [])), .int .i64 (VT.int (.mk 0 0 (bytesL []) [])), .string (VT.text (.mk 0 0 (bytesL []) [])), .slice none 0 0, .slice none 0 0] tRec) => ?_
  have b12 := b1.ch h2 (fun h => h)
  have hn1 := b1.lt
  have hn2 := b2.lt
  generalize hN2 : w1.heap.size = n2 at *
  have H2 := h1.trans h2
  have hws : w.heap.size < n2 := hn1
  have htl : (rest s i).tail = rest s (i + 1) := rest_tail s i
  refine bi_i (by omega) (by rw [Int.toNat_natCast]; exact hi) ?_
  rw [pk_at hi]
  refine br_both (fun e => ?_) fun e => ?_
  · have e := ne_t e
    refine ret6 b2 b12 rfl fun w3 h3 => ⟨H2.then_ h3 fun k hk e => by omega, ?_⟩
    rw [show recM (rest s i) i = .error (i, 67) by unfold recM; rw [if_pos (by omega)]]
    exact ⟨rfl, by decide⟩
  have h34 : pk (rest s i) = 34 := by have := ne_f e; omega
  clear e
  have hqle := qend_le false (rest s (i + 1))
  rw [restL] at hqle
  refine cl_i (rclose_any s i w2 (by omega) hi) ?_
  rintro e w3 ⟨rfl, rfl⟩
  generalize hto : i + 1 + qend false (rest s (i + 1)) = tq at *
  have hq : 1 + qend false (rest s i).tail = tq - i := by rw [htl]; omega
  refine ⟨(tq : Int), rfl, nd3 (by omega) (by omega) (by omega) ?_⟩
  rw [Int.toNat_natCast, Int.toNat_natCast]
  have hL1 : (s.extract i tq).data.toList = (rest s i).take (1 + qend false (rest s i).tail) := by rw [ex_list, hq]
  have hz1 : (s.extract i tq).size = ((rest s i).take (1 + qend false (rest s i).tail)).length := by rw [← hL1]; exact (sizeB _).symm
  have hz1' : ((rest s i).take (1 + qend false (rest s i).tail)).length = tq - i := by rw [List.length_take, restL, hq]; omega
  have hL2 : (s.extract tq s.size).data.toList = (rest s i).drop (1 + qend false (rest s i).tail) := by
    rw [ex_list, List.take_of_length_le (by rw [restL]; omega), hq]
    show List.drop tq _ = List.drop (tq - i) (List.drop i _)
    rw [List.drop_drop, show i + (tq - i) = tq by omega]
  have hz2 : (s.extract tq s.size).size = ((rest s i).drop (1 + qend false (rest s i).tail)).length := by rw [← hL2]; exact (sizeB _).symm
  have hz2' : ((rest s i).drop (1 + qend false (rest s i).tail)).length = s.size - tq := by rw [List.length_drop, restL, hq]; omega
  have hc1 := parse2_any (s.extract i tq) w3 (by omega)
  rw [hL1] at hc1
  have hrec : recM (rest s i) i = match parseX ((rest s i).take (1 + qend false (rest s i).tail)) with
    | .error f => .error (i + (((rest s i).take (1 + qend false (rest s i).tail)).length - f.2), f.1)
    | .ok (k, _) => if k.text.size > 12 then .error (i, 24)
      else match parseX ((rest s i).drop (1 + qend false (rest s i).tail)) with
        | .error f => .error (i + (1 + qend false (rest s i).tail) + (((rest s i).drop (1 + qend false (rest s i).tail)).length - f.2), f.1)
        | .ok (v, _) => .ok ⟨k.text, v, []⟩ := by
    unfold recM
    rw [if_neg (fun h => h h34)]
  rw [hrec]
  clear hrec
  refine cl_i hc1 ?_
  rintro e w4 ⟨h4, hP⟩
  have b24 := b2.ch h4 (fun h => h)
  have b14 := b12.ch h4 (fun h => h)
  cases hx : parseX ((rest s i).take (1 + qend false (rest s i).tail)) with
  | error f =>
    rw [hx] at hP
    obtain ⟨hf0, hfs, rfl⟩ := hP
    refine ⟨((0, 0, bytesL [], (none, 0, 0), ()), _, f.1, ()), rfl, ?_⟩
    dsimp only
    refine put_v (x := .mk 0 0 (bytesL []) []) (p := none) (m := 0) (c := 0) fun w5 h5 b5 => ?_
    refine br_both (fun _ => ?_) fun e => absurd (ne_f e) hf0
    refine ret6 (b24.ch h5 (fun h => h)) (b14.ch h5 (fun h => h)) rfl fun w6 h6 => ⟨(H2.trans (h4.trans h5)).then_ h6 fun k hk e => by omega, ?_, hf0⟩
    rw [show IntKind.i64.wrap ((i : Int) + (((s.extract i tq).size - f.2 : Nat) : Int)) = ((i + (((rest s i).take (1 + qend false (rest s i).tail)).length - f.2) : Nat) : Int) by
      rw [wrap_in (by omega) (by omega)]; omega]
    rfl
  | ok y =>
    obtain ⟨k, nk⟩ := y
    rw [hx] at hP
    obtain ⟨p4, m4, c4, rfl, V4⟩ := hP
    dsimp only
    refine ⟨((k.kind, k.int, k.text, (p4, m4, c4), ()), _, 0, ()), rfl, ?_⟩
    dsimp only
    refine put_v (x := k) (p := p4) (m := m4) (c := c4) fun w5 h5 b5 => ?_
    have b25 := b24.ch h5 (fun h => h)
    have b15 := b14.ch h5 (fun h => h)
    have H5 := H2.trans (h4.trans h5)
    refine br_both (fun e => absurd e (by decide)) fun _ => ld_str (b5.cell 2) (br_both (fun e => ?_) fun e => ?_)
    · have e := gt_t e
      rw [if_pos (by omega)]
      refine ret6 b25 b15 rfl fun w6 h6 => ⟨H5.then_ h6 fun k hk e => by omega, rfl, by decide⟩
    have e := gt_f e
    rw [if_neg (by omega)]
    refine nd3 (by omega) (by omega) (by omega) ?_
    have hc2 := parse2_any (s.extract tq s.size) w5 (by omega)
    rw [hL2] at hc2
    refine cl_i hc2 ?_
    rintro e w6 ⟨h6, hP⟩
    have b26 := b25.ch h6 (fun h => h)
    have b16 := b15.ch h6 (fun h => h)
    cases hy : parseX ((rest s i).drop (1 + qend false (rest s i).tail)) with
    | error f =>
      rw [hy] at hP
      obtain ⟨hf0, hfs, rfl⟩ := hP
      refine ⟨((0, 0, bytesL [], (none, 0, 0), ()), _, f.1, ()), rfl, ?_⟩
      dsimp only
      refine put_v (x := .mk 0 0 (bytesL []) []) (p := none) (m := 0) (c := 0) fun w7 h7 b7 => ?_
      refine br_both (fun _ => ?_) fun e => absurd (ne_f e) hf0
      refine ret6 (b26.ch h7 (fun h => h)) (b16.ch h7 (fun h => h)) rfl fun w8 h8 => ⟨(H5.trans (h6.trans h7)).then_ h8 fun k hk e => by omega, ?_, hf0⟩
      rw [show IntKind.i64.wrap ((tq : Int) + (((s.extract tq s.size).size - f.2 : Nat) : Int)) = ((i + (1 + qend false (rest s i).tail) + (((rest s i).drop (1 + qend false (rest s i).tail)).length - f.2) : Nat) : Int) by
        rw [wrap_in (by omega) (by omega)]; omega]
      rfl
    | ok z =>
      obtain ⟨v, nv⟩ := z
      rw [hy] at hP
      obtain ⟨p6, m6, c6, rfl, V6⟩ := hP
      refine ⟨((v.kind, v.int, v.text, (p6, m6, c6), ()), _, 0, ()), rfl, ?_⟩
      dsimp only
      refine put_v (x := v) (p := p6) (m := m6) (c := c6) fun w7 h7 b7 => ?_
      have b27 := b26.ch h7 (fun h => h)
      have b17 := b16.ch h7 (fun h => h)
      have b57 := (b5.ch h6 (fun h => h)).ch h7 (fun h => h)
      have s4 := h4.size
      have s5 := h5.size
      have s6 := h6.size
      have s7 := h7.size
      have s2 := h2.size
      refine br_both (fun e => absurd e (by decide)) fun _ => ld_str (b57.cell 2) ?_
      refine st_blk b27 (by simp) rfl fun w8 h8 z8 b8 => ?_
      have b78 := b7.ch h8 (fun e => by omega)
      refine ld_v b78 ?_
      refine st_blk b8 (by simp) rfl fun w9 h9 z9 b9 => st_blk b9 (by simp) rfl fun wa ha za ba => st_blk ba (by simp) rfl fun wb hb zb bb => st_blk bb (by simp) rfl fun wc hc zc bc => ?_
      have hS : Ch (· = n2) w7 wc := h8.trans (h9.trans (ha.trans (hb.trans hc)))
      refine ret6 (x := v) bc (b17.ch hS (fun e => by omega)) rfl fun wd hd => ?_
      have hSd : Ch (fun k => k = w.heap.size ∨ k = n2) w7 wd := (hS.mono fun k hk => .inr hk).trans (hd.mono fun k hk => .inl hk)
      have sd := hSd.size
      refine ⟨(H5.trans (h6.trans h7)).then_ hSd fun k hk e => by omega, p6, m6, c6, rfl, ?_, rfl⟩
      exact ((V6.ch h7 (fun k _ h => h)).ch hSd (fun k hk e => by have := hk.1; omega)).mono fun k hk => ⟨by have := hk.1; omega, by have := hk.2; omega⟩
end Go.Proofs.YtjlmkahagcojcaaGreatDoor.V
