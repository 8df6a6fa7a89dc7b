/- The document's reader: quoted. -/
import Derived.Test.YtjlmkahagcojcaaGreatDoorXg
namespace Go.Proofs.YtjlmkahagcojcaaGreatDoor.V
open Go Tr
open Go.Lib (decodeL byteCells)
set_option maxRecDepth 100000
/-! the tree of function 164 -/
abbrev fx164_2 (qa0 : Addr) : List (Tmp × Value) := [(0, .pointer (some qa0))]
abbrev L164_2 (x1 : Int) : List (Tmp × Value) := [(2, .slice none 0 0), (3, .int .i64 (IntKind.i64.wrap (x1 + 1)))]
abbrev mx164_2 : List (Tmp × Comp) := [(2, .leaf .sl), (3, .leaf (.int .i64))]
abbrev mr164_2 : List (Tmp × Comp) := []
abbrev fx164_3 (qa0 : Addr) : List (Tmp × Value) := [(0, .pointer (some qa0))]
abbrev m164_3 : List (Tmp × Comp) := [(2, .leaf .sl), (3, .leaf (.int .i64))]
abbrev mx164_3 : List (Tmp × Comp) := [(2, .leaf .sl), (3, .leaf (.int .i64))]
abbrev mr164_3 : List (Tmp × Comp) := []
abbrev fx164_4 (qa0 : Addr) (l_2 : Option Addr × Nat × Nat) (x_3 : Int) : List (Tmp × Value) := [(0, .pointer (some qa0)), (2, .slice l_2.1 l_2.2.1 l_2.2.2), (3, .int .i64 x_3)]
abbrev mx164_4 : List (Tmp × Comp) := [(30, .leaf .bool)]
def s164_4 : Script := .ld .str (.sym (.lit (.lit (.lit (.ld .str (.lit (.lit (.ix (.lit (.lit .nil))))))))) (.lit (.lit (.lit (.lit (.lit (.lit (.lit .nil))))))))
theorem t164_4 (qa0 : Addr) (l_2 : Option Addr × Nat × Nat) (x_3 : Int) (gg4 : Nat → Value) : pieceT Tryz.prog (at_ Tryz.f164 [1, 1, 0, 0, 0, 0, 0]) 134 (fx164_4 qa0 l_2 x_3) gg4 (mx164_4.map (·.1)) [] [] s164_4 = .load qa0 .str (fun s5 => .br (Decidable.decide (x_3 < (↑s5.size : Int))) (.load qa0 .str (fun s6 => .bidx s6 x_3 (fun c7 => .fin .normal [(30, .bool (c7 != 34))]))) (.fin .normal [(30, .bool false)])) := by kernel_rfl
abbrev fx164_15 (qa0 : Addr) (l_2 : Option Addr × Nat × Nat) (x_3 : Int) (r14 : Int × Int × Int × Unit) : List (Tmp × Value) := [(0, .pointer (some qa0)), (2, .slice l_2.1 l_2.2.1 l_2.2.2), (3, .int .i64 x_3), (7, .int .u8 r14.1), (8, .int .i64 r14.2.1), (9, .int .i64 r14.2.2.1)]
abbrev L164_15 : List (Tmp × Value) := []
abbrev mx164_15 : List (Tmp × Comp) := []
abbrev mr164_15 : List (Tmp × Comp) := []
def s164_15 : Script := .sym (.cl (.tup []) .nil) .nil
theorem t164_15 (qa0 : Addr) (l_2 : Option Addr × Nat × Nat) (x_3 : Int) (r14 : Int × Int × Int × Unit) (gg15 : Nat → Value) : pieceT Tryz.prog (at_ Tryz.f164 [1, 1, 0, 0, 0, 1, 0, 1, 1, 0, 1, 0, 1, 0]) 134 (fx164_15 qa0 l_2 x_3 r14 ++ L164_15) gg15 (mx164_15.map (·.1)) [] (mr164_15.map (·.1)) s164_15 = .br (r14.snd.fst == 0) (.call 161 #[.pointer (some qa0), .int .i64 28, .int .i64 r14.2.2.1] (.tup []) (fun r16 => .fin .ret [])) (.fin .normal []) := by kernel_rfl
abbrev fx164_21 (qa0 : Addr) (l_2 : Option Addr × Nat × Nat) (x_3 : Int) (c10 : Int) (r12 : Int × Int × Unit) : List (Tmp × Value) := [(0, .pointer (some qa0)), (2, .slice l_2.1 l_2.2.1 l_2.2.2), (3, .int .i64 x_3), (4, .int .u8 c10), (6, .int .i64 r12.2.1)]
abbrev mx164_21 : List (Tmp × Comp) := [(74, .leaf .bool)]
def s164_21 : Script := .sym (.lit (.lit .nil)) (.lit (.lit .nil))
theorem t164_21 (qa0 : Addr) (l_2 : Option Addr × Nat × Nat) (x_3 : Int) (c10 : Int) (r12 : Int × Int × Unit) (gg21 : Nat → Value) : pieceT Tryz.prog (at_ Tryz.f164 [1, 1, 0, 0, 0, 1, 0, 1, 1, 0, 1, 1, 0]) 134 (fx164_21 qa0 l_2 x_3 c10 r12) gg21 (mx164_21.map (·.1)) [] [] s164_21 = .br (Decidable.decide (c10 ≥ 32)) (.fin .normal [(74, .bool (Decidable.decide (c10 < 127)))]) (.fin .normal [(74, .bool false)]) := by kernel_rfl
def s164_3 : Script := .ct 1 [0, 2, 3] mx164_4 (.sym (.ld .str (.ix (.ld .str (.cl (.tup [.leaf (.int .i64), .leaf (.int .i64)]) (.sym (.ld .str (.cl (.tup [.leaf (.int .u8), .leaf (.int .i64), .leaf (.int .i64)]) (.cr 0 [0, 2, 3, 7, 8, 9] [] mx164_15 mr164_15 (.nop (.nop (.nop (.rn (.one (.leaf .sl)) .nil)))) .nil))) (.ct 0 [0, 2, 3, 4, 6] mx164_21 (.sym (.nop (.nop (.nop (.rn (.one (.leaf .sl)) .nil)))) (.sym (.ld .str (.nop (.nop (.nop (.nop (.nd (.rn (.one (.leaf .sl)) .nil))))))) (.cl (.tup []) .nil))))))))) .nil)
theorem t164_3 (qa0 : Addr) (l_2 : Option Addr × Nat × Nat) (x_3 : Int) (gg3 : Nat → Value) : pieceT Tryz.prog (at_ Tryz.f164 [1, 1, 0, 0, 0]) 134 (fx164_3 qa0 ++ mvals m164_3 (l_2, x_3, ())) gg3 (m164_3.map (·.1)) (mx164_3.map (·.1)) (mr164_3.map (·.1)) s164_3 = .cut (at_ Tryz.f164 [1, 1, 0, 0, 0, 0, 0]) 134 (fx164_4 qa0 l_2 x_3) mx164_4 (fun u8 g8 => .br u8.1 (.load qa0 .str (fun s9 => .bidx s9 x_3 (fun c10 => .load qa0 .str (fun s11 => .call 143 #[.string s11, .int .i64 x_3] (.tup [.leaf (.int .i64), .leaf (.int .i64)]) (fun r12 => .br (c10 == 92) (.load qa0 .str (fun s13 => .call 179 #[.string s13, .int .i64 x_3] (.tup [.leaf (.int .u8), .leaf (.int .i64), .leaf (.int .i64)]) (fun r14 => .cutr (at_ Tryz.f164 [1, 1, 0, 0, 0, 1, 0, 1, 1, 0, 1, 0, 1, 0]) 134 (fx164_15 qa0 l_2 x_3 r14) L164_15 mx164_15 mr164_15 (fun u17 g17 => .new (.cells #[.int .u8 r14.1] 5 (0, 0)) (fun n18 => .run (builtin .append #[92, 92] 92 #[false, false] #[.slice l_2.1 l_2.2.1 l_2.2.2, .slice (some ⟨n18, 0, none⟩) 1 1]) (.one (.leaf .sl)) (fun l19 => .fin .normal [(2, .slice l19.1 l19.2.1 l19.2.2), (3, .int .i64 (IntKind.i64.wrap (x_3 + r14.snd.fst)))]))) (fun u20 g20 => .fin .ret [])))) (.cut (at_ Tryz.f164 [1, 1, 0, 0, 0, 1, 0, 1, 1, 0, 1, 1, 0]) 134 (fx164_21 qa0 l_2 x_3 c10 r12) mx164_21 (fun u22 g22 => .br u22.1 (.new (.cells #[.int .u8 c10] 5 (0, 0)) (fun n23 => .run (builtin .append #[92, 92] 92 #[false, false] #[.slice l_2.1 l_2.2.1 l_2.2.2, .slice (some ⟨n23, 0, none⟩) 1 1]) (.one (.leaf .sl)) (fun l24 => .fin .normal [(2, .slice l24.1 l24.2.1 l24.2.2), (3, .int .i64 (IntKind.i64.wrap (x_3 + 1)))]))) (.br (Decidable.decide (r12.snd.fst > 0)) (.load qa0 .str (fun s25 => .need (Decidable.decide (0 ≤ x_3 ∧ x_3 ≤ IntKind.i64.wrap (x_3 + r12.snd.fst) ∧ IntKind.i64.wrap (x_3 + r12.snd.fst) ≤ (↑s25.size : Int))) (.run (builtin .append #[92, 9] 92 #[false, false] #[.slice l_2.1 l_2.2.1 l_2.2.2, .string (s25.extract x_3.toNat (IntKind.i64.wrap (x_3 + r12.snd.fst)).toNat)]) (.one (.leaf .sl)) (fun l26 => .fin .normal [(2, .slice l26.1 l26.2.1 l26.2.2), (3, .int .i64 (IntKind.i64.wrap (x_3 + r12.snd.fst)))])))) (.call 161 #[.pointer (some qa0), .int .i64 28, .int .i64 x_3] (.tup []) (fun r27 => .fin .ret [])))))))))) (.fin (.exit 0) [(2, .slice l_2.1 l_2.2.1 l_2.2.2), (3, .int .i64 x_3)])) := by kernel_rfl
def s164_2 : Script := .lp 0 [0] [2, 3] mx164_3 mr164_3 .nil .nil
theorem t164_2 (qa0 : Addr) (x1 : Int) (gg2 : Nat → Value) : pieceT Tryz.prog (at_ Tryz.f164 [1, 1, 0]) 134 (fx164_2 qa0 ++ L164_2 x1) gg2 (mx164_2.map (·.1)) [] (mr164_2.map (·.1)) s164_2 = .loop (at_ Tryz.f164 [1, 1, 0, 0, 0]) 134 (fx164_3 qa0) [(2, .slice none 0 0), (3, .int .i64 (IntKind.i64.wrap (x1 + 1)))] mx164_3 mr164_3 0 (fun u28 g28 => .fin .normal [(2, .slice u28.1.1 u28.1.2.1 u28.1.2.2), (3, .int .i64 u28.2.1)]) (fun u29 g29 => .fin .ret []) := by kernel_rfl
abbrev fx164_31 (qa0 : Addr) (u30 : (Option Addr × Nat × Nat) × Int × Unit) : List (Tmp × Value) := [(0, .pointer (some qa0)), (2, .slice u30.1.1 u30.1.2.1 u30.1.2.2), (3, .int .i64 u30.2.1)]
abbrev L164_31 : List (Tmp × Value) := []
abbrev mx164_31 : List (Tmp × Comp) := []
abbrev mr164_31 : List (Tmp × Comp) := []
def s164_31 : Script := .ld .str (.sym (.ld .str (.cl (.tup []) .nil)) .nil)
theorem t164_31 (qa0 : Addr) (u30 : (Option Addr × Nat × Nat) × Int × Unit) (gg31 : Nat → Value) : pieceT Tryz.prog (at_ Tryz.f164 [1, 1, 1, 0]) 134 (fx164_31 qa0 u30 ++ L164_31) gg31 (mx164_31.map (·.1)) [] (mr164_31.map (·.1)) s164_31 = .load qa0 .str (fun s32 => .br (Decidable.decide (u30.snd.fst ≥ (↑s32.size : Int))) (.load qa0 .str (fun s33 => .call 161 #[.pointer (some qa0), .int .i64 28, .int .i64 (↑s33.size : Int)] (.tup []) (fun r34 => .fin .ret []))) (.fin .normal [])) := by kernel_rfl
def s164 : Script := .ld (.int .i64) (.cr 0 [0] [2, 3] mx164_2 mr164_2 (.cr 0 [0, 2, 3] [] mx164_31 mr164_31 (.sym (.ld (.int .i64) (.cl (.tup []) .nil)) (.nop (.nop (.rn (.one (.leaf .str)) (.cl (.tup []) .nil))))) .nil) .nil)
theorem t164 (qa0 : Addr) : fnT Tryz.prog Tryz.f164 #[.pointer (some qa0)] s164 = .load (qa0.add 1) (.int .i64) (fun x1 => .cutr (at_ Tryz.f164 [1, 1, 0]) 134 (fx164_2 qa0) (L164_2 x1) mx164_2 mr164_2 (fun u30 g30 => .cutr (at_ Tryz.f164 [1, 1, 1, 0]) 134 (fx164_31 qa0 u30) L164_31 mx164_31 mr164_31 (fun u35 g35 => .br (Decidable.decide ((↑u30.fst.snd.fst : Int) > 24)) (.load (qa0.add 1) (.int .i64) (fun x36 => .call 161 #[.pointer (some qa0), .int .i64 21, .int .i64 x36] (.tup []) (fun r37 => .done (.returned (.tuple #[]))))) (.run (vNext (convert 92 9 (.slice u30.1.1 u30.1.2.1 u30.1.2.2))) (.one (.leaf .str)) (fun s38 => .call 162 #[.pointer (some qa0), .agg #[.int .i64 2, .int .i64 0, .string s38, .int .i64 0], .int .i64 (IntKind.i64.wrap (u30.snd.fst + 1))] (.tup []) (fun r39 => .done (.returned (.tuple #[])))))) (fun u40 g40 => .done (.returned (.tuple #[])))) (fun u41 g41 => .done (.returned (.tuple #[])))) := by kernel_rfl
theorem runeM_two (l : List UInt8) (hl : l ≠ []) : (0 < (runeM l).2 ↔ ¬ (pk l < 128 ∨ (decodeL l).2 < 2)) ∧ (0 < (runeM l).2 → (runeM l).2 = (decodeL l).2) := by
  unfold runeM
  have hpk : (l.getD 0 0).toNat = pk l := by cases l <;> rfl
  have := decode_cases l hl
  rw [hpk] at this
  by_cases h : 2 ≤ (decodeL l).2
  · rw [if_pos h]
    exact ⟨⟨fun _ => by omega, fun _ => by omega⟩, fun _ => rfl⟩
  · rw [if_neg h]
    exact ⟨⟨fun h => absurd h (by decide), fun h' => absurd (show 2 ≤ (decodeL l).2 by omega) h⟩, fun h => absurd h (by decide)⟩
section
variable {B : Nat} {w : World} {nd : Nat} {s : ByteArray} {i : Nat} {P : List PartM} {O : List Nat} {q : Option Addr} {t d : Nat} {q2 : Option Addr} {t2 d2 : Nat}
def TxtR (B : Nat) (w0 : World) (nd : Nat) (s : ByteArray) (P : List PartM) (O : List Nat) (q2 : Option Addr) (t2 d2 : Nat) (w' : World) : Except Flt (ByteArray × List UInt8) → Prop
  | .error f => Ch (B ≤ ·) w0 w' ∧ MBad w' nd s f
  | .ok (v, r) => Ch (B ≤ ·) w0 w' ∧ ∃ j q' t' d', MSx B w' nd s j (P ++ [⟨2, 0, v, 0⟩]) O q' t' d' q2 t2 d2 ∧ rest s j = r
set_option maxHeartbeats 1000000 in
theorem mquoted_any (D : MSx B w nd s i P O q t d q2 t2 d2) (hp : P.length < 12) (hb : pk (rest s i) = 34) :
    Calls Tryz.prog 164 #[.pointer (some ⟨nd, 0, none⟩)] w fun e w' => e = .returned (.tuple #[]) ∧ TxtR B w nd s P O q2 t2 d2 w' (rtextX (rest s i)) := by
  refine calls_of_fnT mixed Tryz.func164 (s := s164) ?_
  rw [t164]
  have hbig := D.ok.big
  have hil : i < s.size := pk_lt s i (by omega)
  have hw1 : IntKind.i64.wrap ((i : Int) + 1) = ((i + 1 : Nat) : Int) := wrap_succ (by omega) (by omega)
  have hrt : rtextX (rest s i) = (match readX ((rest s (i + 1)).length + 1) [] (rest s (i + 1)) with
      | .error e => .error e
      | .ok (b, r) => if b.length > 24 then .error (21, (rest s i).length) else .ok (⟨b.toArray⟩, r)) := by
    unfold rtextX
    rw [rest_tail]
    rfl
  generalize hM : readX ((rest s (i + 1)).length + 1) [] (rest s (i + 1)) = M at *
  refine ld_int (D.blk.cell 1) ?_
  refine cutr_i mixed s164_2 (fun v w' => Ch No w w' ∧ ∃ (qb : Option Addr) (nb cb j : Nat) (acc : List UInt8), v = ((qb, nb, cb), (j : Int), ()) ∧ RowB w' w.heap.size qb nb cb acc ∧ j ≤ s.size ∧ acc.length ≤ j ∧ ((j = s.size ∧ M = .error (28, 0)) ∨ (j < s.size ∧ M = .ok (acc, rest s (j + 1))))) (fun _ w' => TxtR B w nd s P O q2 t2 d2 w' (rtextX (rest s i))) (by kernel_rfl) (by kernel_rfl) (fun g => ?_) ?_ (fun v g w' h => ⟨rfl, h⟩)
  · rw [t164_2, hw1]
    refine loop_i mixed m164_3 s164_3 (by kernel_rfl) (by kernel_rfl)
      (fun (v : (Option Addr × Nat × Nat) × Int × Unit) w' => Ch No w w' ∧ ∃ (j f : Nat) (acc : List UInt8), v.2.1 = j ∧ RowB w' w.heap.size v.1.1 v.1.2.1 v.1.2.2 acc ∧ j ≤ s.size ∧ acc.length ≤ j ∧ (rest s j).length < f ∧ M = readX f acc (rest s j))
      (fun (v : (Option Addr × Nat × Nat) × Int × Unit) _ => s.size - v.2.1.toNat) ((none, 0, 0), ((i + 1 : Nat) : Int), ()) rfl ⟨Ch.refl _ _, i + 1, _, [], rfl, Row.nil _ _ _ _, by omega, by simp, Nat.lt_succ_self _, hM.symm⟩ ?_
    intro v g w1 hv
    rw [t164_3]
    obtain ⟨⟨qb, nb, cb⟩, a, ⟨⟩⟩ := v
    dsimp only at hv ⊢
    obtain ⟨h1, j, f, acc, ha, hR, hj, hacc, hf, hMj⟩ := hv
    subst ha
    have D1 := D.no h1
    have hn := hR.len
    obtain ⟨f, rfl⟩ : ∃ f', f = f' + 1 := ⟨f - 1, by omega⟩
    have lenR : ∀ j, (rest s j).length = s.size - j := restL s
    refine cut_i mixed s164_4 (fun v w' => w' = w1 ∧ v.1 = decide (j < s.size ∧ pk (rest s j) ≠ 34)) (by kernel_rfl) (fun g => ?_) ?_
    · rw [t164_4]
      refine ld_str (D1.blk.cell 0) (br_both (fun e => ?_) fun e => ⟨rfl, (false, ()), rfl, rfl, ?_⟩)
      · have hj' : j < s.size := by have := lt_t e; omega
        refine ld_str (D1.blk.cell 0) (bi_i (by omega) (by rw [Int.toNat_natCast]; exact hj') ⟨rfl, (_, ()), rfl, rfl, ?_⟩)
        rw [pk_at hj']
        dsimp only
        by_cases h : pk (rest s j) = 34
        · rw [decide_eq_false (fun h' => h'.2 h), h]; rfl
        · rw [decide_eq_true ⟨hj', h⟩]; exact bne_iff_ne.2 (by omega)
      · have e := lt_f e
        exact (decide_eq_false (by omega)).symm
    rintro ⟨u, ⟨⟩⟩ g w2 ⟨rfl, hu⟩
    dsimp only at hu
    subst hu
    refine br_both (fun e => ?_) fun e => ?_
    · obtain ⟨hj', h34⟩ := of_decide_eq_true e
      have hne : rest s j ≠ [] := fun h => by have := lenR j; rw [h] at this; simp at this; omega
      have hb256 := pk_256 (rest s j)
      have hwj : IntKind.i64.wrap ((j : Int) + 1) = ((j + 1 : Nat) : Int) := wrap_succ (by omega) (by omega)
      -- one more round
      have again : ∀ (q' : Option Addr) (c' j' : Nat) (news : List UInt8) (w3 w' : World), Ch No w2 w3 → GrewB w.heap.size w3 qb nb cb w' q' (nb + news.length) c' (acc ++ news) → j < j' → j' ≤ s.size → acc.length + news.length ≤ j' → M = readX f (acc ++ news) (rest s j') →
          ∃ v' : MVars m164_3, [((2 : Nat), Value.slice q' (nb + news.length) c'), (3, .int .i64 (j' : Int))] = mvals m164_3 v' ∧ (Ch No w w' ∧ ∃ (j f : Nat) (acc : List UInt8), v'.2.1 = j ∧ RowB w' w.heap.size v'.1.1 v'.1.2.1 v'.1.2.2 acc ∧ j ≤ s.size ∧ acc.length ≤ j ∧ (rest s j).length < f ∧ M = readX f acc (rest s j)) ∧ s.size - v'.2.1.toNat < s.size - (j : Int).toNat := fun q' c' j' news w3 w' h3 hg hjj hjs hl hm => by
        refine ⟨((q', nb + news.length, c'), (j' : Int), ()), rfl, ⟨(h1.trans h3).then_ hg.ch fun k hk hk' => ?_, j', f, acc ++ news, rfl, hg.own, hjs, by rw [List.length_append]; exact hl, by rw [lenR] at hf ⊢; omega, hm⟩, ?_⟩
        · have := (Row.lt (Row.no hR h3) hk').1
          omega
        · dsimp only
          rw [Int.toNat_natCast, Int.toNat_natCast]
          exact Nat.sub_lt_sub_left hj' hjj
      have bad : ∀ (a : Nat) (w' : World), M = .error (28, (rest s a).length) → Ch (B ≤ ·) w2 w' → MBad w' nd s (28, (rest s a).length) → TxtR B w nd s P O q2 t2 d2 w' (rtextX (rest s i)) := fun a w' hm h2 h3 => by
        rw [hrt, hm]
        exact ⟨h1.no.trans h2, h3⟩
      refine ld_str (D1.blk.cell 0) (bi_i (by omega) (by rw [Int.toNat_natCast]; exact hj') ?_)
      rw [pk_at hj']
      refine ld_str (D1.blk.cell 0) (cl_i (runeAt_any s j w2 (by omega) hj') ?_)
      rintro e' w3 ⟨rfl, rfl⟩
      refine ⟨(((runeM (rest s j)).1 : Int), ((runeM (rest s j)).2 : Int), ()), rfl, ?_⟩
      refine br_both (fun e1 => ?_) fun e1 => ?_
      · have e1 : pk (rest s j) = 92 := by have := eq_t e1; omega
        have hst := readX_back f acc (rest s j) e1
        rw [rest_tail] at hst
        refine ld_str (D1.blk.cell 0) (cl_i (mescape_any s j w3 hbig hj') ?_)
        rintro e' w4 ⟨hE, rfl⟩
        cases hx : escX (rest s (j + 1)) with
        | error fl =>
          rw [hx] at hE hst
          obtain ⟨a, rfl, hal, hfl⟩ := hE
          refine ⟨(0, 0, (a : Int), ()), rfl, ?_⟩
          refine cutr_i mixed s164_15 (fun _ _ => False) (fun _ w' => TxtR B w nd s P O q2 t2 d2 w' (rtextX (rest s i))) (by kernel_rfl) (by kernel_rfl) (fun g => ?_) (fun _ _ _ h => h.elim) (fun v g w' h => ⟨(), rfl, fun g => ⟨(), rfl, h⟩⟩)
          rw [t164_15]
          dsimp only
          refine br_both (fun _ => ?_) fun e => absurd e (by decide)
          exact fl_i 28 a D1 (by decide) hal fun w' h2 h3 => ⟨(), rfl, bad a w' (by rw [hMj, hst, hfl]) h2 h3⟩
        | ok y =>
          obtain ⟨b, r⟩ := y
          rw [hx] at hE hst
          obtain ⟨k, rfl, hk0, hks, hr⟩ := hE
          refine ⟨((b.toNat : Int), (k : Int), 0, ()), rfl, ?_⟩
          refine cutr_i mixed s164_15 (fun _ w' => w' = w4) (fun _ _ => False) (by kernel_rfl) (by kernel_rfl) (fun g => ?_) ?_ (fun _ _ _ h => h.elim)
          · rw [t164_15]
            dsimp only
            refine br_both (fun e => ?_) fun e => ⟨(), rfl, rfl⟩
            have := eq_t e
            omega
          rintro ⟨⟩ g w5 rfl
          dsimp only
          rw [show IntKind.i64.wrap ((j : Int) + (k : Int)) = ((j + k : Nat) : Int) by rw [wrap_in (by omega) (by omega)]; omega]
          refine nw fun w6 h6 z6 (b6 : Blk w6 _ [.int .u8 (b.toNat : Int)] tByte) => ?_
          refine ap_b (hR.no h6) (by have := h1.size; have := h6.size; omega) b6 [b] rfl rfl (by omega) fun q7 c7 w7 g7 => ?_
          exact again q7 c7 (j + k) [b] w6 w7 h6 g7 (by omega) hks (by simp; omega) (by rw [hMj, hst, hr])
      have e1 := eq_f e1
      refine cut_i mixed s164_21 (fun v w' => w' = w3 ∧ v.1 = decide (32 ≤ pk (rest s j) ∧ pk (rest s j) ≤ 126)) (by kernel_rfl) (fun g => ?_) ?_
      · rw [t164_21]
        refine br_both (fun e => ⟨rfl, (decide ((pk (rest s j) : Int) < 127), ()), rfl, rfl, ?_⟩) fun e => ⟨rfl, (false, ()), rfl, rfl, ?_⟩
        · have e := ge_t e
          exact decide_eq_decide.2 ⟨fun h => ⟨by omega, by omega⟩, fun h => by omega⟩
        · have e := ge_f e
          exact (decide_eq_false (by omega)).symm
      rintro ⟨u, ⟨⟩⟩ g w4 ⟨rfl, hu⟩
      dsimp only at hu
      subst hu
      refine br_both (fun e => ?_) fun e2 => ?_
      · have e := of_decide_eq_true e
        have hst := readX_plain f acc (rest s j) h34 (by omega) e
        rw [rest_tail] at hst
        rw [hwj]
        refine nw fun w6 h6 z6 (b6 : Blk w6 _ [.int .u8 (pk (rest s j) : Int)] tByte) => ?_
        refine ap_b (hR.no h6) (by have := h1.size; have := h6.size; omega) b6 [UInt8.ofNat (pk (rest s j))] ?_ rfl (by omega) fun q7 c7 w7 g7 => ?_
        · show _ = [Value.int .u8 ((UInt8.ofNat (pk (rest s j))).toNat : Int)]
          rw [UInt8.toNat_ofNat', Nat.mod_eq_of_lt hb256]
        exact again q7 c7 (j + 1) [UInt8.ofNat (pk (rest s j))] w6 w7 h6 g7 (by omega) hj' (by simp; omega) (by rw [hMj, hst])
      have e2 := of_decide_eq_false e2
      have hst := readX_rune f acc (rest s j) h34 (by omega) e2
      obtain ⟨t1, t3⟩ := runeM_two (rest s j) hne
      have hlen := (runeM_len (rest s j)).1
      rw [lenR] at hlen
      dsimp only
      refine br_both (fun e => ?_) fun e => ?_
      · have e : 0 < (runeM (rest s j)).2 := by have := gt_t e; omega
        rw [if_neg (t1.1 e), ← t3 e] at hst
        generalize (runeM (rest s j)).2 = wd at *
        rw [show IntKind.i64.wrap ((j : Int) + (wd : Int)) = ((j + wd : Nat) : Int) by rw [wrap_in (by omega) (by omega)]; omega]
        refine ld_str (D1.blk.cell 0) (nd3 (by omega) (by omega) (by omega) ?_)
        rw [Int.toNat_natCast, Int.toNat_natCast]
        have hx2 : s.extract j (j + wd) = bytesL ((rest s j).take wd) := by
          rw [bytesL_eq (s.extract j (j + wd)), extract_list, show j + wd - j = wd by omega]
        have htk : ((rest s j).take wd).length = wd := by rw [List.length_take, lenR]; omega
        have hdr : (rest s j).drop wd = rest s (j + wd) := by show List.drop wd (List.drop j _) = _; rw [List.drop_drop]
        rw [hx2]
        refine ap_s hR (by have := h1.size; omega) (by rw [tb_size, htk]; omega) fun q7 c7 w7 g7 => ?_
        rw [tb_data] at g7
        rw [tb_size] at g7 ⊢
        exact again q7 c7 (j + wd) ((rest s j).take wd) w4 w7 (Ch.refl _ _) g7 (by omega) (by omega) (by rw [htk]; omega) (by rw [hMj, hst, hdr])
      · have e : ¬ 0 < (runeM (rest s j)).2 := by have := gt_f e; omega
        rw [if_pos (Decidable.byContradiction fun h => e (t1.2 h))] at hst
        exact fl_i 28 j D1 (by decide) hj fun w' h2 h3 => ⟨(), rfl, fun g => ⟨(), rfl, bad j w' (by rw [hMj, hst]) h2 h3⟩⟩
    · have e := of_decide_eq_false e
      refine ⟨rfl, ((qb, nb, cb), (j : Int), ()), rfl, fun g => ⟨((qb, nb, cb), (j : Int), ()), rfl, h1, qb, nb, cb, j, acc, rfl, hR, hj, hacc, ?_⟩⟩
      by_cases hj' : j < s.size
      · have h34 : pk (rest s j) = 34 := Decidable.byContradiction fun h => e ⟨hj', h⟩
        exact .inr ⟨hj', by rw [hMj, readX_end _ _ _ h34, rest_tail]⟩
      · refine .inl ⟨by omega, ?_⟩
        rw [hMj, show rest s j = [] from List.drop_of_length_le (by have := sizeB s; omega)]
        rfl
  rintro v g w1 ⟨h1, qb, nb, cb, j, acc, rfl, hR, hj, hacc, hcase⟩
  have D1 := D.no h1
  have hn := hR.len
  refine cutr_i mixed s164_31 (fun _ w' => w' = w1 ∧ j < s.size) (fun _ w' => TxtR B w nd s P O q2 t2 d2 w' (rtextX (rest s i))) (by kernel_rfl) (by kernel_rfl) (fun g => ?_) ?_ (fun v g w' h => ⟨rfl, h⟩)
  · rw [t164_31]
    dsimp only
    refine ld_str (D1.blk.cell 0) (br_both (fun e => ?_) fun e => ⟨(), rfl, rfl, by have := ge_f e; omega⟩)
    have e := ge_t e
    obtain ⟨hjs, hm⟩ := hcase.resolve_right (by omega)
    refine ld_str (D1.blk.cell 0) (fl_i 28 s.size D1 (by decide) (Nat.le_refl _) fun w' h2 h3 => ⟨(), rfl, ?_⟩)
    rw [hrt, hm]
    rw [restL, Nat.sub_self] at h3
    exact ⟨h1.no.trans h2, h3⟩
  rintro ⟨⟩ g w2 ⟨rfl, hj'⟩
  obtain ⟨_, hm⟩ := hcase.resolve_left (by omega)
  rw [hm] at hrt
  dsimp only at hrt ⊢
  refine br_both (fun e => ?_) fun e => ?_
  · have e := gt_t e
    rw [if_pos (by omega)] at hrt
    refine ld_int (D1.blk.cell 1) (fl_i 21 i D1 (by decide) D.ok.le fun w' h2 h3 => ⟨rfl, ?_⟩)
    rw [hrt]
    exact ⟨h1.no.trans h2, h3⟩
  · have e := gt_f e
    rw [if_neg (by omega)] at hrt
    refine cv_b hR.at ?_
    rw [show IntKind.i64.wrap ((j : Int) + 1) = ((j + 1 : Nat) : Int) from wrap_succ (by omega) (by omega)]
    refine ad_i ⟨2, 0, bytesL acc, 0⟩ (j + 1) D1 hj' hp ⟨Int.le_refl _, by dsimp only; omega⟩ fun w' q' t' d' h2 D2 => ⟨rfl, ?_⟩
    rw [hrt]
    exact ⟨h1.no.trans h2, _, _, _, _, D2, rfl⟩
end
end Go.Proofs.YtjlmkahagcojcaaGreatDoor.V
