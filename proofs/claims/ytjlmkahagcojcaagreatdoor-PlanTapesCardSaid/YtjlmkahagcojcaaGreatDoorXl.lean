/- The document's reader: Lead, Parse. -/
import Derived.Test.YtjlmkahagcojcaaGreatDoorXk
namespace Go.Proofs.YtjlmkahagcojcaaGreatDoor.V
open Go Tr
set_option maxRecDepth 100000
/-! the tree of function 115 -/
abbrev fx115_3 (n1 : Nat) (n2 : Nat) : List (Tmp × Value) := [(2, .pointer (some ⟨n1, 0, none⟩)), (3, .int .i64 0), (4, .int .i64 0), (5, .pointer (some ⟨n2, 0, none⟩))]
abbrev m115_3 : List (Tmp × Comp) := [(6, .leaf .bool)]
abbrev mx115_3 : List (Tmp × Comp) := []
abbrev mr115_3 : List (Tmp × Comp) := []
abbrev fx115_4 (n1 : Nat) (n2 : Nat) (b_6 : Bool) : List (Tmp × Value) := [(2, .pointer (some ⟨n1, 0, none⟩)), (5, .pointer (some ⟨n2, 0, none⟩)), (6, .bool b_6)]
abbrev mx115_4 : List (Tmp × Comp) := [(21, .leaf .bool)]
def s115_4 : Script := .sym (.lit (.lit (.lit (.ld (.int .i64) (.lit (.lit .nil)))))) (.lit (.lit (.lit (.lit (.lit .nil)))))
theorem t115_4 (n1 : Nat) (n2 : Nat) (b_6 : Bool) (gg4 : Nat → Value) : pieceT Tryz.prog (at_ Tryz.f115 [1, 1, 1, 0, 0, 0, 0, 0]) 82 (fx115_4 n1 n2 b_6) gg4 (mx115_4.map (·.1)) [] [] s115_4 = .br b_6 (.load ⟨n2, 4, none⟩ (.int .i64) (fun x5 => .fin .normal [(21, .bool (x5 == 0))])) (.fin .normal [(21, .bool false)]) := by kernel_rfl
abbrev fx115_9 (n1 : Nat) (n2 : Nat) (b_6 : Bool) (l7 : Option Addr × Nat × Nat) : List (Tmp × Value) := [(2, .pointer (some ⟨n1, 0, none⟩)), (5, .pointer (some ⟨n2, 0, none⟩)), (6, .bool b_6), (7, .int .i64 (↑l7.snd.fst : Int)), (8, .bool true)]
abbrev mx115_9 : List (Tmp × Comp) := [(42, .leaf .bool)]
def s115_9 : Script := .ld (.int .i64) (.sym (.lit (.lit (.lit (.ld .sl (.lit (.lit (.lit (.lit .nil)))))))) (.lit (.lit (.lit (.lit (.lit (.lit (.lit .nil))))))))
theorem t115_9 (n1 : Nat) (n2 : Nat) (b_6 : Bool) (l7 : Option Addr × Nat × Nat) (gg9 : Nat → Value) : pieceT Tryz.prog (at_ Tryz.f115 [1, 1, 1, 0, 0, 0, 1, 0, 1, 1, 1, 0, 0]) 82 (fx115_9 n1 n2 b_6 l7) gg9 (mx115_9.map (·.1)) [] [] s115_9 = .load ⟨n2, 4, none⟩ (.int .i64) (fun x10 => .br (x10 == 0) (.load ⟨n2, 3, none⟩ .sl (fun l11 => .fin .normal [(42, .bool (Decidable.decide ((↑l11.snd.fst : Int) > (↑l7.snd.fst : Int))))])) (.fin .normal [(42, .bool false)])) := by kernel_rfl
def s115_3 : Script := .ct 1 [2, 5, 6] mx115_4 (.sym (.ld .sl (.cl (.tup []) (.ct 2 [2, 5, 6, 7, 8] mx115_9 (.sym (.cl (.one (.leaf .bool)) (.ld (.int .i64) (.sym (.lit (.sym (.cl (.one (.leaf .bool)) .nil) .nil)) (.lit (.lit .nil))))) (.ld (.int .i64) (.sym (.lit (.lit (.cl (.one (.leaf .bool)) .nil))) (.lit (.lit .nil)))))))) .nil)
theorem t115_3 (n1 : Nat) (n2 : Nat) (b_6 : Bool) (gg3 : Nat → Value) : pieceT Tryz.prog (at_ Tryz.f115 [1, 1, 1, 0, 0, 0]) 82 (fx115_3 n1 n2 ++ mvals m115_3 (b_6, ())) gg3 (m115_3.map (·.1)) (mx115_3.map (·.1)) (mr115_3.map (·.1)) s115_3 = .cut (at_ Tryz.f115 [1, 1, 1, 0, 0, 0, 0, 0]) 82 (fx115_4 n1 n2 b_6) mx115_4 (fun u6 g6 => .br u6.1 (.load ⟨n2, 3, none⟩ .sl (fun l7 => .call 137 #[.pointer (some ⟨n2, 0, none⟩)] (.tup []) (fun r8 => .cut (at_ Tryz.f115 [1, 1, 1, 0, 0, 0, 1, 0, 1, 1, 1, 0, 0]) 82 (fx115_9 n1 n2 b_6 l7) mx115_9 (fun u12 g12 => .br u12.1 (.call 138 #[.pointer (some ⟨n2, 0, none⟩)] (.one (.leaf .bool)) (fun b13 => .load ⟨n2, 4, none⟩ (.int .i64) (fun x14 => .br (x14 == 0) (.br b13 (.call 139 #[.pointer (some ⟨n2, 0, none⟩)] (.one (.leaf .bool)) (fun b15 => .fin .normal [(6, .bool b15)])) (.fin .normal [(6, .bool b_6)])) (.fin .normal [(6, .bool b_6)])))) (.load ⟨n2, 4, none⟩ (.int .i64) (fun x16 => .br (x16 == 0) (.call 139 #[.pointer (some ⟨n2, 0, none⟩)] (.one (.leaf .bool)) (fun b17 => .fin .normal [(6, .bool b17)])) (.fin .normal [(6, .bool b_6)]))))))) (.fin (.exit 0) [])) := by kernel_rfl
def s115 : Script := .lp 0 [2, 3, 4, 5] [6] mx115_3 mr115_3 (.ld (.int .i64) (.sym (.hd0 (.hq 0 (.hq 1 (.hq 2 (.hq 3 (.hq 4 (.ld (.int .i64) (.hq 5 (.hq 6 (.hq 7 (.hq 8 (.ld (.int .i64) (.he 9 (.hq 10 (.hq 11 (.ld (.int .i64) (.ld (.int .i64) (.ld .str (.ld .sl .nil))))))))))))))))))) (.ld .sl (.cl (.tup [.agg [.int .i64, .int .i64, .str, .sl], .leaf (.int .i64)]) (.hd0 (.hq 0 (.ld (.int .i64) (.ld (.int .i64) (.ld .str (.ld .sl (.hq 1 (.hq 2 (.hq 3 (.hq 4 (.ld (.int .i64) (.he 5 (.hq 6 (.hq 7 (.ld (.int .i64) (.ld (.int .i64) (.ld .str (.ld .sl .nil)))))))))))))))))))))) .nil
theorem t115 (qs0 : ByteArray) : fnT Tryz.prog Tryz.f115 #[.string qs0] s115 = .new (.cells #[.int .i64 0, .int .i64 0, .string (bytesL []), .slice none 0 0] 52 (0, 0)) (fun n1 => .new (.cells #[.string qs0, .int .i64 0, .slice none 0 0, .slice none 0 0, .int .i64 0] 225 (0, 0)) (fun n2 => .loop (at_ Tryz.f115 [1, 1, 1, 0, 0, 0]) 82 (fx115_3 n1 n2) [(6, .bool true)] mx115_3 mr115_3 0 (fun u18 g18 => .load ⟨n2, 4, none⟩ (.int .i64) (fun x19 => .br (x19 != 0) (.hdrawn (.load ⟨n2, 1, none⟩ (.int .i64) (fun x20 => .load ⟨n2, 4, none⟩ (.int .i64) (fun x21 => .eff (.store ⟨n1, 0, none⟩ (.int .i64 0) (.store ⟨n1, 1, none⟩ (.int .i64 0) (.store ⟨n1, 2, none⟩ (.string (bytesL [])) (.store ⟨n1, 3, none⟩ (.slice none 0 0) (.back (.undrawn (.load ⟨n1, 0, none⟩ (.int .i64) (fun x22 => .load ⟨n1, 1, none⟩ (.int .i64) (fun x23 => .load ⟨n1, 2, none⟩ .str (fun s24 => .load ⟨n1, 3, none⟩ .sl (fun l25 => .done (.returned (.tuple #[.agg #[.int .i64 x22, .int .i64 x23, .string s24, .slice l25.1 l25.2.1 l25.2.2], .int .i64 x20, .int .i64 x21]))))))))))))))))) (.load ⟨n2, 2, none⟩ .sl (fun l26 => .call 140 #[.slice l26.1 l26.2.1 l26.2.2, .int .i64 0] (.tup [.agg [.int .i64, .int .i64, .str, .sl], .leaf (.int .i64)]) (fun r27 => .new (.cells #[.int .i64 0, .int .i64 0, .string (bytesL []), .slice none 0 0] 52 (0, 0)) (fun n28 => .store ⟨n28, 0, none⟩ (.int .i64 r27.1.1) (.store ⟨n28, 1, none⟩ (.int .i64 r27.1.2.1) (.store ⟨n28, 2, none⟩ (.string r27.1.2.2.1) (.store ⟨n28, 3, none⟩ (.slice r27.1.2.2.2.1.1 r27.1.2.2.2.1.2.1 r27.1.2.2.2.1.2.2) (.hdrawn (.load ⟨n28, 0, none⟩ (.int .i64) (fun x29 => .load ⟨n28, 1, none⟩ (.int .i64) (fun x30 => .load ⟨n28, 2, none⟩ .str (fun s31 => .load ⟨n28, 3, none⟩ .sl (fun l32 => .load ⟨n2, 1, none⟩ (.int .i64) (fun x33 => .eff (.store ⟨n1, 0, none⟩ (.int .i64 x29) (.store ⟨n1, 1, none⟩ (.int .i64 x30) (.store ⟨n1, 2, none⟩ (.string s31) (.store ⟨n1, 3, none⟩ (.slice l32.1 l32.2.1 l32.2.2) (.back (.undrawn (.load ⟨n1, 0, none⟩ (.int .i64) (fun x34 => .load ⟨n1, 1, none⟩ (.int .i64) (fun x35 => .load ⟨n1, 2, none⟩ .str (fun s36 => .load ⟨n1, 3, none⟩ .sl (fun l37 => .done (.returned (.tuple #[.agg #[.int .i64 x34, .int .i64 x35, .string s36, .slice l37.1 l37.2.1 l37.2.2], .int .i64 x33, .int .i64 0]))))))))))))))))))))))))))))) (fun u38 g38 => .stuck))) := by kernel_rfl
/-! the tree of function 86 -/
def s86 : Script := .cl (.one (.leaf (.int .i64))) (.nd (.cl (.tup [.agg [.int .i64, .int .i64, .str, .sl], .leaf (.int .i64), .leaf (.int .i64)]) (.sym (.ld (.int .i64) (.ld (.int .i64) (.ld .str (.ld .sl (.ld (.int .i64) (.ld (.int .i64) (.ld .str (.ld .sl .nil)))))))) (.cl (.one (.leaf (.int .i64))) (.sym (.ld (.int .i64) (.ld (.int .i64) (.ld .str (.ld .sl .nil)))) (.ld (.int .i64) (.ld (.int .i64) (.ld .str (.ld .sl (.ld (.int .i64) (.ld (.int .i64) (.ld .str (.ld .sl .nil)))))))))))))
theorem t86 (qs0 : ByteArray) : fnT Tryz.prog Tryz.f86 #[.string qs0] s86 = .new (.cells #[.int .i64 0, .int .i64 0, .string (bytesL []), .slice none 0 0] 52 (0, 0)) (fun n1 => .call 114 #[.string qs0, .int .i64 0] (.one (.leaf (.int .i64))) (fun x2 => .need (Decidable.decide (0 ≤ x2 ∧ x2 ≤ (↑qs0.size : Int) ∧ (↑qs0.size : Int) ≤ (↑qs0.size : Int))) (.call 115 #[.string (qs0.extract x2.toNat qs0.size)] (.tup [.agg [.int .i64, .int .i64, .str, .sl], .leaf (.int .i64), .leaf (.int .i64)]) (fun r3 => .new (.cells #[.int .i64 0, .int .i64 0, .string (bytesL []), .slice none 0 0] 52 (0, 0)) (fun n4 => .store ⟨n4, 0, none⟩ (.int .i64 r3.1.1) (.store ⟨n4, 1, none⟩ (.int .i64 r3.1.2.1) (.store ⟨n4, 2, none⟩ (.string r3.1.2.2.1) (.store ⟨n4, 3, none⟩ (.slice r3.1.2.2.2.1.1 r3.1.2.2.2.1.2.1 r3.1.2.2.2.1.2.2) (.br (r3.snd.snd.fst != 0) (.load ⟨n4, 0, none⟩ (.int .i64) (fun x5 => .load ⟨n4, 1, none⟩ (.int .i64) (fun x6 => .load ⟨n4, 2, none⟩ .str (fun s7 => .load ⟨n4, 3, none⟩ .sl (fun l8 => .store ⟨n1, 0, none⟩ (.int .i64 x5) (.store ⟨n1, 1, none⟩ (.int .i64 x6) (.store ⟨n1, 2, none⟩ (.string s7) (.store ⟨n1, 3, none⟩ (.slice l8.1 l8.2.1 l8.2.2) (.load ⟨n1, 0, none⟩ (.int .i64) (fun x9 => .load ⟨n1, 1, none⟩ (.int .i64) (fun x10 => .load ⟨n1, 2, none⟩ .str (fun s11 => .load ⟨n1, 3, none⟩ .sl (fun l12 => .done (.returned (.tuple #[.agg #[.int .i64 x9, .int .i64 x10, .string s11, .slice l12.1 l12.2.1 l12.2.2], .int .i64 (IntKind.i64.wrap (x2 + r3.snd.fst)), .int .i64 r3.2.2.1]))))))))))))))) (.call 114 #[.string qs0, .int .i64 (IntKind.i64.wrap (x2 + r3.snd.fst))] (.one (.leaf (.int .i64))) (fun x13 => .br (Decidable.decide (x13 < (↑qs0.size : Int))) (.store ⟨n1, 0, none⟩ (.int .i64 0) (.store ⟨n1, 1, none⟩ (.int .i64 0) (.store ⟨n1, 2, none⟩ (.string (bytesL [])) (.store ⟨n1, 3, none⟩ (.slice none 0 0) (.load ⟨n1, 0, none⟩ (.int .i64) (fun x14 => .load ⟨n1, 1, none⟩ (.int .i64) (fun x15 => .load ⟨n1, 2, none⟩ .str (fun s16 => .load ⟨n1, 3, none⟩ .sl (fun l17 => .done (.returned (.tuple #[.agg #[.int .i64 x14, .int .i64 x15, .string s16, .slice l17.1 l17.2.1 l17.2.2], .int .i64 x13, .int .i64 28]))))))))))) (.load ⟨n4, 0, none⟩ (.int .i64) (fun x18 => .load ⟨n4, 1, none⟩ (.int .i64) (fun x19 => .load ⟨n4, 2, none⟩ .str (fun s20 => .load ⟨n4, 3, none⟩ .sl (fun l21 => .store ⟨n1, 0, none⟩ (.int .i64 x18) (.store ⟨n1, 1, none⟩ (.int .i64 x19) (.store ⟨n1, 2, none⟩ (.string s20) (.store ⟨n1, 3, none⟩ (.slice l21.1 l21.2.1 l21.2.2) (.load ⟨n1, 0, none⟩ (.int .i64) (fun x22 => .load ⟨n1, 1, none⟩ (.int .i64) (fun x23 => .load ⟨n1, 2, none⟩ .str (fun s24 => .load ⟨n1, 3, none⟩ .sl (fun l25 => .done (.returned (.tuple #[.agg #[.int .i64 x22, .int .i64 x23, .string s24, .slice l25.1 l25.2.1 l25.2.2], .int .i64 x13, .int .i64 0])))))))))))))))))))))))))) := by kernel_rfl
abbrev zeroC : List Value := [.int .i64 0, .int .i64 0, .string (bytesL []), .slice none 0 0]
def zeroV : Value := .agg #[.int .i64 0, .int .i64 0, .string (bytesL []), .slice none 0 0]
def leadMeas (nd : Nat) (s : ByteArray) (b : Bool) (w : World) : Nat := match b, w.cell? ⟨nd, 4, none⟩, w.cell? ⟨nd, 1, none⟩ with
  | true, some (.int _ e), some (.int _ a) => if e = 0 then s.size - a.toNat + 1 else 0
  | _, _, _ => 0
theorem MOk.meas {B : Nat} {w : World} {nd : Nat} {s : ByteArray} {l : List UInt8} {P : List PartM} {O : List Nat} (h : MOk B w nd s l P O) : leadMeas nd s true w = l.length + 1 := by
  obtain ⟨i, q, t, d, q2, t2, d2, D, hl, _⟩ := h
  unfold leadMeas
  rw [show w.cell? ⟨nd, 4, none⟩ = some (.int .i64 0) from D.blk.cell 4, show w.cell? ⟨nd, 1, none⟩ = some (.int .i64 i) from D.blk.cell 1]
  show s.size - (i : Int).toNat + 1 = _
  rw [← hl, restL, Int.toNat_natCast]
theorem MBad.meas {w : World} {nd : Nat} {s : ByteArray} {f : Flt} (h : MBad w nd s f) (b : Bool) : leadMeas nd s b w = 0 := by
  obtain ⟨h0, _, q, t, d, q2, t2, d2, hb⟩ := h
  unfold leadMeas
  rw [show w.cell? ⟨nd, 4, none⟩ = some (.int .i64 f.1) from hb.cell 4, show w.cell? ⟨nd, 1, none⟩ = some (.int .i64 ((s.size - f.2 : Nat) : Int)) from hb.cell 1]
  cases b with
  | false => rfl
  | true => exact if_neg h0
/-- Where the loop stands. -/
inductive LeadS (B : Nat) (w : World) (nd : Nat) (s : ByteArray) (M : Except Flt (List UInt8 × List PartM)) (b : Bool) : Prop
  | go (l : List UInt8) (P : List PartM) (O : List Nat) : b = true → MOk B w nd s l P O → M = leadK (l.length + 1) l P O → LeadS B w nd s M b
  | ok (l : List UInt8) (P : List PartM) (O : List Nat) : b = false → MOk B w nd s l P O → M = .ok (l, P) → LeadS B w nd s M b
  | bad (f : Flt) : MBad w nd s f → M = .error f → LeadS B w nd s M b
/-- What behind brings. -/
theorem cont_st {B : Nat} {w : World} {nd : Nat} {s : ByteArray} {M : Except Flt (List UInt8 × List PartM)} {b : Bool} {l l1 : List UInt8} {P1 : List PartM} {O1 : List Nat} (hb : BehR B w nd s b (behM (O1.length + 1) l1 P1 O1)) (hl : l1.length < l.length) (hM : M = contK (leadK l.length) l1 P1 O1) : LeadS B w nd s M b ∧ leadMeas nd s b w < l.length + 1 := by
  unfold contK at hM
  cases hx : behM (O1.length + 1) l1 P1 O1 with
  | error f =>
    rw [hx] at hb hM
    exact ⟨.bad f hb.2 hM, by rw [hb.2.meas]; omega⟩
  | ok y =>
    obtain ⟨more, l3, P3, O3⟩ := y
    rw [hx] at hb hM
    obtain ⟨rfl, h3⟩ := hb
    cases b with
    | true =>
      have := beh_len _ _ _ _ _ hx
      dsimp only at this hM
      rw [if_pos rfl] at hM
      exact ⟨.go l3 P3 O3 rfl h3 (hM.trans (leadK_eq (by omega) (by omega))), by rw [h3.meas]; omega⟩
    | false =>
      refine ⟨.ok l3 P3 O3 rfl h3 hM, ?_⟩
      show 0 < _
      omega
/-- What Lead answers. -/
def LeadR (s : ByteArray) (w : World) (e : Ending) (w' : World) : Except Flt (VT × List UInt8 × Int) → Prop
  | .error f => f.1 ≠ 0 ∧ f.2 ≤ s.size ∧ e = .returned (.tuple #[zeroV, .int .i64 ((s.size - f.2 : Nat) : Int), .int .i64 f.1])
  | .ok (x, l, _) => ∃ p m c j, e = .returned (.tuple #[valV x p m c, .int .i64 ((j : Nat) : Int), .int .i64 0]) ∧ j ≤ s.size ∧ rest s j = l ∧ IsVB (fun b => w.heap.size ≤ b ∧ b < w'.heap.size) w' x p m c
set_option maxHeartbeats 2000000 in
theorem lead2_any (s : ByteArray) (w : World) (hs : s.size ≤ 140737488355328) :
    Calls Tryz.prog 115 #[.string s] w fun e w' => Ch No w w' ∧ LeadR s w e w' (rdX 4 0 (rest s 0) 0) := by
  refine calls_of_fnT mixed Tryz.func115 (s := s115) ?_
  rw [t115]
  have hl0 : (rest s 0).length = s.size := restL s 0
  have hM : leadK ((rest s 0).length + 1) (rest s 0) [] [] = match rdX 4 0 (rest s 0) 0 with
    | .error f => .error f
    | .ok (x, l', _) => .ok (l', flatP x) := lead_is _ _ (Nat.lt_succ_self _)
  generalize hMM : leadK ((rest s 0).length + 1) (rest s 0) [] [] = M at *
  refine nw fun w1 h1 z1 (b1 : Blk w1 _ zeroC tVal) => nw fun w2 h2 z2 (b2 : Blk w2 _ [.string s, .int .i64 0, .slice none 0 0, .slice none 0 0, .int .i64 0] tMR) => ?_
  have b12 := b1.ch h2 (fun h => h)
  have hn := b1.lt
  have hs2 := b2.lt
  generalize hnd : w1.heap.size = nd at *
  have D2 : MSx nd w2 nd s 0 [] [] none 0 0 none 0 0 := ⟨b2, Row.nil _ _ _ _, Row.nil _ _ _ _, Nat.le_refl _, ⟨by omega, hs, by decide, by decide, fun _ h => by cases h⟩⟩
  have H2 := h1.trans h2
  refine loop_i mixed m115_3 s115_3 (by kernel_rfl) (by kernel_rfl)
    (fun (v : Bool × Unit) w' => Ch (nd ≤ ·) w2 w' ∧ LeadS nd w' nd s M v.1)
    (fun (v : Bool × Unit) w' => leadMeas nd s v.1 w') (true, ()) rfl ⟨Ch.refl _ _, .go (rest s 0) [] [] rfl ⟨0, _, _, _, _, _, _, D2, rfl, fun _ h => by cases h⟩ hMM.symm⟩ ?_
  intro v g w3 hv
  rw [t115_3]
  obtain ⟨b, ⟨⟩⟩ := v
  dsimp only at hv ⊢
  obtain ⟨h3, S3⟩ := hv
  have b13 := b12.ch h3 (fun h => by omega)
  have H3 : Ch No w w3 := H2.then_ h3 fun i hi hh => by have := h1.size; omega
  cases S3 with
  | go l P O hb hok hMl =>
    subst hb
    have hmeas := hok.meas
    obtain ⟨i, q, t, d, q2, t2, d2, D3, hl, ht⟩ := hok
    have ht2 := D3.t2_is
    refine cut_i mixed s115_4 (fun v w' => w' = w3 ∧ v.1 = true) (by kernel_rfl) (fun g => ?_) ?_
    · rw [t115_4]
      refine br_both (fun _ => ld_int (D3.blk.cell 4) ⟨rfl, (true, ()), rfl, rfl, rfl⟩) fun e => absurd e (by decide)
    intro v g w4 hv
    obtain ⟨u, ⟨⟩⟩ := v
    obtain ⟨hw4, hu⟩ := hv
    dsimp only at hu
    subst hu hw4
    refine br_both (fun _ => ?_) fun e => absurd e (by decide)
    refine ld_sl (D3.blk.cell 3) (cl_i (mbegin_any D3 ht) ?_)
    rintro e' w5 ⟨rfl, h5, hr⟩
    refine ⟨(), rfl, ?_⟩
    rw [hl] at hr
    rw [leadK] at hMl
    cases hx : beginM l P O with
    | error f =>
      rw [hx] at hr hMl
      have hmb := hr.meas
      have hbad : MBad w5 nd s f := hr
      obtain ⟨hf0, _, q', t', d', q2', t2', d2', hbk⟩ := hr
      refine cut_i mixed s115_9 (fun v w' => w' = w5 ∧ v.1 = false) (by kernel_rfl) (fun g => ?_) ?_
      · rw [t115_9]
        refine ld_int (hbk.cell 4) (br_both (fun e => absurd (eq_t e) hf0) fun _ => ⟨rfl, (false, ()), rfl, rfl, rfl⟩)
      intro v g w6 hv
      obtain ⟨u, ⟨⟩⟩ := v
      obtain ⟨hw6, hu⟩ := hv
      dsimp only at hu
      subst hu hw6
      refine br_both (fun e => absurd e (by decide)) fun _ => ld_int (hbk.cell 4) (br_both (fun e => absurd (eq_t e) hf0) fun _ => ⟨(true, ()), rfl, ⟨h3.trans h5, .bad f hbad hMl⟩, ?_⟩)
      dsimp only
      rw [hmb true, hmeas]; omega
    | ok y =>
      obtain ⟨l1, P1, O1⟩ := y
      rw [hx] at hr hMl
      dsimp only at hMl
      obtain ⟨i1, q', t', d', q2', t2', d2', D5, hl1, ht1⟩ := hr
      have hlen := beg_len hx
      dsimp only at hlen
      have ht21 := D5.t2_is
      refine cut_i mixed s115_9 (fun v w' => w' = w5 ∧ v.1 = decide (O1.length > O.length)) (by kernel_rfl) (fun g => ?_) ?_
      · rw [t115_9]
        refine ld_int (D5.blk.cell 4) (br_both (fun _ => ld_sl (D5.blk.cell 3) ⟨rfl, (_, ()), rfl, rfl, ?_⟩) fun e => absurd e (by decide))
        dsimp only
        exact decide_eq_decide.2 ⟨fun h => by omega, fun h => by omega⟩
      intro v g w6 hv
      obtain ⟨u, ⟨⟩⟩ := v
      obtain ⟨hw6, hu⟩ := hv
      dsimp only at hu
      subst hu hw6
      refine br_both (fun e => ?_) fun e => ?_
      · have e := of_decide_eq_true e
        rw [if_pos e] at hMl
        have hO1 : O1 ≠ [] := by
          rintro rfl
          simp at e
        refine cl_i (minside_any D5 ht1 hO1) ?_
        rintro e' w7 ⟨b', rfl, h7, hr⟩
        rw [hl1] at hr
        refine ⟨b', rfl, ?_⟩
        have hbl := blanksM_len l1
        have hbt : (blanksM l1).tail.length ≤ (blanksM l1).length := by simp
        by_cases h93 : pk (blanksM l1) = 93
        · rw [if_pos h93] at hr hMl
          obtain ⟨rfl, i7, q7, t7, d7, q27, t27, d27, D7, hl7, ht7⟩ := hr
          refine ld_int (D7.blk.cell 4) (br_both (fun _ => br_both (fun _ => ?_) fun e => absurd e (by decide)) fun e => absurd e (by decide))
          refine cl_i (mbehind_any D7 ht7) ?_
          rintro e' w8 ⟨b8, rfl, h8, hr8⟩
          rw [hl7] at hr8
          obtain ⟨hS, hlt⟩ := cont_st hr8 (by omega) hMl
          exact ⟨b8, rfl, (b8, ()), rfl, ⟨h3.trans (h5.trans (h7.trans h8)), hS⟩, by dsimp only; rw [hmeas]; exact hlt⟩
        · rw [if_neg h93] at hr hMl
          obtain ⟨rfl, hok7⟩ := hr
          have hm7 := hok7.meas
          have hok7' := hok7
          obtain ⟨i7, q7, t7, d7, q27, t27, d27, D7, hl7, ht7⟩ := hok7
          refine ld_int (D7.blk.cell 4) (br_both (fun _ => br_both (fun e => absurd e (by decide)) fun _ => ?_) fun e => absurd e (by decide))
          refine ⟨(true, ()), rfl, ⟨h3.trans (h5.trans h7), .go _ _ _ rfl hok7' (hMl.trans (leadK_eq (by omega) (by omega)))⟩, ?_⟩
          dsimp only
          rw [hm7, hmeas]; omega
      · have e := of_decide_eq_false e
        rw [if_neg e] at hMl
        refine ld_int (D5.blk.cell 4) (br_both (fun _ => ?_) fun e => absurd e (by decide))
        refine cl_i (mbehind_any D5 ht1) ?_
        rintro e' w8 ⟨b8, rfl, h8, hr8⟩
        rw [hl1] at hr8
        obtain ⟨hS, hlt⟩ := cont_st hr8 (by omega) hMl
        exact ⟨b8, rfl, (b8, ()), rfl, ⟨h3.trans (h5.trans h8), hS⟩, by dsimp only; rw [hmeas]; exact hlt⟩
  | ok l P O hb hok hMl =>
    subst hb
    obtain ⟨i, q, t, d, q2, t2, d2, D3, hl, ht⟩ := hok
    refine cut_i mixed s115_4 (fun v w' => w' = w3 ∧ v.1 = false) (by kernel_rfl) (fun g => ?_) ?_
    · rw [t115_4]
      exact br_both (fun e => absurd e (by decide)) fun _ => ⟨rfl, (false, ()), rfl, rfl, rfl⟩
    intro v g w4 hv
    obtain ⟨u, ⟨⟩⟩ := v
    obtain ⟨hw4, hu⟩ := hv
    dsimp only at hu
    subst hu hw4
    refine br_both (fun e => absurd e (by decide)) fun _ => ⟨rfl, (), rfl, fun g => ?_⟩
    refine ld_int (D3.blk.cell 4) (br_both (fun e => absurd e (by decide)) fun _ => ld_sl (D3.blk.cell 2) ?_)
    dsimp only
    cases hx : rdX 4 0 (rest s 0) 0 with
    | error f => rw [hx, hMl] at hM; cases hM
    | ok y =>
      obtain ⟨x, l', n⟩ := y
      rw [hx, hMl] at hM
      simp only [Except.ok.injEq, Prod.mk.injEq] at hM
      obtain ⟨rfl, rfl⟩ := hM
      have hp12 := D3.ok.p12
      have htl := PRow.len D3.row
      refine cl_i (build_any _ x [] [] q t d w4 (Nat.lt_succ_self _) (by simpa using PRow.at D3.row) (by omega)) ?_
      rintro e' w5 ⟨p5, m5, c5, rfl, h5, V5⟩
      refine ⟨((x.kind, x.int, x.text, (p5, m5, c5), ()), _, ()), rfl, ?_⟩
      dsimp only
      refine put_v (x := x) (p := p5) (m := m5) (c := c5) fun w6 h6 b6 => ?_
      have D6 := (D3.no h5).no h6
      have b16 := (b13.ch h5 (fun h => h)).ch h6 (fun h => h)
      have V6 := V5.ch h6 (fun k _ h => h)
      have hs4 := b13.lt
      have s5 := h5.size
      refine hd_i (fun w' => Blk w' w5.heap.size (cellsV x p5 m5 c5) tVal ∧ w'.cell? ⟨nd, 1, none⟩ = some (.int .i64 i)) ⟨b6.ch (Ch.refl No _).drew (fun h => h), D6.blk.cell 1⟩ ?_
      refine lh_int (fun _ h => h.1.cell 0) (lh_int (fun _ h => h.1.cell 1) (lh_str (fun _ h => h.1.cell 2) (lh_sl (fun _ h => h.1.cell 3) (lh_int (fun _ h => h.2) (eff_i ?_)))))
      have b16d := b16.ch (Ch.refl No w6).drew (fun h => h)
      refine st4_i (x := x) (p := p5) (m := m5) (c := c5) b16d rfl fun w7 h7 b7 => bk ⟨(b6.ch (Ch.refl No w6).drew (fun h => h)).ch h7 (fun e => by omega), h7.cellv (D6.blk.cell 1) (fun e => by dsimp only at e; omega)⟩ (un_h (ld_v b7 ?_))
      dsimp only
      have h67 : Ch (· = w.heap.size) w6 w7 := (Ch.refl (· = w.heap.size) w6).drew.trans h7
      refine ⟨((H3.trans h5).trans h6).then_ h67 fun k hk e => by omega, p5, m5, c5, i, rfl, D3.ok.le, hl, ?_⟩
      have hws := H3.size
      have s7 := h67.size
      have s6 := h6.size
      exact (V6.ch h67 (fun k hk (e : k = w.heap.size) => by have := hk.1; omega)).mono fun k hk => ⟨by have := hk.1; omega, by have := hk.2; omega⟩
  | bad f hbad hMl =>
    have hbk := hbad
    obtain ⟨hf0, hfs, q', t', d', q2', t2', d2', hbk⟩ := hbk
    refine cut_i mixed s115_4 (fun v w' => w' = w3 ∧ v.1 = false) (by kernel_rfl) (fun g => ?_) ?_
    · rw [t115_4]
      exact br_both (fun _ => ld_int (hbk.cell 4) ⟨rfl, (_, ()), rfl, rfl, beq_eq_false_iff_ne.2 hf0⟩) fun _ => ⟨rfl, (false, ()), rfl, rfl, rfl⟩
    intro v g w4 hv
    obtain ⟨u, ⟨⟩⟩ := v
    obtain ⟨hw4, hu⟩ := hv
    dsimp only at hu
    subst hu hw4
    refine br_both (fun e => absurd e (by decide)) fun _ => ⟨rfl, (), rfl, fun g => ?_⟩
    refine ld_int (hbk.cell 4) (br_both (fun _ => ?_) fun e => absurd (ne_f e) hf0)
    refine hd_i (fun w' => w'.cell? ⟨nd, 1, none⟩ = some (.int .i64 ((s.size - f.2 : Nat) : Int)) ∧ w'.cell? ⟨nd, 4, none⟩ = some (.int .i64 f.1)) ⟨hbk.cell 1, hbk.cell 4⟩ ?_
    refine lh_int (fun _ h => h.1) (lh_int (fun _ h => h.2) (eff_i ?_))
    have b1d := b13.ch (Ch.refl No w4).drew (fun h => h)
    have hnn : ∀ j, ¬ ((⟨nd, j, none⟩ : Addr).block = w.heap.size) := fun j e => by dsimp only at e; omega
    refine st4_i (x := .mk 0 0 (bytesL []) []) (p := none) (m := 0) (c := 0) b1d rfl fun w7 h7 b7 => bk ⟨h7.cellv (hbk.cell 1) (hnn 1), h7.cellv (hbk.cell 4) (hnn 4)⟩ (un_h (ld_v b7 ?_))
    have h47 : Ch (· = w.heap.size) w4 w7 := (Ch.refl (· = w.heap.size) w4).drew.trans h7
    refine ⟨H3.then_ h47 fun k hk e => by omega, ?_⟩
    cases hx : rdX 4 0 (rest s 0) 0 with
    | error f' =>
      rw [hx, hMl] at hM
      simp only [Except.error.injEq] at hM
      subst hM
      exact ⟨hf0, hfs, rfl⟩
    | ok y =>
      obtain ⟨x, l', n⟩ := y
      rw [hx, hMl] at hM; cases hM
theorem rest_sub (s : ByteArray) (j i : Nat) : rest (s.extract j s.size) i = rest s (j + i) := by
  show List.drop i (s.extract j s.size).data.toList = _
  rw [extract_list, List.take_of_length_le (by rw [restL]; omega)]
  show List.drop i (List.drop j _) = _
  rw [List.drop_drop]
theorem size_sub (s : ByteArray) (j : Nat) : (s.extract j s.size).size = s.size - j := by
  rw [ByteArray.size_extract, Nat.min_self]
/-- What Parse answers. -/
def Parse2R (s : ByteArray) (w : World) (e : Ending) (w' : World) : Except Flt (VT × Int) → Prop
  | .error f => f.1 ≠ 0 ∧ f.2 ≤ s.size ∧ e = .returned (.tuple #[zeroV, .int .i64 ((s.size - f.2 : Nat) : Int), .int .i64 f.1])
  | .ok (x, _) => ∃ p m c, e = .returned (.tuple #[valV x p m c, .int .i64 (s.size : Int), .int .i64 0]) ∧ IsVB (fun b => w.heap.size ≤ b ∧ b < w'.heap.size) w' x p m c
set_option maxHeartbeats 1000000 in
theorem parse2_any (s : ByteArray) (w : World) (hs : s.size ≤ 140737488355328) :
    Calls Tryz.prog 86 #[.string s] w fun e w' => Ch No w w' ∧ Parse2R s w e w' (parseX s.data.toList) := by
  refine calls_of_fnT mixed Tryz.func86 (s := s86) ?_
  rw [t86]
  refine nw fun w1 h1 z1 (b1 : Blk w1 _ zeroC tVal) => ?_
  refine cl_i (mblanks_any s 0 w1 hs (by omega)) ?_
  rintro e w2 ⟨j, rfl, rfl, hj, hr⟩
  refine ⟨(j : Int), rfl, nd3 (by omega) (by omega) (by omega) ?_⟩
  rw [Int.toNat_natCast]
  have hsz := size_sub s j
  have hpx : parseX s.data.toList = match rdX 4 0 (rest s j) 0 with
    | .error e => .error e
    | .ok (x, l1, n) => if blanksM l1 = [] then .ok (x, n) else .error (28, (blanksM l1).length) := by
    have h0 : rest s 0 = s.data.toList := rfl
    unfold parseX
    rw [← h0, ← hr]
    rfl
  have hld := lead2_any (s.extract j s.size) w2 (by omega)
  rw [rest_sub, Nat.add_zero] at hld
  refine cl_i hld ?_
  intro e w3 hv
  obtain ⟨h3, hL⟩ := hv
  have b3 := b1.ch h3 (fun h => h)
  have hs2 := b1.lt
  cases hx : rdX 4 0 (rest s j) 0 with
  | error f =>
    rw [hx] at hL hpx
    obtain ⟨hf0, hfs, rfl⟩ := hL
    refine ⟨((0, 0, bytesL [], (none, 0, 0), ()), _, f.1, ()), rfl, ?_⟩
    dsimp only
    refine put_v (x := .mk 0 0 (bytesL []) []) (p := none) (m := 0) (c := 0) fun w4 h4 b4 => ?_
    refine br_both (fun _ => ?_) fun e => absurd (ne_f e) hf0
    refine ld_v b4 (st4_i (x := .mk 0 0 (bytesL []) []) (p := none) (m := 0) (c := 0) (b3.ch h4 (fun h => h)) rfl fun w5 h5 b5 => ld_v b5 ?_)
    rw [hpx, show IntKind.i64.wrap ((j : Int) + (((s.extract j s.size).size - f.2 : Nat) : Int)) = ((s.size - f.2 : Nat) : Int) by rw [wrap_in (by omega) (by omega)]; omega]
    exact ⟨((h1.trans h3).trans h4).then_ h5 fun i hi e => by omega, hf0, by omega, rfl⟩
  | ok y =>
    obtain ⟨x, l1, n⟩ := y
    rw [hx] at hL hpx
    obtain ⟨p, m, c, k, rfl, hk, hrk, V3⟩ := hL
    rw [rest_sub] at hrk
    dsimp only at hpx
    refine ⟨((x.kind, x.int, x.text, (p, m, c), ()), _, 0, ()), rfl, ?_⟩
    dsimp only
    refine put_v (x := x) (p := p) (m := m) (c := c) fun w4 h4 b4 => ?_
    have b14 := b3.ch h4 (fun h => h)
    refine br_both (fun e => absurd e (by decide)) fun _ => ?_
    rw [show IntKind.i64.wrap ((j : Int) + (k : Int)) = ((j + k : Nat) : Int) by rw [wrap_in (by omega) (by omega)]; omega]
    refine cl_i (mblanks_any s (j + k) w4 hs (by omega)) ?_
    rintro e w5 ⟨k2, rfl, rfl, hk2, hr2⟩
    rw [hrk] at hr2
    have hl2 : (rest s k2).length = s.size - k2 := restL s k2
    refine ⟨(k2 : Int), rfl, br_both (fun e => ?_) fun e => ?_⟩
    · have e := lt_t e
      rw [← hr2, if_neg (fun h => by rw [h] at hl2; simp at hl2; omega), hl2] at hpx
      refine st4_i (x := .mk 0 0 (bytesL []) []) (p := none) (m := 0) (c := 0) b14 rfl fun w6 h6 b6 => ld_v b6 ?_
      rw [hpx]
      refine ⟨((h1.trans h3).trans h4).then_ h6 fun i hi e => by omega, (by decide : (28 : Int) ≠ 0), by dsimp only; omega, ?_⟩
      dsimp only
      rw [show s.size - (s.size - k2) = k2 by omega]
      rfl
    · have e := lt_f e
      have hk2' : k2 = s.size := by omega
      rw [← hr2, if_pos (List.eq_nil_of_length_eq_zero (by omega))] at hpx
      refine ld_v b4 (st4_i (x := x) (p := p) (m := m) (c := c) b14 rfl fun w6 h6 b6 => ld_v b6 ?_)
      rw [hpx]
      have hws := h1.size
      have s3 := h3.size
      have s4 := h4.size
      have s6 := h6.size
      refine ⟨((h1.trans h3).trans h4).then_ h6 fun i hi e => by omega, p, m, c, ?_, ((V3.ch h4 (fun k _ h => h)).ch h6 (fun k hk (e : k = w.heap.size) => by have := hk.1; omega)).mono fun k hk => ⟨by have := hk.1; omega, by have := hk.2; omega⟩⟩
      rw [hk2']
      rfl
end Go.Proofs.YtjlmkahagcojcaaGreatDoor.V
