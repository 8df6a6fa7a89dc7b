/- Lead and Parse. -/
import Derived.Test.YtjellmblammiaaaDoorRdw
namespace Go.Proofs.YtjellmblammiaaaDoor
open Go Tr
open Go.RowKit (Below)
set_option maxRecDepth 100000
def leadM (l : List UInt8) : Option (VT × List UInt8 × Int) := rdV 4 0 l 0
def parseM (l : List UInt8) : Option (VT × Int) :=
  match rdV 4 0 (blanksM l) 0 with
  | none => none
  | some (x, l1, n1) => if blanksM l1 = [] then some (x, n1) else none
/-- A reader's refusal, as it is answered. -/
def Refused (s : ByteArray) (e : Ending) : Prop := ∃ er a : Int, e = .returned (.tuple #[valV noneV none 0 0, .int .i64 a, .int .i64 er]) ∧ RdErr er ∧ 0 ≤ a ∧ a ≤ s.size
def LeadR (w : World) (s : ByteArray) (e : Ending) (w' : World) : Prop :=
  Ch No w w' ∧ match leadM s.data.toList with
    | none => Refused s e
    | some (x, l', _) => ∃ q n d, e = .returned (.tuple #[valV x q n d, .int .i64 ((s.size - l'.length : Nat) : Int), .int .i64 0]) ∧ IsV w' x q n d
def ParseR (w : World) (s : ByteArray) (e : Ending) (w' : World) : Prop :=
  Ch No w w' ∧ match parseM s.data.toList with
    | none => Refused s e
    | some (x, _) => ∃ q n d, e = .returned (.tuple #[valV x q n d, .int .i64 (s.size : Int), .int .i64 0]) ∧ IsV w' x q n d
/-! the tree of function 19 -/
def s19 : Script := .clp (.one (.agg [.int .i64, .int .i64, .str, .sl])) (.ld (.int .i64) (.ld (.int .i64) (.ld .str (.ld .sl (.ld (.int .i64) .nil))))) .nil
theorem t19 (qs0 : ByteArray) : defT Tryd.prog Tryd.f19 #[.string qs0] s19 =
  .new (.cells #[.int .i64 0, .int .i64 0, .string (bytesL []), .slice none 0 0] 24 (0, 0)) (fun n1 =>
    .new (.cells #[.int .i64 0] 3 (0, 0)) (fun n2 =>
      .new (.cells #[.int .i64 0] 30 (0, 0)) (fun n3 =>
        .mark
          (.new (.cells #[.string (bytesL []), .int .i64 0, .int .i64 0] 58 (0, 0)) (fun n4 =>
            .store ⟨n4, 0, none⟩ (.string qs0)
              (.store ⟨n4, 1, none⟩ (.int .i64 0)
                (.store ⟨n4, 2, none⟩ (.int .i64 0)
                  (.callp 31 #[.pointer (some ⟨n4, 0, none⟩), .int .i64 0] (.one (.agg [.int .i64, .int .i64, .str, .sl])) (fun r5 =>
                    .store ⟨n1, 0, none⟩ (.int .i64 r5.1)
                      (.store ⟨n1, 1, none⟩ (.int .i64 r5.2.1)
                        (.store ⟨n1, 2, none⟩ (.string r5.2.2.1)
                          (.store ⟨n1, 3, none⟩ (.slice r5.2.2.2.1.1 r5.2.2.2.1.2.1 r5.2.2.2.1.2.2)
                            (.load ⟨n1, 0, none⟩ (.int .i64) (fun x6 =>
                              .load ⟨n1, 1, none⟩ (.int .i64) (fun x7 =>
                                .load ⟨n1, 2, none⟩ .str (fun s8 =>
                                  .load ⟨n1, 3, none⟩ .sl (fun l9 =>
                                    .load ⟨n4, 1, none⟩ (.int .i64) (fun x10 =>
                                      .store ⟨n1, 0, none⟩ (.int .i64 x6)
                                        (.store ⟨n1, 1, none⟩ (.int .i64 x7)
                                          (.store ⟨n1, 2, none⟩ (.string s8)
                                            (.store ⟨n1, 3, none⟩ (.slice l9.1 l9.2.1 l9.2.2)
                                              (.store ⟨n2, 0, none⟩ (.int .i64 x10)
                                                (.store ⟨n3, 0, none⟩ (.int .i64 0)
                                                  (.fin .ret [(0, .func (.func 39) #[] #[.pointer (some ⟨n1, 0, none⟩), .pointer (some ⟨n2, 0, none⟩), .pointer (some ⟨n3, 0, none⟩)]), (1, .agg #[]), (2, .agg #[.string qs0, undef, .pointer (some ⟨n1, 0, none⟩), .pointer (some ⟨n2, 0, none⟩), .pointer (some ⟨n3, 0, none⟩), .pointer (some ⟨n4, 0, none⟩), .func (.func 39) #[] #[.pointer (some ⟨n1, 0, none⟩), .pointer (some ⟨n2, 0, none⟩), .pointer (some ⟨n3, 0, none⟩)], .string qs0, .agg #[.string qs0, .int .i64 0, .int .i64 0], .agg #[.int .i64 r5.1, .int .i64 r5.2.1, .string r5.2.2.1, .slice r5.2.2.2.1.1 r5.2.2.2.1.2.1 r5.2.2.2.1.2.2], .agg #[.int .i64 x6, .int .i64 x7, .string s8, .slice l9.1 l9.2.1 l9.2.2], .pointer (some ⟨n4, 1, none⟩), .int .i64 x10])])))))))))))))))) (fun ch11 =>
                    .fin (.panic ch11) [(0, .func (.func 39) #[] #[.pointer (some ⟨n1, 0, none⟩), .pointer (some ⟨n2, 0, none⟩), .pointer (some ⟨n3, 0, none⟩)]), (1, .agg #[]), (2, .agg #[.string qs0, undef, .pointer (some ⟨n1, 0, none⟩), .pointer (some ⟨n2, 0, none⟩), .pointer (some ⟨n3, 0, none⟩), .pointer (some ⟨n4, 0, none⟩), .func (.func 39) #[] #[.pointer (some ⟨n1, 0, none⟩), .pointer (some ⟨n2, 0, none⟩), .pointer (some ⟨n3, 0, none⟩)], .string qs0, .agg #[.string qs0, .int .i64 0, .int .i64 0], undef, undef, undef, undef])]))))))))) := by kernel_rfl
/-! the tree of function 10 -/
def s10 : Script := .clp (.tup []) (.clp (.one (.agg [.int .i64, .int .i64, .str, .sl])) (.clp (.tup []) (.ld (.int .i64) (.sym (.ld (.int .i64) (.clx .nil)) (.ld (.int .i64) (.ld (.int .i64) (.ld .str (.ld .sl .nil)))))) .nil) .nil) .nil
theorem t10 (qs0 : ByteArray) : defT Tryd.prog Tryd.f10 #[.string qs0] s10 =
  .new (.cells #[.int .i64 0, .int .i64 0, .string (bytesL []), .slice none 0 0] 24 (0, 0)) (fun n1 =>
    .new (.cells #[.int .i64 0] 3 (0, 0)) (fun n2 =>
      .new (.cells #[.int .i64 0] 30 (0, 0)) (fun n3 =>
        .mark
          (.new (.cells #[.string (bytesL []), .int .i64 0, .int .i64 0] 58 (0, 0)) (fun n4 =>
            .store ⟨n4, 0, none⟩ (.string qs0)
              (.store ⟨n4, 1, none⟩ (.int .i64 0)
                (.store ⟨n4, 2, none⟩ (.int .i64 0)
                  (.callp 30 #[.pointer (some ⟨n4, 0, none⟩)] (.tup []) (fun r5 =>
                    .callp 31 #[.pointer (some ⟨n4, 0, none⟩), .int .i64 0] (.one (.agg [.int .i64, .int .i64, .str, .sl])) (fun r6 =>
                      .store ⟨n1, 0, none⟩ (.int .i64 r6.1)
                        (.store ⟨n1, 1, none⟩ (.int .i64 r6.2.1)
                          (.store ⟨n1, 2, none⟩ (.string r6.2.2.1)
                            (.store ⟨n1, 3, none⟩ (.slice r6.2.2.2.1.1 r6.2.2.2.1.2.1 r6.2.2.2.1.2.2)
                              (.callp 30 #[.pointer (some ⟨n4, 0, none⟩)] (.tup []) (fun r7 =>
                                .load ⟨n4, 1, none⟩ (.int .i64) (fun x8 =>
                                  .br (Decidable.decide (x8 < (↑qs0.size : Int)))
                                    (.load ⟨n4, 1, none⟩ (.int .i64) (fun x9 =>
                                      .callx 32 #[.pointer (some ⟨n4, 0, none⟩), .int .i64 28, .int .i64 x9] (fun ch10 =>
                                        .fin (.panic ch10) [(0, .func (.func 28) #[] #[.pointer (some ⟨n1, 0, none⟩), .pointer (some ⟨n2, 0, none⟩), .pointer (some ⟨n3, 0, none⟩)]), (1, .agg #[]), (2, .agg #[.string qs0, undef, .pointer (some ⟨n1, 0, none⟩), .pointer (some ⟨n2, 0, none⟩), .pointer (some ⟨n3, 0, none⟩), .pointer (some ⟨n4, 0, none⟩), .func (.func 28) #[] #[.pointer (some ⟨n1, 0, none⟩), .pointer (some ⟨n2, 0, none⟩), .pointer (some ⟨n3, 0, none⟩)], .string qs0, .agg #[.string qs0, .int .i64 0, .int .i64 0], .tuple #[], .agg #[.int .i64 r6.1, .int .i64 r6.2.1, .string r6.2.2.1, .slice r6.2.2.2.1.1 r6.2.2.2.1.2.1 r6.2.2.2.1.2.2], .tuple #[], .pointer (some ⟨n4, 1, none⟩), .int .i64 x8, .string qs0, .int .i64 (↑qs0.size : Int), .bool true, .pointer (some ⟨n4, 1, none⟩), .int .i64 x9, undef, undef, undef, undef])])))
                                    (.load ⟨n1, 0, none⟩ (.int .i64) (fun x11 =>
                                      .load ⟨n1, 1, none⟩ (.int .i64) (fun x12 =>
                                        .load ⟨n1, 2, none⟩ .str (fun s13 =>
                                          .load ⟨n1, 3, none⟩ .sl (fun l14 =>
                                            .store ⟨n1, 0, none⟩ (.int .i64 x11)
                                              (.store ⟨n1, 1, none⟩ (.int .i64 x12)
                                                (.store ⟨n1, 2, none⟩ (.string s13)
                                                  (.store ⟨n1, 3, none⟩ (.slice l14.1 l14.2.1 l14.2.2)
                                                    (.store ⟨n2, 0, none⟩ (.int .i64 (↑qs0.size : Int))
                                                      (.store ⟨n3, 0, none⟩ (.int .i64 0)
                                                        (.fin .ret [(0, .func (.func 28) #[] #[.pointer (some ⟨n1, 0, none⟩), .pointer (some ⟨n2, 0, none⟩), .pointer (some ⟨n3, 0, none⟩)]), (1, .agg #[]), (2, .agg #[.string qs0, undef, .pointer (some ⟨n1, 0, none⟩), .pointer (some ⟨n2, 0, none⟩), .pointer (some ⟨n3, 0, none⟩), .pointer (some ⟨n4, 0, none⟩), .func (.func 28) #[] #[.pointer (some ⟨n1, 0, none⟩), .pointer (some ⟨n2, 0, none⟩), .pointer (some ⟨n3, 0, none⟩)], .string qs0, .agg #[.string qs0, .int .i64 0, .int .i64 0], .tuple #[], .agg #[.int .i64 r6.1, .int .i64 r6.2.1, .string r6.2.2.1, .slice r6.2.2.2.1.1 r6.2.2.2.1.2.1 r6.2.2.2.1.2.2], .tuple #[], .pointer (some ⟨n4, 1, none⟩), .int .i64 x8, .string qs0, .int .i64 (↑qs0.size : Int), .bool false, undef, undef, undef, .agg #[.int .i64 x11, .int .i64 x12, .string s13, .slice l14.1 l14.2.1 l14.2.2], .string qs0, .int .i64 (↑qs0.size : Int)])]))))))))))))) (fun ch15 =>
                                .fin (.panic ch15) [(0, .func (.func 28) #[] #[.pointer (some ⟨n1, 0, none⟩), .pointer (some ⟨n2, 0, none⟩), .pointer (some ⟨n3, 0, none⟩)]), (1, .agg #[]), (2, .agg #[.string qs0, undef, .pointer (some ⟨n1, 0, none⟩), .pointer (some ⟨n2, 0, none⟩), .pointer (some ⟨n3, 0, none⟩), .pointer (some ⟨n4, 0, none⟩), .func (.func 28) #[] #[.pointer (some ⟨n1, 0, none⟩), .pointer (some ⟨n2, 0, none⟩), .pointer (some ⟨n3, 0, none⟩)], .string qs0, .agg #[.string qs0, .int .i64 0, .int .i64 0], .tuple #[], .agg #[.int .i64 r6.1, .int .i64 r6.2.1, .string r6.2.2.1, .slice r6.2.2.2.1.1 r6.2.2.2.1.2.1 r6.2.2.2.1.2.2], undef, undef, undef, undef, undef, undef, undef, undef, undef, undef, undef, undef])])))))) (fun ch16 =>
                      .fin (.panic ch16) [(0, .func (.func 28) #[] #[.pointer (some ⟨n1, 0, none⟩), .pointer (some ⟨n2, 0, none⟩), .pointer (some ⟨n3, 0, none⟩)]), (1, .agg #[]), (2, .agg #[.string qs0, undef, .pointer (some ⟨n1, 0, none⟩), .pointer (some ⟨n2, 0, none⟩), .pointer (some ⟨n3, 0, none⟩), .pointer (some ⟨n4, 0, none⟩), .func (.func 28) #[] #[.pointer (some ⟨n1, 0, none⟩), .pointer (some ⟨n2, 0, none⟩), .pointer (some ⟨n3, 0, none⟩)], .string qs0, .agg #[.string qs0, .int .i64 0, .int .i64 0], .tuple #[], undef, undef, undef, undef, undef, undef, undef, undef, undef, undef, undef, undef, undef])])) (fun ch17 =>
                    .fin (.panic ch17) [(0, .func (.func 28) #[] #[.pointer (some ⟨n1, 0, none⟩), .pointer (some ⟨n2, 0, none⟩), .pointer (some ⟨n3, 0, none⟩)]), (1, .agg #[]), (2, .agg #[.string qs0, undef, .pointer (some ⟨n1, 0, none⟩), .pointer (some ⟨n2, 0, none⟩), .pointer (some ⟨n3, 0, none⟩), .pointer (some ⟨n4, 0, none⟩), .func (.func 28) #[] #[.pointer (some ⟨n1, 0, none⟩), .pointer (some ⟨n2, 0, none⟩), .pointer (some ⟨n3, 0, none⟩)], .string qs0, .agg #[.string qs0, .int .i64 0, .int .i64 0], undef, undef, undef, undef, undef, undef, undef, undef, undef, undef, undef, undef, undef, undef])]))))))))) := by kernel_rfl

theorem lead_any (w : World) (s : ByteArray) (hs : s.size ≤ 140737488355328) (hT : Tabs w) (hE : Ev w) (h7g : 7 ≤ w.heap.size) : Calls Tryd.prog 19 #[.string s] w (LeadR w s) := by
  refine calls_of_defT mixed Tryd.func19 (s := s19) ?_
  rw [t19]
  refine nw fun w1 h1 z1 b1 => nw fun w2 h2 z2 b2 => nw fun w3 h3 z3 b3 => ?_
  show wpT _ _ _ _ .pl w3
  refine nw fun w4 h4 z4 b4 => st_blk b4 (by simp) rfl fun w5 h5 z5 b5 => st_blk b5 (by simp) rfl fun w6 h6 z6 b6 => st_blk b6 (by simp) rfl fun w7 h7 z7 b7 => ?_
  have h03 : Ch No w w3 := h1.trans (h2.trans h3)
  have h47 := h5.trans (h6.trans h7)
  have h07 : Ch No w w7 := (h03.trans h4).then_ h47 (fun i hi (e : i = w3.heap.size) => by omega)
  have B1 := (((b1.ch h2 (fun h => h)).ch h3 (fun h => h)).ch h4 (fun h => h)).ch h47 (fun e : w.heap.size = w3.heap.size => by omega)
  have B2 := ((b2.ch h3 (fun h => h)).ch h4 (fun h => h)).ch h47 (fun e : w1.heap.size = w3.heap.size => by omega)
  have B3 := (b3.ch h4 (fun h => h)).ch h47 (fun e : w2.heap.size = w3.heap.size => by omega)
  generalize hn1 : w.heap.size = n1 at *
  generalize hn2 : w1.heap.size = n2 at *
  generalize hn3 : w2.heap.size = n3 at *
  generalize hn4 : w3.heap.size = n4 at *
  have D : RdS w7 n4 s 0 0 := ⟨b7, by omega, hs⟩
  have T7 := hT.no h07
  have E7 : Ev w7 := hE.ch h07 (fun h => h)
  -- a refusal goes through the deferred closure
  have refuse : ∀ (er a : Int) (tm : Array Value) (w8 : World), Ch (· = n4) w7 w8 → RdErr er → 0 ≤ a → a ≤ s.size → tm[2]? = some (.pointer (some ⟨n1, 0, none⟩)) → tm[3]? = some (.pointer (some ⟨n2, 0, none⟩)) → tm[4]? = some (.pointer (some ⟨n3, 0, none⟩)) → (∃ v1 v2 v3 v4, Blk w8 n1 [v1, v2, v3, v4] 24) →
      Leaves Tryd.prog Tryd.f19 tm (fun e w' => Ch No w w' ∧ Refused s e) [{ target := .fn (.func 39) #[.pointer (some ⟨n1, 0, none⟩), .pointer (some ⟨n2, 0, none⟩), .pointer (some ⟨n3, 0, none⟩)], args := #[] }] (.panicking (thrown er a)) w8 := by
    intro er a tm w8 h8 he a0 a1 t2 t3 t4 ⟨v1, v2, v3, v4, C1⟩
    have C2 := B2.ch h8 (fun e : n2 = n4 => by omega)
    have C3 := B3.ch h8 (fun e : n3 = n4 => by omega)
    refine leaves_cons (f := 39) (args := #[.pointer (some ⟨n1, 0, none⟩), .pointer (some ⟨n2, 0, none⟩), .pointer (some ⟨n3, 0, none⟩)]) (by simp) (by simp [go_sem]) ?_
    refine (clos39_pan _ _ _ er a w8 _ (caught_any n1 n2 n3 er a w8 _ _ _ _ _ _ _ _ (by omega) (by omega) (by omega) C1 C2 C3)).mono ?_
    rintro e u' w9 ⟨rfl, rfl, h9, c1, c2, c3⟩
    show Leaves _ _ _ _ _ (settle _) _
    refine ⟨_, res19 n1 n2 n3 _ t2 t3 t4 w9 noneV none 0 0 a er c1 c2 c3, (h07.then_ h8 (fun i hi (e : i = n4) => by omega)).then_ h9 (fun i hi h => by omega), er, a, rfl, he, a0, a1⟩
  refine cp_i (rval_any n4 s (by have := h07.size; omega) 4 0 (by omega) (by omega) (by decide) w7 0 0 D T7 E7 (by omega) (by omega)) ?_
  rintro e w8 ⟨h8, hr⟩
  have hl0 : rest s 0 = s.data.toList := List.drop_zero
  rw [hl0] at hr
  have C1 := B1.ch h8 (fun e : n1 = n4 => by omega)
  have C2 := B2.ch h8 (fun e : n2 = n4 => by omega)
  have C3 := B3.ch h8 (fun e : n3 = n4 => by omega)
  have H8 : Ch No w w8 := h07.then_ h8 (fun i hi (e : i = n4) => by omega)
  have hlm : leadM s.data.toList = rdV 4 0 s.data.toList 0 := rfl
  cases hx : rdV 4 0 s.data.toList 0 with
  | none =>
    rw [hx] at hr
    obtain ⟨er, a, rfl, he, a0, a1⟩ := hr
    refine .inr ⟨_, rfl, ?_⟩
    refine ⟨_, _, _, _, rfl, ?_⟩
    dsimp only
    have hR : LeadR w s = fun e w' => Ch No w w' ∧ Refused s e := by
      funext e w'
      unfold LeadR
      rw [hlm, hx]
    rw [hR]
    exact refuse er a _ w8 h8 he a0 a1 rfl rfl rfl ⟨_, _, _, _, C1⟩
  | some y =>
    obtain ⟨x, l1, n'⟩ := y
    rw [hx] at hr
    obtain ⟨q, m, d, i', rfl, hI, D8, hl⟩ := hr
    refine .inl ⟨(x.kind, x.int, x.text, (q, m, d), ()), rfl, ?_⟩
    refine st_blk C1 (by simp) rfl fun w9 h9 z9 d9 => st_blk d9 (by simp) rfl fun w10 h10 z10 d10 => st_blk d10 (by simp) rfl fun w11 h11 z11 d11 => st_blk d11 (by simp) rfl fun w12 h12 z12 d12 => ?_
    have h912 := h9.trans (h10.trans (h11.trans h12))
    have e12 := D8.blk.ch h912 (fun e : n4 = n1 => by omega)
    refine ld_int (d12.cell 0) (ld_int (d12.cell 1) (ld_str (d12.cell 2) (ld_sl (d12.cell 3) (ld_int (e12.cell 1) ?_))))
    refine st_blk d12 (by simp) rfl fun w13 h13 z13 d13 => st_blk d13 (by simp) rfl fun w14 h14 z14 d14 => st_blk d14 (by simp) rfl fun w15 h15 z15 d15 => st_blk d15 (by simp) rfl fun w16 h16 z16 d16 => ?_
    have h916 := h912.trans (h13.trans (h14.trans (h15.trans h16)))
    refine st_blk (C2.ch h916 (fun e : n2 = n1 => by omega)) (by simp) rfl fun w17 h17 z17 d17 => ?_
    refine st_blk ((C3.ch h916 (fun e : n3 = n1 => by omega)).ch h17 (fun e : n3 = n2 => by omega)) (by simp) rfl fun w18 h18 z18 d18 => ?_
    have H18 : Ch No w w18 := H8.then_ ((h916.mono (S' := fun k => k = n1 ∨ k = n2 ∨ k = n3) fun k h => .inl h).trans ((h17.mono fun k h => .inr (.inl h)).trans (h18.mono fun k h => .inr (.inr h)))) (fun i hi h => by omega)
    have HI : IsV w18 x q m d := (((hI.ch h916 (fun k hk (e : k = n1) => by have := hk.1; have := h07.size; omega)).ch h17 (fun k hk (e : k = n2) => by have := hk.1; have := h07.size; omega)).ch h18 (fun k hk (e : k = n3) => by have := hk.1; have := h07.size; omega)).is
    refine ⟨_, _, _, _, rfl, ?_⟩
    dsimp only
    refine leaves_cons (f := 39) (args := #[.pointer (some ⟨n1, 0, none⟩), .pointer (some ⟨n2, 0, none⟩), .pointer (some ⟨n3, 0, none⟩)]) (by simp) (by simp [go_sem]) ?_
    refine (clos39_idle _ _ _ w18).mono ?_
    rintro e u' w19 ⟨rfl, rfl, rfl⟩
    show Leaves _ _ _ _ _ (settle _) _
    have F1 : Blk w19 n1 (cellsV x q m d) 24 := (d16.ch h17 (fun e : n1 = n2 => by omega)).ch h18 (fun e : n1 = n3 => by omega)
    have F2 : Blk w19 n2 [.int .i64 (i' : Int)] 3 := d17.ch h18 (fun e : n2 = n3 => by omega)
    refine ⟨_, res19 n1 n2 n3 _ rfl rfl rfl w19 x q m d i' 0 F1 F2 d18, H18, ?_⟩
    rw [hlm, hx]
    refine ⟨q, m, d, ?_, HI⟩
    have h1 := D8.le
    rw [hl, show (rest s i').length = s.size - i' by show (List.drop i' _).length = _; rw [List.length_drop, sizeB], show s.size - (s.size - i') = i' by omega]
theorem parse_any (w : World) (s : ByteArray) (hs : s.size ≤ 140737488355328) (hT : Tabs w) (hE : Ev w) (h7g : 7 ≤ w.heap.size) : Calls Tryd.prog 10 #[.string s] w (ParseR w s) := by
  refine calls_of_defT mixed Tryd.func10 (s := s10) ?_
  rw [t10]
  refine nw fun w1 h1 z1 b1 => nw fun w2 h2 z2 b2 => nw fun w3 h3 z3 b3 => ?_
  show wpT _ _ _ _ .pl w3
  refine nw fun w4 h4 z4 b4 => st_blk b4 (by simp) rfl fun w5 h5 z5 b5 => st_blk b5 (by simp) rfl fun w6 h6 z6 b6 => st_blk b6 (by simp) rfl fun w7 h7 z7 b7 => ?_
  have h03 : Ch No w w3 := h1.trans (h2.trans h3)
  have h47 := h5.trans (h6.trans h7)
  have h07 : Ch No w w7 := (h03.trans h4).then_ h47 (fun i hi (e : i = w3.heap.size) => by omega)
  have B1 := (((b1.ch h2 (fun h => h)).ch h3 (fun h => h)).ch h4 (fun h => h)).ch h47 (fun e : w.heap.size = w3.heap.size => by omega)
  have B2 := ((b2.ch h3 (fun h => h)).ch h4 (fun h => h)).ch h47 (fun e : w1.heap.size = w3.heap.size => by omega)
  have B3 := (b3.ch h4 (fun h => h)).ch h47 (fun e : w2.heap.size = w3.heap.size => by omega)
  generalize hn1 : w.heap.size = n1 at *
  generalize hn2 : w1.heap.size = n2 at *
  generalize hn3 : w2.heap.size = n3 at *
  generalize hn4 : w3.heap.size = n4 at *
  have D : RdS w7 n4 s 0 0 := ⟨b7, by omega, hs⟩
  have T7 := hT.no h07
  have E7 : Ev w7 := hE.ch h07 (fun h => h)
  -- a refusal goes through the deferred closure
  have refuse : ∀ (er a : Int) (tm : Array Value) (w8 : World), Ch (· = n4) w7 w8 → RdErr er → 0 ≤ a → a ≤ s.size → tm[2]? = some (.pointer (some ⟨n1, 0, none⟩)) → tm[3]? = some (.pointer (some ⟨n2, 0, none⟩)) → tm[4]? = some (.pointer (some ⟨n3, 0, none⟩)) → (∃ v1 v2 v3 v4, Blk w8 n1 [v1, v2, v3, v4] 24) →
      Leaves Tryd.prog Tryd.f10 tm (fun e w' => Ch No w w' ∧ Refused s e) [{ target := .fn (.func 28) #[.pointer (some ⟨n1, 0, none⟩), .pointer (some ⟨n2, 0, none⟩), .pointer (some ⟨n3, 0, none⟩)], args := #[] }] (.panicking (thrown er a)) w8 := by
    intro er a tm w8 h8 he a0 a1 t2 t3 t4 ⟨v1, v2, v3, v4, C1⟩
    have C2 := B2.ch h8 (fun e : n2 = n4 => by omega)
    have C3 := B3.ch h8 (fun e : n3 = n4 => by omega)
    refine leaves_cons (f := 28) (args := #[.pointer (some ⟨n1, 0, none⟩), .pointer (some ⟨n2, 0, none⟩), .pointer (some ⟨n3, 0, none⟩)]) (by simp) (by simp [go_sem]) ?_
    refine (clos28_pan _ _ _ er a w8 _ (caught_any n1 n2 n3 er a w8 _ _ _ _ _ _ _ _ (by omega) (by omega) (by omega) C1 C2 C3)).mono ?_
    rintro e u' w9 ⟨rfl, rfl, h9, c1, c2, c3⟩
    show Leaves _ _ _ _ _ (settle _) _
    refine ⟨_, res10 n1 n2 n3 _ t2 t3 t4 w9 noneV none 0 0 a er c1 c2 c3, (h07.then_ h8 (fun i hi (e : i = n4) => by omega)).then_ h9 (fun i hi h => by omega), er, a, rfl, he, a0, a1⟩
  have hl0 : rest s 0 = s.data.toList := List.drop_zero
  have big7 : 7 ≤ n4 := by have := h07.size; omega
  refine cp_i (blanks_any w7 n4 s 0 0 D) ?_
  rintro r w7' ⟨rfl, h7', i0, D7, hi0⟩
  refine .inl ⟨(), rfl, ?_⟩
  rw [hl0] at hi0
  have T7' : Tabs w7' := T7.ch (base := n4) (h7'.mono fun k (h : k = n4) => by show n4 ≤ k; omega) big7
  have E7' : Ev w7' := E7.ch h7' (fun e : 4 = n4 => by omega)
  refine cp_i (rval_any n4 s big7 4 0 (by omega) (by omega) (by decide) w7' i0 0 D7 T7' E7' (by omega) (by omega)) ?_
  rintro e w8 ⟨h8', hr⟩
  have h8 := h7'.trans h8'
  rw [hi0] at hr
  have C1 := B1.ch h8 (fun e : n1 = n4 => by omega)
  have C2 := B2.ch h8 (fun e : n2 = n4 => by omega)
  have C3 := B3.ch h8 (fun e : n3 = n4 => by omega)
  have H8 : Ch No w w8 := h07.then_ h8 (fun i hi (e : i = n4) => by omega)
  cases hx : rdV 4 0 (blanksM s.data.toList) 0 with
  | none =>
    rw [hx] at hr
    obtain ⟨er, a, rfl, he, a0, a1⟩ := hr
    refine .inr ⟨_, rfl, ?_⟩
    refine ⟨_, _, _, _, rfl, ?_⟩
    dsimp only
    have hpm : parseM s.data.toList = none := by unfold parseM; rw [hx]
    have hR : ParseR w s = fun e w' => Ch No w w' ∧ Refused s e := by
      funext e w'
      unfold ParseR
      rw [hpm]
    rw [hR]
    exact refuse er a _ w8 h8 he a0 a1 rfl rfl rfl ⟨_, _, _, _, C1⟩
  | some y =>
    obtain ⟨x, l1, n'⟩ := y
    rw [hx] at hr
    obtain ⟨q, m, d, i', rfl, hI, D8, hl⟩ := hr
    have hpm : parseM s.data.toList = if blanksM l1 = [] then some (x, n') else none := by unfold parseM; rw [hx]
    refine .inl ⟨(x.kind, x.int, x.text, (q, m, d), ()), rfl, ?_⟩
    refine st_blk C1 (by simp) rfl fun w9 h9 z9 d9 => st_blk d9 (by simp) rfl fun w10 h10 z10 d10 => st_blk d10 (by simp) rfl fun w11 h11 z11 d11 => st_blk d11 (by simp) rfl fun w12 h12 z12 d12 => ?_
    have h912 := h9.trans (h10.trans (h11.trans h12))
    have D12 := D8.keep h912 (fun e : n4 = n1 => by omega)
    refine cp_i (blanks_any w12 n4 s i' n' D12) ?_
    rintro r w13 ⟨rfl, h13, j, D13, hj⟩
    refine .inl ⟨(), rfl, ?_⟩
    rw [← hl] at hj
    have d13 := d12.ch h13 (fun e : n1 = n4 => by omega)
    have h8_13 : Ch (fun k => k = n1 ∨ k = n4) w8 w13 := (h912.mono fun k h => .inl h).trans (h13.mono fun k h => .inr h)
    have hjle := D13.le
    have hnil : blanksM l1 = [] ↔ j = s.size := by
      rw [← hj]
      constructor
      · intro h
        have := congrArg List.length h
        rw [show (rest s j).length = s.size - j by show (List.drop j _).length = _; rw [List.length_drop, sizeB]] at this
        simp at this; omega
      · rintro rfl
        exact List.drop_of_length_le (by have := sizeB s; omega)
    refine ld_int D13.c1 (br_both (fun e => ?_) fun e => ?_)
    · have e : (j : Int) < (s.size : Int) := of_decide_eq_true e
      refine ld_int D13.c1 (cx_i (rfail_any _ _ _ w13) ?_)
      rintro r w14 ⟨rfl, rfl⟩
      refine ⟨_, rfl, ?_⟩
      refine ⟨_, _, _, _, rfl, ?_⟩
      dsimp only
      unfold ParseR
      rw [hpm, if_neg (fun h => by have := hnil.1 h; omega)]
      have H13 : Ch No w w14 := H8.then_ h8_13 (fun i hi h => by omega)
      have C2' := C2.ch h8_13 (fun h => by omega)
      have C3' := C3.ch h8_13 (fun h => by omega)
      refine leaves_cons (f := 28) (args := #[.pointer (some ⟨n1, 0, none⟩), .pointer (some ⟨n2, 0, none⟩), .pointer (some ⟨n3, 0, none⟩)]) (by simp) (by simp [go_sem]) ?_
      refine (clos28_pan _ _ _ 28 j w14 _ (caught_any n1 n2 n3 28 j w14 _ _ _ _ _ _ _ _ (by omega) (by omega) (by omega) d13 C2' C3')).mono ?_
      rintro e u' w15 ⟨rfl, rfl, h15, c1, c2, c3⟩
      show Leaves _ _ _ _ _ (settle _) _
      refine ⟨_, res10 n1 n2 n3 _ rfl rfl rfl w15 noneV none 0 0 j 28 c1 c2 c3, H13.then_ h15 (fun i hi h => by omega), 28, j, rfl, .inr (.inr (.inr (.inl rfl))), by omega, by omega⟩
    · have e : ¬ (j : Int) < (s.size : Int) := of_decide_eq_false e
      refine ld_int (d13.cell 0) (ld_int (d13.cell 1) (ld_str (d13.cell 2) (ld_sl (d13.cell 3) ?_)))
      refine st_blk d13 (by simp) rfl fun w14 h14 z14 d14 => st_blk d14 (by simp) rfl fun w15 h15 z15 d15 => st_blk d15 (by simp) rfl fun w16 h16 z16 d16 => st_blk d16 (by simp) rfl fun w17 h17 z17 d17 => ?_
      have h8_17 : Ch (fun k => k = n1 ∨ k = n4) w8 w17 := h8_13.trans ((h14.trans (h15.trans (h16.trans h17))).mono fun k h => .inl h)
      refine st_blk (C2.ch h8_17 (fun h => by omega)) (by simp) rfl fun w18 h18 z18 d18 => ?_
      refine st_blk ((C3.ch h8_17 (fun h => by omega)).ch h18 (fun e : n3 = n2 => by omega)) (by simp) rfl fun w19 h19 z19 d19 => ?_
      have h8_19 : Ch (fun k => k = n1 ∨ k = n2 ∨ k = n3 ∨ k = n4) w8 w19 := (h8_17.mono fun k h => by omega).trans ((h18.mono fun k (h : k = n2) => by omega).trans (h19.mono fun k (h : k = n3) => by omega))
      have H19 : Ch No w w19 := H8.then_ h8_19 (fun i hi h => by omega)
      have HI : IsV w19 x q m d := (hI.ch h8_19 (fun k hk h => by have := hk.1; have := h07.size; have := h7'.size; have := D.blk.lt; omega)).is
      refine ⟨_, _, _, _, rfl, ?_⟩
      dsimp only
      refine leaves_cons (f := 28) (args := #[.pointer (some ⟨n1, 0, none⟩), .pointer (some ⟨n2, 0, none⟩), .pointer (some ⟨n3, 0, none⟩)]) (by simp) (by simp [go_sem]) ?_
      refine (clos28_idle _ _ _ w19).mono ?_
      rintro e u' w20 ⟨rfl, rfl, rfl⟩
      show Leaves _ _ _ _ _ (settle _) _
      have F1 : Blk w20 n1 (cellsV x q m d) 24 := (d17.ch h18 (fun e : n1 = n2 => by omega)).ch h19 (fun e : n1 = n3 => by omega)
      have F2 : Blk w20 n2 [.int .i64 (s.size : Int)] 3 := d18.ch h19 (fun e : n2 = n3 => by omega)
      refine ⟨_, res10 n1 n2 n3 _ rfl rfl rfl w20 x q m d s.size 0 F1 F2 d19, H19, ?_⟩
      rw [hpm, if_pos (hnil.2 (by omega))]
      exact ⟨q, m, d, rfl, HI⟩
end Go.Proofs.YtjellmblammiaaaDoor
