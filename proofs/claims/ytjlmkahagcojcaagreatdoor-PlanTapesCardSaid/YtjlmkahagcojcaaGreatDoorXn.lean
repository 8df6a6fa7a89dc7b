/- The document's answer: ParseTape. -/
import Derived.Test.YtjlmkahagcojcaaGreatDoorXm
namespace Go.Proofs.YtjlmkahagcojcaaGreatDoor.V
open Go Tr
set_option maxRecDepth 100000
/-! the tree of function 15 -/
abbrev fx15_2 (l1 : Option Addr × Nat × Nat) : List (Tmp × Value) := [(6, .slice l1.1 l1.2.1 l1.2.2)]
abbrev m15_2 : List (Tmp × Comp) := [(7, .leaf .sl), (8, .leaf (.int .i64))]
abbrev mx15_2 : List (Tmp × Comp) := [(7, .leaf .sl)]
abbrev mr15_2 : List (Tmp × Comp) := [(2, .leaf .sl), (3, .leaf (.int .i64)), (4, .leaf (.int .i64)), (5, .leaf (.int .i64))]
def s15_2 : Script := .sym (.ix (.ld .str (.ld .sl (.cl (.one (.leaf .bool)) (.sym .nil (.ix (.ld .str (.ld .sl (.cl (.one (.leaf (.int .i64))) (.sym .nil (.ix (.ld .str (.cl (.tup [.agg [.str, .int .i64, .int .i64, .str, .sl, .sl], .leaf (.int .i64), .leaf (.int .i64)]) (.sym .nil (.ld .str (.ld (.int .i64) (.ld (.int .i64) (.ld .str (.ld .sl (.ld .sl (.nop (.rn (.one (.leaf .sl)) .nil)))))))))))))))))))))) .nil
theorem t15_2 (l1 : Option Addr × Nat × Nat) (l_7 : Option Addr × Nat × Nat) (x_8 : Int) (gg2 : Nat → Value) : pieceT Tryz.prog (at_ Tryz.f15 [1, 1, 1, 1, 0, 1, 0, 0]) 62 (fx15_2 l1 ++ mvals m15_2 (l_7, x_8, ())) gg2 (m15_2.map (·.1)) (mx15_2.map (·.1)) (mr15_2.map (·.1)) s15_2 = .br (Decidable.decide (x_8 < (↑l1.snd.fst : Int))) (.idx l1.1 x_8 l1.2.1 2 (fun a3 => .load a3 .str (fun s4 => .load (a3.add 1) .sl (fun l5 => .call 24 #[.agg #[.string s4, .slice l5.1 l5.2.1 l5.2.2]] (.one (.leaf .bool)) (fun b6 => .br b6 (.fin .normal [(7, .slice l_7.1 l_7.2.1 l_7.2.2), (8, .int .i64 (IntKind.i64.wrap (x_8 + 1)))]) (.idx l1.1 x_8 l1.2.1 2 (fun a7 => .load a7 .str (fun s8 => .load (a7.add 1) .sl (fun l9 => .call 29 #[.agg #[.string s8, .slice l9.1 l9.2.1 l9.2.2], .int .i64 0] (.one (.leaf (.int .i64))) (fun x10 => .br ((↑l_7.snd.fst : Int) == 64) (.fin .ret [(2, .slice none 0 0), (3, .int .i64 (IntKind.i64.wrap (x_8 + 1))), (4, .int .i64 x10), (5, .int .i64 65)]) (.idx l1.1 x_8 l1.2.1 2 (fun a11 => .load a11 .str (fun s12 => .call 48 #[.string s12, .int .i64 x10] (.tup [.agg [.str, .int .i64, .int .i64, .str, .sl, .sl], .leaf (.int .i64), .leaf (.int .i64)]) (fun r13 => .new (.cells #[.string (bytesL []), .int .i64 0, .int .i64 0, .string (bytesL []), .slice none 0 0, .slice none 0 0] 54 (0, 0)) (fun n14 => .store ⟨n14, 0, none⟩ (.string r13.1.1) (.store ⟨n14, 1, none⟩ (.int .i64 r13.1.2.1) (.store ⟨n14, 2, none⟩ (.int .i64 r13.1.2.2.1) (.store ⟨n14, 3, none⟩ (.string r13.1.2.2.2.1) (.store ⟨n14, 4, none⟩ (.slice r13.1.2.2.2.2.1.1 r13.1.2.2.2.2.1.2.1 r13.1.2.2.2.2.1.2.2) (.store ⟨n14, 5, none⟩ (.slice r13.1.2.2.2.2.2.1.1 r13.1.2.2.2.2.2.1.2.1 r13.1.2.2.2.2.2.1.2.2) (.br (r13.snd.snd.fst != 0) (.fin .ret [(2, .slice none 0 0), (3, .int .i64 (IntKind.i64.wrap (x_8 + 1))), (4, .int .i64 r13.2.1), (5, .int .i64 r13.2.2.1)]) (.load ⟨n14, 0, none⟩ .str (fun s15 => .load ⟨n14, 1, none⟩ (.int .i64) (fun x16 => .load ⟨n14, 2, none⟩ (.int .i64) (fun x17 => .load ⟨n14, 3, none⟩ .str (fun s18 => .load ⟨n14, 4, none⟩ .sl (fun l19 => .load ⟨n14, 5, none⟩ .sl (fun l20 => .new (.cells #[.string s15, .int .i64 x16, .int .i64 x17, .string s18, .slice l19.1 l19.2.1 l19.2.2, .slice l20.1 l20.2.1 l20.2.2] 54 (0, 0)) (fun n21 => .run (builtin .append #[40, 40] 40 #[false, false] #[.slice l_7.1 l_7.2.1 l_7.2.2, .slice (some ⟨n21, 0, none⟩) 1 1]) (.one (.leaf .sl)) (fun l22 => .fin .normal [(7, .slice l22.1 l22.2.1 l22.2.2), (8, .int .i64 (IntKind.i64.wrap (x_8 + 1)))])))))))))))))))))))))))))))))) (.fin (.exit 0) [(7, .slice l_7.1 l_7.2.1 l_7.2.2)]) := by kernel_rfl
def s15 : Script := .sym .nil (.cl (.one (.leaf .sl)) (.lp 0 [6] [7, 8] mx15_2 mr15_2 .nil .nil))
theorem t15 (qs0 : ByteArray) : fnT Tryz.prog Tryz.f15 #[.string qs0] s15 = .br (Decidable.decide ((↑qs0.size : Int) > 4000)) (.done (.returned (.tuple #[.slice none 0 0, .int .i64 0, .int .i64 0, .int .i64 60]))) (.call 23 #[.string qs0] (.one (.leaf .sl)) (fun l1 => .loop (at_ Tryz.f15 [1, 1, 1, 1, 0, 1, 0, 0]) 62 (fx15_2 l1) [(7, .slice none 0 0), (8, .int .i64 0)] mx15_2 mr15_2 0 (fun u23 g23 => .done (.returned (.tuple #[.slice u23.1.1 u23.1.2.1 u23.1.2.2, .int .i64 0, .int .i64 0, .int .i64 0]))) (fun u24 g24 => .done (.returned (.tuple #[.slice u24.1.1 u24.1.2.1 u24.1.2.2, .int .i64 u24.2.1, .int .i64 u24.2.2.1, .int .i64 u24.2.2.2.1]))))) := by kernel_rfl
section
variable {R : Ending → World → Prop} {Q : Exit → List (Tmp × Value) → World → Prop} {w : World}
/-- A record is laid into a new block. -/
theorem put_r {k : ByteArray} {x : VT} {p : Option Addr} {m c : Nat} {q : Option Addr} {t d : Nat} {K : Nat → T} (h : ∀ w1, Ch No w w1 → Blk w1 w.heap.size [.string k, .int .i64 x.kind, .int .i64 x.int, .string x.text, .slice p m c, .slice q t d] tRec → wpT Tryz.prog R Q (K w.heap.size) .pl w1) :
    wpT Tryz.prog R Q (.new (.cells #[.string (bytesL []), .int .i64 0, .int .i64 0, .string (bytesL []), .slice none 0 0, .slice none 0 0] tRec (0, 0)) (fun n1 =>
      .store ⟨n1, 0, none⟩ (.string k) (.store ⟨n1, 1, none⟩ (.int .i64 x.kind) (.store ⟨n1, 2, none⟩ (.int .i64 x.int) (.store ⟨n1, 3, none⟩ (.string x.text) (.store ⟨n1, 4, none⟩ (.slice p m c) (.store ⟨n1, 5, none⟩ (.slice q t d) (K n1)))))))) .pl w := by
  refine nw fun w1 h1 z1 b1 => st_blk b1 (by simp) rfl fun w2 h2 z2 b2 => st_blk b2 (by simp) rfl fun w3 h3 z3 b3 => st_blk b3 (by simp) rfl fun w4 h4 z4 b4 => st_blk b4 (by simp) rfl fun w5 h5 z5 b5 => st_blk b5 (by simp) rfl fun w6 h6 z6 b6 => st_blk b6 (by simp) rfl fun w7 h7 z7 b7 => ?_
  exact h w7 (h1.then_ (h2.trans (h3.trans (h4.trans (h5.trans (h6.trans h7))))) (fun i hi (e : i = _) => by omega)) b7
/-- A record is loaded. -/
theorem ld_r {n2 : Nat} {k : ByteArray} {x : VT} {p : Option Addr} {m c : Nat} {q : Option Addr} {t d : Nat} {f : ByteArray → Int → Int → ByteArray → Option Addr × Nat × Nat → Option Addr × Nat × Nat → T} (b2 : Blk w n2 [.string k, .int .i64 x.kind, .int .i64 x.int, .string x.text, .slice p m c, .slice q t d] tRec)
    (h : wpT Tryz.prog R Q (f k x.kind x.int x.text (p, m, c) (q, t, d)) .pl w) :
    wpT Tryz.prog R Q (.load ⟨n2, 0, none⟩ .str (fun s4 => .load ⟨n2, 1, none⟩ (.int .i64) (fun x5 => .load ⟨n2, 2, none⟩ (.int .i64) (fun x6 => .load ⟨n2, 3, none⟩ .str (fun s7 => .load ⟨n2, 4, none⟩ .sl (fun l8 => .load ⟨n2, 5, none⟩ .sl (fun l9 => f s4 x5 x6 s7 l8 l9))))))) .pl w :=
  ld_str (b2.cell 0) (ld_int (b2.cell 1) (ld_int (b2.cell 2) (ld_str (b2.cell 3) (ld_sl (b2.cell 4) (ld_sl (b2.cell 5) h)))))
end
/-- What ParseTape answers. -/
def RTpR (e : Ending) (w' : World) : Except (Nat × Nat × Int) (List RecM) → Prop
  | .ok l => ∃ p n c, e = .returned (.tuple #[.slice p n c, .int .i64 0, .int .i64 0, .int .i64 0]) ∧ AtT w' p n l ∧ n ≤ 64
  | .error (l, pl, cd) => e = .returned (.tuple #[.slice none 0 0, .int .i64 (l : Int), .int .i64 (pl : Int), .int .i64 cd]) ∧ cd ≠ 0
set_option maxHeartbeats 1000000 in
theorem rptape_any (text : ByteArray) (w : World) :
    Calls Tryz.prog 15 #[.string text] w fun e w' => Ch No w w' ∧ RTpR e w' (parseTp text.data.toList) := by
  refine calls_of_fnT mixed Tryz.func15 (s := s15) ?_
  rw [t15]
  have hsz := sizeB text
  refine br_both (fun e => ?_) fun e => ?_
  · have e := gt_t e
    rw [show parseTp text.data.toList = .error (0, 0, 60) by unfold parseTp; rw [if_pos (by omega)]]
    exact ⟨Ch.refl _ _, rfl, by decide⟩
  have hle := gt_f e
  rw [show parseTp text.data.toList = linesT 1 (splitM text.data.toList) [] by unfold parseTp; rw [if_neg (by omega)]]
  refine cl_i (rlines_any text (by omega) w) ?_
  rintro e w1 ⟨h1, p, n, c, es, rfl, AL, hes, hn, hnc, hlen⟩
  refine ⟨(p, n, c), rfl, ?_⟩
  rw [← hes]
  generalize hRES : linesT 1 (es.map (·.s)) [] = RES
  refine loop_i mixed m15_2 s15_2 (by kernel_rfl) (by kernel_rfl)
    (fun (v : (Option Addr × Nat × Nat) × Int × Unit) w' => ∃ (j : Nat) (acc : List RElt), v.2.1 = j ∧ j ≤ n ∧ Ch No w1 w' ∧ RowT w' w1.heap.size v.1.1 v.1.2.1 v.1.2.2 acc ∧ v.1.2.1 ≤ 64 ∧ linesT (1 + j) ((es.map (·.s)).drop j) (acc.map RElt.rc) = RES)
    (fun (v : (Option Addr × Nat × Nat) × Int × Unit) _ => n - v.2.1.toNat) ((none, 0, 0), 0, ()) rfl ⟨0, [], rfl, by omega, Ch.refl _ _, RowT.nil _ _, Nat.zero_le _, hRES⟩ ?_
  intro v g w2 hv
  rw [t15_2]
  obtain ⟨⟨q, m, d⟩, a, ⟨⟩⟩ := v
  dsimp only at hv ⊢
  obtain ⟨j, acc, ha, hj, h2, hT, hm, hlm⟩ := hv
  subst ha
  have hal := hT.len
  refine br_both (fun e => ?_) fun e => ?_
  · have hj' : j < n := by have := lt_t e; omega
    clear e
    obtain ⟨x, hx⟩ : ∃ u, es[j]? = some u := ⟨_, List.getElem?_eq_getElem (by rw [AL.1]; exact hj')⟩
    obtain ⟨gl, ol, rfl, hcl⟩ := AL.2.1 (by omega)
    have hxl := hlen x (List.mem_of_getElem? hx)
    have hbs : (bytesL x.s).size = x.s.length := tb_size _
    have hA : ∀ {w'}, Ch No w1 w' → AtW w' x.p x.n (wordsR (bytesL x.s).size (bytesL x.s).data.toList) := fun hc => (AL.2.2 x (List.mem_of_getElem? hx)).no hc
    have hcell : ∀ {w'}, Ch No w1 w' → w'.cell? ⟨gl, ol + j * 2, none⟩ = some (.string (bytesL x.s)) ∧ w'.cell? ⟨gl, ol + j * 2 + 1, none⟩ = some (.slice x.p x.n x.c) := fun hc => ⟨hc.cellv (hcl j x hx).1 (fun h => h), hc.cellv (hcl j x hx).2 (fun h => h)⟩
    have hdr : (es.map (·.s)).drop j = x.s :: (es.map (·.s)).drop (j + 1) := by
      have hx' : (es.map (·.s))[j]? = some x.s := by rw [List.getElem?_map, hx]; rfl
      obtain ⟨hlt, he⟩ := List.getElem?_eq_some_iff.1 hx'
      rw [List.drop_eq_getElem_cons hlt, he]
    rw [hdr, linesT] at hlm
    have hwj : IntKind.i64.wrap ((j : Int) + 1) = ((j + 1 : Nat) : Int) := wrap_succ (by omega) (by omega)
    have hwj' : IntKind.i64.wrap ((j : Int) + 1) = ((1 + j : Nat) : Int) := by rw [hwj, Nat.add_comm]
    refine ix_i (by omega) (by omega) ?_
    simp only [addr_add, Int.toNat_natCast]
    refine ld_str (hcell h2).1 (ld_sl (hcell h2).2 ?_)
    refine cl_i (rpassed_any (bytesL x.s) x.p x.n x.c w2 (hA h2)) ?_
    rintro e' w3 ⟨rfl, h3⟩
    refine ⟨_, rfl, ?_⟩
    have H3 := h2.trans h3
    have T3 := hT.ch h3 (fun _ _ _ h => h)
    refine br_both (fun e => ?_) fun e => ?_
    · have e : passed x.s = true := e
      rw [if_pos e] at hlm
      rw [hwj]
      exact ⟨((q, m, d), ((j + 1 : Nat) : Int), ()), rfl, ⟨j + 1, acc, rfl, hj', H3, T3, hm, by rw [← Nat.add_assoc]; exact hlm⟩, by dsimp only; omega⟩
    have e : passed x.s = false := e
    rw [if_neg (by rw [e]; decide)] at hlm
    obtain ⟨c0, t0, hsk⟩ := not_passed e
    have hsr : rest (bytesL x.s) ((bytesL x.s).size - (skipS x.s).length) = skipS x.s := skip_rest (bytesL x.s)
    have hsl : (skipS x.s).length ≤ (bytesL x.s).size := skip_len (bytesL x.s)
    clear e
    refine ix_i (by omega) (by omega) ?_
    simp only [addr_add, Int.toNat_natCast]
    refine ld_str (hcell H3).1 (ld_sl (hcell H3).2 ?_)
    refine cl_i (rat_any (bytesL x.s) x.p x.n x.c 0 w3 (hA H3)) ?_
    rintro e' w4 ⟨rfl, h4⟩
    refine ⟨_, rfl, ?_⟩
    have H4 := H3.trans h4
    have T4 := T3.ch h4 (fun _ _ _ h => h)
    have haft : (skipS (aft 0 (bytesL x.s).data.toList)) = skipS x.s := rfl
    rw [haft]
    generalize hat : (bytesL x.s).size - (skipS x.s).length = at_ at *
    have hatl : at_ < (bytesL x.s).size := by rw [hsk] at hsl hat; simp at hsl hat; omega
    rw [tapeLine_rec, List.length_map, hal, show x.s.length - (skipS x.s).length = at_ by omega] at hlm
    refine br_both (fun e => ?_) fun e => ?_
    · have e : m = 64 := by have := eq_t e; omega
      rw [if_pos e] at hlm
      rw [hwj']
      refine ⟨((none, 0, 0), _, _, 65, ()), rfl, fun g => ⟨h1.trans H4, ?_⟩⟩
      rw [← hlm]
      exact ⟨rfl, by decide⟩
    have hm64 : m ≠ 64 := by have := eq_f e; omega
    rw [if_neg hm64] at hlm
    clear e
    refine ix_i (by omega) (by omega) ?_
    simp only [addr_add, Int.toNat_natCast]
    refine ld_str (hcell H4).1 ?_
    refine cl_i (rrec_any (bytesL x.s) at_ w4 (by omega) hatl) ?_
    rintro e' w5 ⟨h5, hR⟩
    rw [hsr] at hR
    cases hr : recM (skipS x.s) at_ with
    | error ac =>
      obtain ⟨pl, cd⟩ := ac
      rw [hr] at hR hlm
      obtain ⟨rfl, hcd⟩ := hR
      refine ⟨((bytesL [], 0, 0, bytesL [], (none, 0, 0), (none, 0, 0), ()), (pl : Int), cd, ()), rfl, ?_⟩
      dsimp only
      refine put_r (k := bytesL []) (x := .mk 0 0 (bytesL []) []) (p := none) (m := 0) (c := 0) (q := none) (t := 0) (d := 0) fun w6 h6 b6 => ?_
      refine br_both (fun _ => ?_) fun e => absurd (ne_f e) hcd
      rw [hwj']
      refine ⟨((none, 0, 0), _, _, cd, ()), rfl, fun g => ⟨h1.trans (H4.trans (h5.trans h6)), ?_⟩⟩
      rw [← hlm]
      exact ⟨rfl, hcd⟩
    | ok r =>
      rw [hr] at hR hlm
      obtain ⟨pv, mv, cv, rfl, Vv, hlo⟩ := hR
      refine ⟨((r.key, r.val.kind, r.val.int, r.val.text, (pv, mv, cv), (none, 0, 0), ()), 0, 0, ()), rfl, ?_⟩
      dsimp only
      refine put_r (k := r.key) (x := r.val) (p := pv) (m := mv) (c := cv) (q := none) (t := 0) (d := 0) fun w6 h6 b6 => ?_
      refine br_both (fun e => absurd e (by decide)) fun _ => ld_r b6 ?_
      dsimp only
      refine nw fun w7 h7 z7 (b7 : Blk w7 _ (RElt.cells (r.key, r.val, pv, mv, cv)) tRec) => ?_
      have H57 : Ch No w4 w7 := h5.trans (h6.trans h7)
      have T7 := T4.ch H57 (fun _ _ _ h => h)
      have s1 := H4.size
      refine ap_blk (by kernel_rfl) infoRec rfl (by omega) T7.row (by have := H57.size; omega) b7 rfl (fun u hu => ?_) (Nat.le_trans (by omega : m + 1 ≤ 65) (by decide)) (by omega) fun q8 d8 w8 g8 => ?_
      · simp only [RElt.cells, cellsV, List.mem_cons, List.cons_append, List.nil_append, List.mem_nil_iff, or_false] at hu
        rcases hu with rfl | rfl | rfl | rfl | rfl | rfl <;> rfl
      have T8 : RowT w8 w1.heap.size q8 (m + 1) d8 (acc ++ [(r.key, r.val, pv, mv, cv)]) := T4.push H57 s1 (((Vv.ch h6 (fun k _ h => h)).ch h7 (fun k _ h => h)).mono fun k hk => ⟨hk.1, by have := hk.2; have := h6.size; have := h7.size; omega⟩) g8
      rw [hwj]
      refine ⟨((q8, m + 1, d8), ((j + 1 : Nat) : Int), ()), rfl, ⟨j + 1, _, rfl, hj', (H4.trans H57).then_ g8.ch fun k hk hk' => ?_, T8, by dsimp only; omega, ?_⟩, by dsimp only; omega⟩
      · have := (T7.row.lt hk').1
        omega
      · rw [← Nat.add_assoc, List.map_append]
        have hre : RElt.rc (r.key, r.val, pv, mv, cv) = r := by cases r; simp only [RElt.rc] at *; rw [hlo]
        rw [List.map_singleton, hre]
        exact hlm
  · have hj' : j = n := by have := lt_f e; omega
    rw [List.drop_of_length_le (by rw [List.length_map, AL.1]; omega)] at hlm
    refine ⟨rfl, ((q, m, d), ()), rfl, fun g => ⟨h1.trans h2, ?_⟩⟩
    rw [← hlm]
    exact ⟨q, m, d, rfl, RowT.at hT, hm⟩
end Go.Proofs.YtjlmkahagcojcaaGreatDoor.V
