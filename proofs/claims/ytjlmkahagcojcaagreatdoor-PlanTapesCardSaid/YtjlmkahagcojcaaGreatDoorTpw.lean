/- A tape's lines; ParseTape. -/
import Derived.Test.YtjlmkahagcojcaaGreatDoorRdz
import Derived.Test.YtjlmkahagcojcaaGreatDoorTpm
import Derived.Test.YtjlmkahagcojcaaGreatDoorSup
namespace Go.Proofs.YtjlmkahagcojcaaGreatDoor.V
open Go Tr
set_option maxRecDepth 100000
/-! the tree of function 46 -/
abbrev fx46_1 (qs0 : ByteArray) : List (Tmp × Value) := [(0, .string qs0)]
abbrev m46_1 : List (Tmp × Comp) := [(5, .leaf (.int .i64)), (6, .leaf (.int .i64))]
abbrev mx46_1 : List (Tmp × Comp) := []
abbrev mr46_1 : List (Tmp × Comp) := [(4, .leaf (.int .i64))]
abbrev fx46_2 (qs0 : ByteArray) (x_5 : Int) (x_6 : Int) : List (Tmp × Value) := [(0, .string qs0), (5, .int .i64 x_5), (6, .int .i64 x_6)]
abbrev mx46_2 : List (Tmp × Comp) := [(15, .leaf .bool)]
def s46_2 : Script := .ix (.sym (.lit (.lit (.lit .nil))) (.lit (.lit (.lit .nil))))
theorem t46_2 (qs0 : ByteArray) (x_5 : Int) (x_6 : Int) (gg2 : Nat → Value) : pieceT Tryz.prog (at_ Tryz.f46 [1, 1, 0, 1, 0, 0, 1, 0, 0, 0, 0]) 36 (fx46_2 qs0 x_5 x_6) gg2 (mx46_2.map (·.1)) [] [] s46_2 = .bidx qs0 x_6 (fun c3 => .br (c3 == 34) (.fin .normal [(15, .bool (x_5.tmod 2 == 0))]) (.fin .normal [(15, .bool false)])) := by kernel_rfl
def s46_1 : Script := .sym (.ct 1 [0, 5, 6] mx46_2 (.sym .nil (.ix (.sym .nil .nil)))) .nil
theorem t46_1 (qs0 : ByteArray) (x_5 : Int) (x_6 : Int) (gg1 : Nat → Value) : pieceT Tryz.prog (at_ Tryz.f46 [1, 1, 0, 1, 0, 0]) 36 (fx46_1 qs0 ++ mvals m46_1 (x_5, x_6, ())) gg1 (m46_1.map (·.1)) (mx46_1.map (·.1)) (mr46_1.map (·.1)) s46_1 = .br (Decidable.decide (x_6 < (↑qs0.size : Int))) (.cut (at_ Tryz.f46 [1, 1, 0, 1, 0, 0, 1, 0, 0, 0, 0]) 36 (fx46_2 qs0 x_5 x_6) mx46_2 (fun u4 g4 => .br u4.1 (.fin .ret [(4, .int .i64 (IntKind.i64.wrap (x_6 + 1)))]) (.bidx qs0 x_6 (fun c5 => .br (c5 == 92) (.fin .normal [(5, .int .i64 (IntKind.i64.wrap (x_5 + 1))), (6, .int .i64 (IntKind.i64.wrap (x_6 + 1)))]) (.fin .normal [(5, .int .i64 0), (6, .int .i64 (IntKind.i64.wrap (x_6 + 1)))]))))) (.fin (.exit 0) []) := by kernel_rfl
def s46 : Script := .lp 0 [0] [5, 6] mx46_1 mr46_1 .nil .nil
theorem t46 (qs0 : ByteArray) (qx1 : Int) : fnT Tryz.prog Tryz.f46 #[.string qs0, .int .i64 qx1] s46 = .loop (at_ Tryz.f46 [1, 1, 0, 1, 0, 0]) 36 (fx46_1 qs0) [(5, .int .i64 0), (6, .int .i64 (IntKind.i64.wrap (qx1 + 1)))] mx46_1 mr46_1 0 (fun u6 g6 => .done (.returned (.int .i64 (↑qs0.size : Int)))) (fun u7 g7 => .done (.returned (.int .i64 u7.1))) := by kernel_rfl
section
variable {P : Program} {R : Ending → World → Prop} {Q : Exit → List (Tmp × Value) → World → Prop} {w : World}
/-- A value is laid into a new block. -/
theorem put_v {x : VT} {p : Option Addr} {m c : Nat} {k : Nat → T} (h : ∀ w1, Ch No w w1 → Blk w1 w.heap.size (cellsV x p m c) 52 → wpT P R Q (k w.heap.size) .pl w1) :
    wpT P R Q (.new (.cells #[.int .i64 0, .int .i64 0, .string (bytesL []), .slice none 0 0] 52 (0, 0)) (fun n => .store ⟨n, 0, none⟩ (.int .i64 x.kind) (.store ⟨n, 1, none⟩ (.int .i64 x.int) (.store ⟨n, 2, none⟩ (.string x.text) (.store ⟨n, 3, none⟩ (.slice p m c) (k n)))))) .pl w := by
  refine nw fun w1 h1 z1 b1 => st_blk b1 (by simp) rfl fun w2 h2 z2 b2 => st_blk b2 (by simp) rfl fun w3 h3 z3 b3 => st_blk b3 (by simp) rfl fun w4 h4 z4 b4 => st_blk b4 (by simp) rfl fun w5 h5 z5 b5 => ?_
  exact h w5 (h1.then_ (h2.trans (h3.trans (h4.trans h5))) (fun i hi (e : i = _) => by omega)) b5
/-- A value is loaded. -/
theorem ld_v {md : Md} [hmd : md.Runs] {b : Nat} {x : VT} {p : Option Addr} {m c : Nat} (B : Blk w b (cellsV x p m c) 52) {f : Int → Int → ByteArray → Option Addr × Nat × Nat → T} (h : wpT P R Q (f x.kind x.int x.text (p, m, c)) md w) :
    wpT P R Q (.load ⟨b, 0, none⟩ (.int .i64) (fun a => .load ⟨b, 1, none⟩ (.int .i64) (fun i => .load ⟨b, 2, none⟩ .str (fun s => .load ⟨b, 3, none⟩ .sl (fun l => f a i s l))))) md w :=
  ld_int (B.cell 0) (ld_int (B.cell 1) (ld_str (B.cell 2) (ld_sl (B.cell 3) h)))
end
theorem qend_le : ∀ (o : Bool) (l : List UInt8), qend o l ≤ l.length
  | _, [] => Nat.le_refl _
  | o, c :: t => by
    unfold qend
    split
    · simp
    · have := qend_le (if c = 92 then !o else false) t
      simp only [List.length_cons]; omega
theorem quoted_any (s : ByteArray) (i : Nat) (w : World) (hs : s.size ≤ 4611686018427387904) (hi : i < s.size) :
    Calls Tryz.prog 46 #[.string s, .int .i64 (i : Int)] w fun e w' => e = .returned (.int .i64 ((i + 1 + qend false (rest s (i + 1)) : Nat) : Int)) ∧ w' = w := by
  refine calls_of_fnT mixed Tryz.func46 (s := s46) ?_
  rw [t46]
  refine loop_i mixed m46_1 s46_1 (by kernel_rfl) (by kernel_rfl)
    (fun (v : Int × Int × Unit) w' => w' = w ∧ ∃ (sl j : Nat), v.1 = sl ∧ v.2.1 = j ∧ sl ≤ j ∧ j ≤ s.size ∧ i + 1 + qend false (rest s (i + 1)) = j + qend (decide (sl % 2 = 1)) (rest s j))
    (fun (v : Int × Int × Unit) _ => s.size - v.2.1.toNat) (0, IntKind.i64.wrap ((i : Int) + 1), ()) rfl ⟨rfl, 0, i + 1, rfl, ?_, by omega, by omega, rfl⟩ ?_
  · rw [wrap_succ (by omega) (by omega)]; rfl
  rintro ⟨a, b, ⟨⟩⟩ g w' ⟨rfl, sl, j, ha, hb, hsl, hj, hq⟩
  dsimp only at ha hb
  subst ha hb
  rw [t46_1]
  refine br_both (fun e => ?_) fun e => ?_
  · have hjl : j < s.size := by have := lt_t e; omega
    have hr := pk_rest hjl
    rw [hr, qend] at hq
    have hwj : IntKind.i64.wrap ((j : Int) + 1) = ((j + 1 : Nat) : Int) := wrap_succ (by omega) (by omega)
    have hws : IntKind.i64.wrap ((sl : Int) + 1) = ((sl + 1 : Nat) : Int) := wrap_succ (by omega) (by omega)
    have hc34 : (s[j]'hjl) = 34 ↔ (s[j]'hjl).toNat = 34 := u8_is (n := 34) (by decide)
    have hc92 : (s[j]'hjl) = 92 ↔ (s[j]'hjl).toNat = 92 := u8_is (n := 92) (by decide)
    refine cut_i mixed s46_2 (fun (v : Bool × Unit) w'' => w'' = w' ∧ v.1 = decide ((s[j]'hjl) = 34 ∧ sl % 2 = 0)) (by kernel_rfl) (fun g => ?_) ?_
    · rw [t46_2]
      refine bi_i (by omega) (by simpa using hjl) ?_
      refine br_both (fun e => ⟨rfl, (_, ()), rfl, rfl, ?_⟩) fun e => ⟨rfl, (false, ()), rfl, rfl, ?_⟩
      · have e : (((s[j]'hjl).toNat : Nat) : Int) = 34 := eq_t e
        show ((((sl % 2 : Nat)) : Int) == 0) = _
        have h34 := hc34.2 (by omega)
        by_cases h : sl % 2 = 0
        · rw [decide_eq_true ⟨h34, h⟩, h]; rfl
        · rw [decide_eq_false (fun hh => h hh.2), beq_eq_false_iff_ne]; omega
      · have e : ¬ (((s[j]'hjl).toNat : Nat) : Int) = 34 := eq_f e
        rw [decide_eq_false (fun hh => e (by rw [hc34.1 hh.1]; rfl))]
    rintro ⟨u, ⟨⟩⟩ g w'' ⟨rfl, hu⟩
    dsimp only at hu
    subst hu
    refine br_both (fun e => ?_) fun e => ?_
    · have e := of_decide_eq_true e
      rw [hwj]
      refine ⟨(((j + 1 : Nat) : Int), ()), rfl, fun g => ⟨?_, rfl⟩⟩
      rw [if_pos ⟨e.1, decide_eq_false (by omega)⟩] at hq
      rw [hq]
    · have e := of_decide_eq_false e
      rw [if_neg (fun h => e ⟨h.1, by have := of_decide_eq_false h.2; omega⟩)] at hq
      refine bi_i (by omega) (by simpa using hjl) ?_
      refine br_both (fun e1 => ?_) fun e1 => ?_
      · have e1 : (((s[j]'hjl).toNat : Nat) : Int) = 92 := eq_t e1
        rw [if_pos (hc92.2 (by omega))] at hq
        rw [hwj, hws]
        refine ⟨(((sl + 1 : Nat) : Int), ((j + 1 : Nat) : Int), ()), rfl, ⟨rfl, sl + 1, j + 1, rfl, rfl, by omega, by omega, ?_⟩, ?_⟩
        · have : (!decide (sl % 2 = 1)) = decide ((sl + 1) % 2 = 1) := by
            by_cases h : sl % 2 = 1
            · rw [decide_eq_true h, decide_eq_false (by omega)]; rfl
            · rw [decide_eq_false h, decide_eq_true (by omega)]; rfl
          rw [this] at hq
          omega
        · dsimp only
          omega
      · have e1 : ¬ (((s[j]'hjl).toNat : Nat) : Int) = 92 := eq_f e1
        rw [if_neg (fun h => e1 (by rw [hc92.1 h]; rfl))] at hq
        rw [hwj]
        refine ⟨(0, ((j + 1 : Nat) : Int), ()), rfl, ⟨rfl, 0, j + 1, rfl, rfl, by omega, by omega, ?_⟩, ?_⟩
        · have : decide (0 % 2 = 1) = false := rfl
          rw [this]
          omega
        · dsimp only
          omega
  · have hjl : j = s.size := by have := lt_f e; omega
    refine ⟨rfl, (), rfl, fun g => ⟨?_, rfl⟩⟩
    have : rest s j = [] := List.drop_of_length_le (by have := sizeB s; omega)
    rw [this, qend, Nat.add_zero] at hq
    rw [hq, hjl]
    rfl
/-! Faults of a value have a number. -/
def Ne0 {α : Type} : Except Flt α → Prop
  | .ok _ => True
  | .error f => f.1 ≠ 0
theorem escX_ne (l : List UInt8) : Ne0 (escX l) := by
  unfold escX
  repeat' split
  all_goals first | trivial | (show (28 : Int) ≠ 0; decide)
theorem readX_ne : ∀ (k : Nat) (acc l : List UInt8), Ne0 (readX k acc l)
  | 0, _, _ => by show (28 : Int) ≠ 0; decide
  | k + 1, acc, l => by
    unfold readX
    have he := escX_ne l.tail
    split
    · trivial
    split
    · split
      · rename_i h; rw [h] at he; exact he
      · exact readX_ne k _ _
    split
    · exact readX_ne k _ _
    split
    · show (28 : Int) ≠ 0; decide
    · exact readX_ne k _ _
theorem rtextX_ne (l : List UInt8) : Ne0 (rtextX l) := by
  unfold rtextX
  have h := readX_ne (l.tail.length + 1) [] l.tail
  split
  · rename_i e he; rw [he] at h; exact h
  · split
    · show (21 : Int) ≠ 0; decide
    · trivial
theorem rdigX_ne (f : Nat) (neg : Bool) (l : List UInt8) : Ne0 (rdigX f neg l) := by
  unfold rdigX
  repeat' split
  all_goals first | trivial | (show (28 : Int) ≠ 0; decide) | (show (29 : Int) ≠ 0; decide)
theorem rintX_ne (l : List UInt8) : Ne0 (rintX l) := by
  unfold rintX
  split <;> exact rdigX_ne _ _ _
theorem wantX_ne : ∀ (w l : List UInt8), Ne0 (wantX w l)
  | [], _ => trivial
  | c :: w, l => by
    unfold wantX
    split
    · exact wantX_ne w _
    · show (28 : Int) ≠ 0; decide
theorem ritemsX_ne (f : List UInt8 → Int → Except Flt (VT × List UInt8 × Int)) (hf : ∀ l n, Ne0 (f l n)) : ∀ (m : Nat) (acc : List VT) (l : List UInt8) (n : Int), Ne0 (ritemsX f m acc l n)
  | 0, _, _, _ => by show (22 : Int) ≠ 0; decide
  | m + 1, acc, l, n => by
    unfold ritemsX
    have h := hf l n
    split
    · rename_i e he; rw [he] at h; exact h
    · split
      · trivial
      · split
        · split
          · show (22 : Int) ≠ 0; decide
          · exact ritemsX_ne f hf m _ _ _
        · show (28 : Int) ≠ 0; decide
theorem rlistX_ne (f : List UInt8 → Int → Except Flt (VT × List UInt8 × Int)) (hf : ∀ l n, Ne0 (f l n)) (d : Int) (l : List UInt8) (n : Int) : Ne0 (rlistX f d l n) := by
  unfold rlistX
  have h := ritemsX_ne f hf 6 [] (blanksM l.tail) n
  split
  · show (23 : Int) ≠ 0; decide
  split
  · trivial
  split
  · rename_i e he; rw [he] at h; exact h
  · trivial
theorem rdX_ne : ∀ (k : Nat) (d : Int) (l : List UInt8) (n : Int), Ne0 (rdX k d l n)
  | 0, _, _, _ => by show (28 : Int) ≠ 0; decide
  | k + 1, d, l, n => by
    rw [rdX_succ]
    have h1 := wantX_ne [110, 111, 110, 101] l
    have h2 := rtextX_ne l
    have h3 := rintX_ne l
    split
    · show (28 : Int) ≠ 0; decide
    split
    · show (22 : Int) ≠ 0; decide
    split
    · split
      · rename_i e he; rw [he] at h1; exact h1
      · trivial
    split
    · split
      · rename_i e he; rw [he] at h2; exact h2
      · trivial
    split
    · exact rlistX_ne _ (fun l n => rdX_ne k _ l n) _ _ _
    split
    · rename_i e he; rw [he] at h3; exact h3
    · trivial
theorem parseX_ne (l : List UInt8) : Ne0 (parseX l) := by
  unfold parseX
  have h := rdX_ne 4 0 (blanksM l) 0
  split
  · rename_i e he; rw [he] at h; exact h
  · split
    · trivial
    · show (28 : Int) ≠ 0; decide
theorem parseX_er {l : List UInt8} {f : Flt} (h : parseX l = .error f) : f.1 ≠ 0 := by
  have := parseX_ne l
  rw [h] at this
  exact this
/-! ### Rows of records -/
abbrev RElt := ByteArray × Elt
def RElt.cells (y : RElt) : List Value := .string y.1 :: (cellsV y.2.1 y.2.2.1 y.2.2.2.1 y.2.2.2.2 ++ [.slice none 0 0])
def RElt.rc (y : RElt) : RecM := ⟨y.1, y.2.1, []⟩
theorem infoRec : (Tryz.prog.info? 54).map (fun i => (i.zero, i.size, i.bytes)) = some (some (.agg #[.string (bytesL []), .int .i64 0, .int .i64 0, .string (bytesL []), .slice none 0 0, .slice none 0 0]), 6, 96) := by kernel_rfl
/-- A list of records of one's own: their values' memory lies elsewhere. -/
structure RowT (w : World) (base : Nat) (p : Option Addr) (n c : Nat) (acc : List RElt) : Prop where
  row : Row w base 54 6 p n c (acc.flatMap RElt.cells)
  len : acc.length = n
  elts : ∀ y ∈ acc, IsVB (fun k => base ≤ k ∧ k < w.heap.size ∧ ¬ rowS p n c k) w y.2.1 y.2.2.1 y.2.2.2.1 y.2.2.2.2
theorem RowT.nil (w : World) (base : Nat) : RowT w base none 0 0 [] := ⟨Row.nil _ _ _ _, rfl, fun _ h => by cases h⟩
theorem RowT.ch {w w' : World} {base : Nat} {p : Option Addr} {n c : Nat} {acc : List RElt} {S : Nat → Prop} (h : RowT w base p n c acc) (hc : Ch S w w') (hS : ∀ k, base ≤ k → k < w.heap.size → ¬ S k) : RowT w' base p n c acc :=
  ⟨h.row.ch hc (fun k hk => hS k (h.row.lt hk).1 (h.row.lt hk).2), h.len, fun y hy => ((h.elts y hy).ch hc (fun k hk => hS k hk.1 hk.2.1)).mono fun k hk => ⟨hk.1, Nat.lt_of_lt_of_le hk.2.1 hc.size, hk.2.2⟩⟩
/-- One more. -/
theorem RowT.push {w w1 w2 : World} {base : Nat} {q q' : Option Addr} {m d d' : Nat} {acc : List RElt} {y : RElt} (h : RowT w base q m d acc) (h1 : Ch No w w1) (hb : base ≤ w.heap.size) (hy : IsVB (fun b => w.heap.size ≤ b ∧ b < w1.heap.size) w1 y.2.1 y.2.2.1 y.2.2.2.1 y.2.2.2.2)
    (g : Grew base 54 6 w1 q m d w2 q' (m + 1) d' (acc.flatMap RElt.cells ++ y.cells)) : RowT w2 base q' (m + 1) d' (acc ++ [y]) := by
  have s1 := h1.size
  have s2 := g.ch.size
  have lo : ∀ k, rowS q m d k → base ≤ k ∧ k < w.heap.size := fun k hk => h.row.lt hk
  refine ⟨?_, by simp [h.len], fun z hz => ?_⟩
  · rw [List.flatMap_append]
    simpa using g.own
  · rcases List.mem_append.1 hz with hz | hz
    · have e1 := (h.elts z hz).ch h1 (fun k _ h => h)
      have e2 := e1.ch g.ch (fun k hk => hk.2.2)
      refine e2.mono fun k hk => ⟨hk.1, by have := hk.2.1; omega, fun hr => ?_⟩
      rcases g.lies k hr with h' | h'
      · exact hk.2.2 h'
      · have := hk.2.1; omega
    · obtain rfl : z = y := by simpa using hz
      have e2 := hy.ch g.ch (fun k hk h' => by have := (lo _ h').2; have := hk.1; omega)
      refine e2.mono fun k hk => ⟨by have := hk.1; omega, by have := hk.2; omega, fun hr => ?_⟩
      rcases g.lies k hr with h' | h'
      · have := (lo _ h').2; have := hk.1; omega
      · have := hk.2; omega
theorem skip_rest (s : ByteArray) : rest s (s.size - (skipS s.data.toList).length) = skipS s.data.toList := by
  have h : skipS s.data.toList <:+ s.data.toList := List.dropWhile_suffix _
  have := List.suffix_iff_eq_drop.1 h
  rw [sizeB] at this
  exact this.symm
theorem skip_len (s : ByteArray) : (skipS s.data.toList).length ≤ s.size := by
  have h : skipS s.data.toList <:+ s.data.toList := List.dropWhile_suffix _
  have := h.length_le
  rwa [sizeB] at this
theorem not_passed {l : List UInt8} (h : passed l = false) : ∃ c t, skipS l = c :: t := by
  unfold passed at h
  cases hs : skipS l with
  | nil => rw [hs] at h; cases h
  | cons c t => exact ⟨c, t, rfl⟩
end Go.Proofs.YtjlmkahagcojcaaGreatDoor.V
