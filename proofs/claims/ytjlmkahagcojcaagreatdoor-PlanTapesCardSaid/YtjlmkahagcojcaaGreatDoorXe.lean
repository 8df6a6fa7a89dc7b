/- Plain law: the machine with a stack of open lists reads what the reader reads. -/
import Derived.Test.YtjlmkahagcojcaaGreatDoorXd
namespace Go.Proofs.YtjlmkahagcojcaaGreatDoor.V
open Go Tr
open Go.Lib (decodeL)
set_option maxRecDepth 100000
def setN (P : List PartM) (j : Nat) (n : Int) : List PartM := P.modify j fun p => { p with n := n }
def nAt (P : List PartM) (j : Nat) : Int := match P[j]? with
  | some p => p.n
  | none => 0
def topO (O : List Nat) : Nat := O.getLastD 0
def openP : PartM := ⟨3, 0, bytesL [], 0⟩
def beginM (l : List UInt8) (P : List PartM) (O : List Nat) : Except Flt (List UInt8 × List PartM × List Nat) :=
  if begs (pk l) = false then .error (28, l.length)
  else if P.length = 12 then .error (22, l.length)
  else if pk l = 91 ∧ O.length = 3 then .error (23, l.length)
  else if pk l = 91 then .ok (l.tail, P ++ [openP], O ++ [P.length])
  else if pk l = 110 then match wantX [110, 111, 110, 101] l with
    | .error e => .error e
    | .ok r => .ok (r, P ++ [⟨0, 0, bytesL [], 0⟩], O)
  else if pk l = 34 then match rtextX l with
    | .error e => .error e
    | .ok (s, r) => .ok (r, P ++ [⟨2, 0, s, 0⟩], O)
  else match rintX l with
    | .error e => .error e
    | .ok (v, r) => .ok (r, P ++ [⟨1, v, bytesL [], 0⟩], O)
/-- Behind a whole part. -/
def behM : Nat → List UInt8 → List PartM → List Nat → Except Flt (Bool × List UInt8 × List PartM × List Nat)
  | 0, l, _, _ => .error (28, l.length)
  | k + 1, l, P, O => if O = [] then .ok (false, l, P, O)
    else if pk (blanksM l) = 44 then (if nAt P (topO O) = 6 then .error (22, (blanksM l).length) else .ok (true, blanksM (blanksM l).tail, setN P (topO O) (nAt P (topO O) + 1), O))
    else if pk (blanksM l) = 93 then behM k (blanksM l).tail P O.dropLast
    else .error (28, (blanksM l).length)
def contK (rec : List UInt8 → List PartM → List Nat → Except Flt (List UInt8 × List PartM)) (l : List UInt8) (P : List PartM) (O : List Nat) : Except Flt (List UInt8 × List PartM) :=
  match behM (O.length + 1) l P O with
  | .error f => .error f
  | .ok (more, l3, P3, O3) => if more = true then rec l3 P3 O3 else .ok (l3, P3)
def leadK : Nat → List UInt8 → List PartM → List Nat → Except Flt (List UInt8 × List PartM)
  | 0, l, _, _ => .error (28, l.length)
  | g + 1, l, P, O => match beginM l P O with
    | .error f => .error f
    | .ok (l1, P1, O1) => if O1.length > O.length then (if pk (blanksM l1) = 93 then contK (leadK g) (blanksM l1).tail P1 O1.dropLast else leadK g (blanksM l1) (setN P1 (topO O1) 1) O1) else contK (leadK g) l1 P1 O1
/-! lengths -/
theorem tail_lt {l : List UInt8} (h : pk l ≠ 0) : l.tail.length < l.length := by
  have := pk_ne h
  simp; omega
theorem wantX_len : ∀ (w l r : List UInt8), (∀ c ∈ w, c ≠ 0) → wantX w l = .ok r → r.length + w.length = l.length
  | [], l, r, _, h => by cases h; simp
  | c :: w, l, r, hz, h => by
    unfold wantX at h
    split at h
    · rename_i hc
      have h0 : pk l ≠ 0 := by
        rw [hc]
        intro e
        exact hz c (.head _) (UInt8.toNat_inj.1 (by rw [e]; rfl))
      have := wantX_len w _ _ (fun c hc => hz c (.tail _ hc)) h
      have := tail_lt h0
      simp at *
      omega
    · cases h
theorem readX_len {k : Nat} {acc l b r : List UInt8} (h : readX k acc l = .ok (b, r)) : r.length < l.length := by
  obtain ⟨p, hp, _, hq⟩ := read_scan _ _ _ _ _ h
  have : p ≠ [] := by
    rintro rfl
    have := hq [34]
    revert this; decide
  have := List.length_pos_iff.2 this
  rw [hp, List.length_append]
  omega
theorem rtextX_len {l : List UInt8} {s : ByteArray} {r : List UInt8} (h : rtextX l = .ok (s, r)) : r.length < l.length := by
  unfold rtextX at h
  cases hx : readX (l.tail.length + 1) [] l.tail with
  | error e => rw [hx] at h; cases h
  | ok y =>
    obtain ⟨b, r'⟩ := y
    rw [hx] at h
    dsimp only at h
    have := readX_len hx
    have ht : l.tail.length ≤ l.length := by simp
    split at h
    · cases h
    · cases h; omega
theorem rdigX_len {f : Nat} {neg : Bool} {l : List UInt8} {v : Int} {r : List UInt8} (h : rdigX f neg l = .ok (v, r)) : r.length < l.length := by
  unfold rdigX at h
  split at h
  · rename_i h48
    split at h
    · cases h
    · cases h; exact tail_lt (by omega)
  split at h
  · cases h
  rename_i hne
  split at h
  · cases h
  · cases h
    have h1 : (l.takeWhile isDig ++ l.dropWhile isDig).length = l.length := by rw [List.takeWhile_append_dropWhile]
    rw [List.length_append] at h1
    have := List.length_pos_iff.2 hne
    omega
theorem rintX_len {l : List UInt8} {v : Int} {r : List UInt8} (h : rintX l = .ok (v, r)) : r.length < l.length := by
  unfold rintX at h
  split at h
  · have := rdigX_len h
    have ht : l.tail.length ≤ l.length := by simp
    omega
  · exact rdigX_len h
theorem begs_pk {l : List UInt8} (h : ¬ begs (pk l) = false) : pk l ≠ 0 := fun e => h (by rw [e]; rfl)
theorem beg_len {l : List UInt8} {P : List PartM} {O : List Nat} {y : List UInt8 × List PartM × List Nat} (h : beginM l P O = .ok y) : y.1.length < l.length := by
  unfold beginM at h
  split at h
  · cases h
  rename_i hb
  have h0 := begs_pk hb
  split at h
  · cases h
  split at h
  · cases h
  split at h
  · cases h; exact tail_lt h0
  split at h
  · split at h
    · cases h
    · rename_i hw
      cases h
      have := wantX_len _ _ _ (by decide) hw
      simp only [List.length_cons, List.length_nil] at this
      dsimp only; omega
  split at h
  · split at h
    · cases h
    · rename_i hw; cases h; exact rtextX_len hw
  split at h
  · cases h
  · rename_i hw; cases h; exact rintX_len hw
theorem beh_len : ∀ (k : Nat) (l : List UInt8) (P : List PartM) (O : List Nat) (y : List UInt8 × List PartM × List Nat), behM k l P O = .ok (true, y) → y.1.length < l.length
  | 0, _, _, _, _, h => by cases h
  | k + 1, l, P, O, y, h => by
    unfold behM at h
    have hb := blanksM_len l
    split at h
    · cases h
    split at h
    · rename_i h44
      split at h
      · cases h
      · cases h
        have h1 := tail_lt (l := blanksM l) (by omega)
        have h2 := blanksM_len (blanksM l).tail
        dsimp only; omega
    split at h
    · rename_i h93
      have := beh_len k _ _ _ _ h
      have h1 := tail_lt (l := blanksM l) (by omega)
      omega
    · cases h
theorem contK_congr {r1 r2 : List UInt8 → List PartM → List Nat → Except Flt (List UInt8 × List PartM)} {l : List UInt8} {P : List PartM} {O : List Nat} (h : ∀ l3 P3 O3, l3.length < l.length → r1 l3 P3 O3 = r2 l3 P3 O3) : contK r1 l P O = contK r2 l P O := by
  unfold contK
  cases hb : behM (O.length + 1) l P O with
  | error f => rfl
  | ok y =>
    obtain ⟨more, l3, P3, O3⟩ := y
    cases more with
    | true => exact h _ _ _ (beh_len _ _ _ _ _ hb)
    | false => rfl
theorem leadK_up : ∀ (g : Nat) (l : List UInt8) (P : List PartM) (O : List Nat), l.length < g → leadK (g + 1) l P O = leadK g l P O
  | 0, _, _, _, h => by omega
  | g + 1, l, P, O, h => by
    rw [leadK, leadK]
    cases hb : beginM l P O with
    | error f => rfl
    | ok y =>
      obtain ⟨l1, P1, O1⟩ := y
      have h1 := beg_len hb
      have h2 := blanksM_len l1
      have h3 : (blanksM l1).tail.length ≤ (blanksM l1).length := by simp
      dsimp only at h1 ⊢
      by_cases ho : O1.length > O.length
      · rw [if_pos ho, if_pos ho]
        by_cases h93 : pk (blanksM l1) = 93
        · rw [if_pos h93, if_pos h93]
          exact contK_congr fun l3 P3 O3 h => leadK_up g _ _ _ (by omega)
        · rw [if_neg h93, if_neg h93]
          exact leadK_up g _ _ _ (by omega)
      · rw [if_neg ho, if_neg ho]
        exact contK_congr fun l3 P3 O3 h => leadK_up g _ _ _ (by omega)
theorem leadK_more (g j : Nat) (l : List UInt8) (P : List PartM) (O : List Nat) (h : l.length < g) : leadK (g + j) l P O = leadK g l P O := by
  induction j with
  | zero => rfl
  | succ j ih => rw [← ih, ← Nat.add_assoc]; exact leadK_up _ _ _ _ (by omega)
theorem leadK_eq {g g' : Nat} {l : List UInt8} {P : List PartM} {O : List Nat} (h : l.length < g) (h' : l.length < g') : leadK g l P O = leadK g' l P O := by
  obtain ⟨a, rfl⟩ : ∃ a, g = l.length + 1 + a := ⟨g - (l.length + 1), by omega⟩
  obtain ⟨b, rfl⟩ : ∃ b, g' = l.length + 1 + b := ⟨g' - (l.length + 1), by omega⟩
  rw [leadK_more (l.length + 1) a l P O (by omega), leadK_more (l.length + 1) b l P O (by omega)]
theorem cont_eq {g g' : Nat} {l : List UInt8} {P : List PartM} {O : List Nat} (h : l.length ≤ g) (h' : l.length ≤ g') : contK (leadK g) l P O = contK (leadK g') l P O :=
  contK_congr fun l3 P3 O3 h3 => leadK_eq (by omega) (by omega)
theorem ritemsX_len (f : List UInt8 → Int → Except Flt (VT × List UInt8 × Int)) (hf : ∀ l n y, f l n = .ok y → y.2.1.length < l.length) : ∀ (m : Nat) (acc : List VT) (l : List UInt8) (n : Int) (y : List VT × List UInt8 × Int), ritemsX f m acc l n = .ok y → y.2.1.length < l.length
  | 0, _, _, _, _, h => by cases h
  | m + 1, acc, l, n, y, h => by
    unfold ritemsX at h
    cases hx : f l n with
    | error e => rw [hx] at h; cases h
    | ok z =>
      obtain ⟨x, l1, n1⟩ := z
      rw [hx] at h
      dsimp only at h
      have h1 := hf _ _ _ hx
      have h2 := blanksM_len l1
      have h3 : (blanksM l1).tail.length ≤ (blanksM l1).length := by simp
      have h4 := blanksM_len (blanksM l1).tail
      dsimp only at h1
      split at h
      · cases h; dsimp only; omega
      split at h
      · split at h
        · cases h
        · have := ritemsX_len f hf m _ _ _ _ h
          omega
      · cases h
theorem rdX_len : ∀ (k : Nat) (depth : Int) (l : List UInt8) (n : Int) (y : VT × List UInt8 × Int), rdX k depth l n = .ok y → y.2.1.length < l.length
  | 0, _, _, _, _, h => by cases h
  | k + 1, depth, l, n, y, h => by
    rw [rdX_succ] at h
    split at h
    · cases h
    rename_i hb
    have h0 := begs_pk hb
    split at h
    · cases h
    split at h
    · split at h
      · cases h
      · rename_i hw
        cases h
        have := wantX_len _ _ _ (by decide) hw
        simp only [List.length_cons, List.length_nil] at this
        dsimp only; omega
    split at h
    · split at h
      · cases h
      · rename_i hw; cases h; exact rtextX_len hw
    split at h
    · unfold rlistX at h
      have h1 := tail_lt h0
      have h2 := blanksM_len l.tail
      have h3 : (blanksM l.tail).tail.length ≤ (blanksM l.tail).length := by simp
      split at h
      · cases h
      split at h
      · cases h; dsimp only; omega
      split at h
      · cases h
      · rename_i hw
        cases h
        have := ritemsX_len _ (fun l n y h => rdX_len k _ _ _ _ h) _ _ _ _ _ hw
        dsimp only at this ⊢; omega
    split at h
    · cases h
    · rename_i hw; cases h; exact rintX_len hw
theorem rdX_cnt {k : Nat} {depth : Int} {l : List UInt8} {n : Int} {x : VT} {l' : List UInt8} {n' : Int} (h : rdX k depth l n = .ok (x, l', n')) : n' = n + (flatP x).length := by
  obtain ⟨h1, _⟩ := rd_is k _ _ _ _ _ _ (rdX_ok h)
  have := flat_count _ x n depth (Nat.lt_succ_self _) (by rw [h1])
  rw [h1] at this
  exact this
theorem setN_mid (P Q : List PartM) (p : PartM) (n : Int) : setN (P ++ p :: Q) P.length n = P ++ { p with n := n } :: Q := by
  unfold setN
  induction P with
  | nil => rfl
  | cons a P ih => simp only [List.cons_append, List.length_cons, List.modify_succ_cons, ih]
theorem nAt_mid (P Q : List PartM) (p : PartM) : nAt (P ++ p :: Q) P.length = p.n := by
  unfold nAt
  rw [List.getElem?_append_right (Nat.le_refl _), Nat.sub_self]
  rfl
theorem topO_snoc (O : List Nat) (j : Nat) : topO (O ++ [j]) = j := by
  unfold topO
  rw [List.getLastD_eq_getLast?, List.getLast?_append]
  rfl
/-- THE MACHINE READS WHAT THE READER READS. -/
theorem K_rd (k : Nat) : ∀ (depth : Nat) (l : List UInt8) (P : List PartM) (O : List Nat) (g : Nat), O.length = depth → depth ≤ 3 → 4 ≤ depth + k → l.length < g → P.length ≤ 12 →
    leadK g l P O = match rdX k depth l P.length with
      | .error f => .error f
      | .ok (x, l', _) => contK (leadK g) l' (P ++ flatP x) O := by
  induction k with
  | zero => intro depth l P O g _ h3 h4; omega
  | succ k ih =>
    intro depth l P O g hO h3 h4 hg hP
    obtain ⟨g, rfl⟩ : ∃ m, g = m + 1 := ⟨g - 1, by omega⟩
    rw [leadK]
    have flat1 : ∀ (kd i : Int) (s : ByteArray), flatP (.mk kd i s []) = [⟨kd, i, s, 0⟩] := fun kd i s => by simp [flatP, flatL]
    -- a whole part
    have whole : ∀ (l1 : List UInt8) (x : VT), l1.length < l.length → contK (leadK g) l1 (P ++ flatP x) O = contK (leadK (g + 1)) l1 (P ++ flatP x) O := fun l1 x h => cont_eq (by omega) (by omega)
    by_cases c0 : begs (pk l) = false
    · rw [show beginM l P O = .error (28, l.length) by unfold beginM; rw [if_pos c0], show rdX (k + 1) depth l P.length = .error (28, l.length) by rw [rdX_succ, if_pos c0]]
    have h0 := begs_pk c0
    by_cases c1 : P.length = 12
    · rw [show beginM l P O = .error (22, l.length) by unfold beginM; rw [if_neg c0, if_pos c1], show rdX (k + 1) depth l P.length = .error (22, l.length) by rw [rdX_succ, if_neg c0, if_pos (by omega)]]
    by_cases k1 : pk l = 110
    · have hL : beginM l P O = match wantX [110, 111, 110, 101] l with
          | .error e => .error e
          | .ok r => .ok (r, P ++ [⟨0, 0, bytesL [], 0⟩], O) := by unfold beginM; rw [if_neg c0, if_neg c1, if_neg (by omega), if_neg (by omega), if_pos k1]
      have hR : rdX (k + 1) depth l P.length = match wantX [110, 111, 110, 101] l with
          | .error e => .error e
          | .ok r => .ok (noneV, r, (P.length : Int) + 1) := by
        rw [rdX_succ, if_neg c0, if_neg (by omega), if_pos k1]
        rfl
      rw [hL, hR]
      cases hw : wantX [110, 111, 110, 101] l with
      | error e => rfl
      | ok r =>
        dsimp only
        have hl := wantX_len _ _ _ (by decide) hw
        simp only [List.length_cons, List.length_nil] at hl
        rw [if_neg (by omega), ← whole r noneV (by omega), noneV_eq, flat1]
    by_cases k2 : pk l = 34
    · have hL : beginM l P O = match rtextX l with
          | .error e => .error e
          | .ok (s, r) => .ok (r, P ++ [⟨2, 0, s, 0⟩], O) := by unfold beginM; rw [if_neg c0, if_neg c1, if_neg (by omega), if_neg (by omega), if_neg k1, if_pos k2]
      have hR : rdX (k + 1) depth l P.length = match rtextX l with
          | .error e => .error e
          | .ok (s, r) => .ok (.mk 2 0 s [], r, (P.length : Int) + 1) := by
        rw [rdX_succ, if_neg c0, if_neg (by omega), if_neg k1, if_pos k2]
        rfl
      rw [hL, hR]
      cases hw : rtextX l with
      | error e => rfl
      | ok y =>
        obtain ⟨s, r⟩ := y
        dsimp only
        rw [if_neg (by omega), ← whole r (.mk 2 0 s []) (rtextX_len hw), flat1]
    by_cases k3 : pk l = 91
    · have hR : rdX (k + 1) depth l P.length = rlistX (rdX k ((depth : Int) + 1)) depth l ((P.length : Int) + 1) := by rw [rdX_succ, if_neg c0, if_neg (by omega), if_neg k1, if_neg k2, if_pos k3]
      rw [hR]
      by_cases hd : depth = 3
      · rw [show beginM l P O = .error (23, l.length) by unfold beginM; rw [if_neg c0, if_neg c1, if_pos ⟨k3, by omega⟩]]
        unfold rlistX
        rw [if_pos (by omega)]
      rw [show beginM l P O = .ok (l.tail, P ++ [openP], O ++ [P.length]) by unfold beginM; rw [if_neg c0, if_neg c1, if_neg (fun h => hd (by omega)), if_pos k3]]
      dsimp only
      have hlO : (O ++ [P.length]).length = depth + 1 := by simp [hO]
      have ht := tail_lt h0
      have hb := blanksM_len l.tail
      have hbt : (blanksM l.tail).tail.length ≤ (blanksM l.tail).length := by simp
      rw [if_pos (by omega)]
      by_cases h93 : pk (blanksM l.tail) = 93
      · rw [show rlistX (rdX k ((depth : Int) + 1)) depth l ((P.length : Int) + 1) = .ok (.mk 3 0 (bytesL []) [], (blanksM l.tail).tail, (P.length : Int) + 1) by unfold rlistX; rw [if_neg (by omega), if_pos h93], if_pos h93, List.dropLast_concat]
        dsimp only
        rw [flat1]
        exact cont_eq (by omega) (by omega)
      rw [show rlistX (rdX k ((depth : Int) + 1)) depth l ((P.length : Int) + 1) = (match ritemsX (rdX k ((depth : Int) + 1)) 6 [] (blanksM l.tail) ((P.length : Int) + 1) with
          | .error e => .error e
          | .ok (xs, l2, n2) => .ok (.mk 3 0 (bytesL []) xs, l2, n2)) by
        unfold rlistX
        rw [if_neg (by omega), if_neg h93]
        rfl, if_neg h93, topO_snoc, setN_mid]
      have key : ∀ (m : Nat) (acc : List VT) (l : List UInt8) (g : Nat), acc.length + m = 6 → 1 ≤ m → l.length < g → P.length + 1 + (flatL acc).length ≤ 12 →
          leadK g l (P ++ ⟨3, 0, bytesL [], acc.length + 1⟩ :: flatL acc) (O ++ [P.length]) = match ritemsX (rdX k (depth + 1 : Nat)) m acc l ((P.length + 1 + (flatL acc).length : Nat) : Int) with
            | .error f => .error f
            | .ok (xs, l2, _) => contK (leadK g) l2 (P ++ ⟨3, 0, bytesL [], xs.length⟩ :: flatL xs) O := by
        intro m
        induction m with
        | zero => intro acc l g _ h; omega
        | succ m ihm =>
          intro acc l g ham _ hlg hcnt
          have hlen : (P ++ ⟨3, 0, bytesL [], acc.length + 1⟩ :: flatL acc).length = P.length + 1 + (flatL acc).length := by simp; omega
          rw [ih (depth + 1) l _ (O ++ [P.length]) g hlO (by omega) (by omega) hlg (by omega), hlen]
          have hR : ritemsX (rdX k (depth + 1 : Nat)) (m + 1) acc l ((P.length + 1 + (flatL acc).length : Nat) : Int) = match rdX k (depth + 1 : Nat) l ((P.length + 1 + (flatL acc).length : Nat) : Int) with
              | .error e => .error e
              | .ok (x, l1, n1) => if pk (blanksM l1) = 93 then .ok (acc ++ [x], (blanksM l1).tail, n1)
                else if pk (blanksM l1) = 44 then (if m = 0 then .error (22, (blanksM l1).length) else ritemsX (rdX k (depth + 1 : Nat)) m (acc ++ [x]) (blanksM (blanksM l1).tail) n1)
                else .error (28, (blanksM l1).length) := rfl
          rw [hR]
          cases hx : rdX k (depth + 1 : Nat) l ((P.length + 1 + (flatL acc).length : Nat) : Int) with
          | error f => rfl
          | ok y =>
            obtain ⟨x, l1, n1⟩ := y
            have hn1 := rdX_cnt hx
            have hl1 := rdX_len _ _ _ _ _ hx
            have hn12 := partV_bound x ((P.length + 1 + (flatL acc).length : Nat) : Int) (depth + 1 : Nat) (by omega) (by omega)
            rw [(rd_is k _ _ _ _ _ _ (rdX_ok hx)).1] at hn12
            have hn12 := hn12.2.2 rfl
            have hb1 := blanksM_len l1
            have hbt1 : (blanksM l1).tail.length ≤ (blanksM l1).length := by simp
            have hbb1 := blanksM_len (blanksM l1).tail
            dsimp only at hl1 hn12 ⊢
            have happ : P ++ ⟨3, 0, bytesL [], acc.length + 1⟩ :: flatL acc ++ flatP x = P ++ ⟨3, 0, bytesL [], acc.length + 1⟩ :: flatL (acc ++ [x]) := by
              rw [flatL_app]; simp [flatL]
            have hfl : (flatL (acc ++ [x])).length = (flatL acc).length + (flatP x).length := by rw [flatL_app, List.length_append]; simp [flatL]
            have hacl : (((acc ++ [x]).length : Nat) : Int) = (acc.length : Int) + 1 := by simp
            rw [happ]
            have hC : contK (leadK g) l1 (P ++ ⟨3, 0, bytesL [], acc.length + 1⟩ :: flatL (acc ++ [x])) (O ++ [P.length]) = if pk (blanksM l1) = 44 then (if m = 0 then .error (22, (blanksM l1).length) else leadK g (blanksM (blanksM l1).tail) (P ++ ⟨3, 0, bytesL [], acc.length + 1 + 1⟩ :: flatL (acc ++ [x])) (O ++ [P.length])) else if pk (blanksM l1) = 93 then contK (leadK g) (blanksM l1).tail (P ++ ⟨3, 0, bytesL [], acc.length + 1⟩ :: flatL (acc ++ [x])) O else .error (28, (blanksM l1).length) := by
              conv => lhs; unfold contK
              rw [hlO, behM, if_neg (by simp), topO_snoc, nAt_mid]
              by_cases h44 : pk (blanksM l1) = 44
              · rw [if_pos h44, if_pos h44]
                dsimp only
                by_cases hm0 : m = 0
                · rw [if_pos (by omega), if_pos hm0]
                · rw [if_neg (by omega), if_neg hm0]
                  dsimp only
                  rw [if_pos rfl, setN_mid]
              · rw [if_neg h44, if_neg h44]
                by_cases h93' : pk (blanksM l1) = 93
                · rw [if_pos h93', if_pos h93', List.dropLast_concat]
                  unfold contK
                  rw [hO]
                · rw [if_neg h93', if_neg h93']
            rw [hC]
            by_cases h44 : pk (blanksM l1) = 44
            · rw [if_pos h44, if_neg (show ¬ pk (blanksM l1) = 93 by omega), if_pos h44]
              by_cases hm0 : m = 0
              · rw [if_pos hm0, if_pos hm0]
              · rw [if_neg hm0, if_neg hm0]
                have := ihm (acc ++ [x]) (blanksM (blanksM l1).tail) g (by simp; omega) (by omega) (by omega) (by omega)
                rw [hacl] at this
                rw [this, hn1, hfl, show ((P.length + 1 + ((flatL acc).length + (flatP x).length) : Nat) : Int) = ((P.length + 1 + (flatL acc).length : Nat) : Int) + ((flatP x).length : Int) by omega]
            · rw [if_neg h44]
              by_cases h93' : pk (blanksM l1) = 93
              · rw [if_pos h93', if_pos h93']
                dsimp only
                rw [hacl]
              · rw [if_neg h93', if_neg h93', if_neg h44]
      have := key 6 [] (blanksM l.tail) g rfl (by omega) (by omega) (by simp [flatL]; omega)
      rw [show flatL [] = [] from rfl] at this
      have e0 : (([] : List VT).length : Int) + 1 = 1 := rfl
      rw [e0] at this
      have e1 : ({ openP with n := 1 } : PartM) = ⟨3, 0, bytesL [], 1⟩ := rfl
      rw [e1, this, show ((P.length + 1 + ([] : List PartM).length : Nat) : Int) = (P.length : Int) + 1 by simp, show ((depth + 1 : Nat) : Int) = (depth : Int) + 1 by omega]
      cases hx : ritemsX (rdX k ((depth : Int) + 1)) 6 [] (blanksM l.tail) ((P.length : Int) + 1) with
      | error f => rfl
      | ok y =>
        obtain ⟨xs, l2, n2⟩ := y
        have hl2 := ritemsX_len _ (fun l n y h => rdX_len k _ _ _ _ h) _ _ _ _ _ hx
        dsimp only at hl2 ⊢
        have : flatP (.mk 3 0 (bytesL []) xs) = ⟨3, 0, bytesL [], xs.length⟩ :: flatL xs := by simp only [flatP]
        rw [this]
        exact cont_eq (by omega) (by omega)
    have hL : beginM l P O = match rintX l with
        | .error e => .error e
        | .ok (v, r) => .ok (r, P ++ [⟨1, v, bytesL [], 0⟩], O) := by unfold beginM; rw [if_neg c0, if_neg c1, if_neg (fun h => k3 h.1), if_neg k3, if_neg k1, if_neg k2]
    have hR : rdX (k + 1) depth l P.length = match rintX l with
        | .error e => .error e
        | .ok (v, r) => .ok (.mk 1 v (bytesL []) [], r, (P.length : Int) + 1) := by
      rw [rdX_succ, if_neg c0, if_neg (by omega), if_neg k1, if_neg k2, if_neg k3]
      rfl
    rw [hL, hR]
    cases hw : rintX l with
    | error e => rfl
    | ok y =>
      obtain ⟨v, r⟩ := y
      dsimp only
      rw [if_neg (by omega), ← whole r (.mk 1 v (bytesL []) []) (rintX_len hw), flat1]
/-- What Lead's machine makes. -/
theorem lead_is (l : List UInt8) (g : Nat) (hg : l.length < g) : leadK g l [] [] = match rdX 4 0 l 0 with
    | .error f => .error f
    | .ok (x, l', _) => .ok (l', flatP x) := by
  have := K_rd 4 0 l [] [] g rfl (by omega) (by omega) hg (by simp)
  rw [this]
  have e0 : (([] : List PartM).length : Int) = 0 := rfl
  have e1 : ((0 : Nat) : Int) = 0 := rfl
  rw [e0, e1]
  cases rdX 4 0 l 0 with
  | error f => rfl
  | ok y => rfl
end Go.Proofs.YtjlmkahagcojcaaGreatDoor.V
