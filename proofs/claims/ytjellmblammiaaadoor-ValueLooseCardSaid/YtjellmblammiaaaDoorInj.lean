/- Plain law: an encoding tells its value, whatever follows. -/
import Derived.Test.YtjellmblammiaaaDoorPln
namespace Go.Proofs.YtjellmblammiaaaDoor
open Go
set_option maxRecDepth 100000
theorem bytes_ext {s t : ByteArray} (h : s.toList = t.toList) : s = t := by
  rw [ByteArray.toList_eq, ByteArray.toList_eq] at h
  cases s; cases t
  simpa using h
theorem same_eq (k : Nat) : ∀ (x y : VT), SizeOf.sizeOf x < k → sameV x y = true → x = y := by
  induction k with
  | zero => intro x y h; omega
  | succ k ih =>
    intro x y hk h
    have key : ∀ (a b : List VT), (∀ z ∈ a, SizeOf.sizeOf z < k) → a.length = b.length → sameL a b = true → a = b := by
      intro a
      induction a with
      | nil => intro b _ hl _; exact (List.eq_nil_of_length_eq_zero hl.symm).symm
      | cons u r iha =>
        intro b hz hl hs
        cases b with
        | nil => cases hl
        | cons v t =>
          simp only [sameL, Bool.and_eq_true] at hs
          rw [ih u v (hz u (.head _)) hs.1, iha t (fun z hz' => hz z (.tail _ hz')) (by simpa using hl) hs.2]
    have hi := fun z hz => items_lt (x := x) (z := z) hz
    rw [sameV_def] at h
    simp only [Bool.and_eq_true, beq_iff_eq] at h
    obtain ⟨⟨⟨h1, h2⟩, h3⟩, h4, h5⟩ := h
    have hl := key x.items y.items (fun z hz => by have := hi z hz; omega) h4 h5
    have ht := bytes_ext h3
    cases x; cases y
    simp only [VT.kind, VT.int, VT.text, VT.items] at *
    rw [h1, h2, ht, hl]
theorem groups_inj : ∀ (k u v : Nat) (r r' : List UInt8), u < k → groupsB u ++ r = groupsB v ++ r' → u = v ∧ r = r' := by
  intro k
  induction k with
  | zero => intro u v r r' h; omega
  | succ k ih =>
    intro u v r r' hk h
    by_cases hu : u ≥ 128
    · rw [groupsB_ge hu] at h
      by_cases hv : v ≥ 128
      · rw [groupsB_ge hv] at h
        simp only [List.cons_append, List.cons.injEq] at h
        have h1 := congrArg UInt8.toNat h.1
        simp only [UInt8.toNat_ofNat'] at h1
        obtain ⟨e, er⟩ := ih (u / 128) (v / 128) r r' (by omega) h.2
        exact ⟨by omega, er⟩
      · rw [groupsB_lt hv] at h
        simp only [List.cons_append, List.cons.injEq] at h
        have h1 := congrArg UInt8.toNat h.1
        simp only [UInt8.toNat_ofNat'] at h1
        omega
    · rw [groupsB_lt hu] at h
      by_cases hv : v ≥ 128
      · rw [groupsB_ge hv] at h
        simp only [List.cons_append, List.cons.injEq] at h
        have h1 := congrArg UInt8.toNat h.1
        simp only [UInt8.toNat_ofNat'] at h1
        omega
      · rw [groupsB_lt hv] at h
        simp only [List.cons_append, List.cons.injEq, List.nil_append] at h
        have h1 := congrArg UInt8.toNat h.1
        simp only [UInt8.toNat_ofNat'] at h1
        exact ⟨by omega, h.2⟩
theorem zig_inj {i j : Int} (h : zig i = zig j) : i = j := by
  unfold zig at h
  split at h <;> split at h <;> omega
theorem enc_inj (k : Nat) : ∀ (x y : VT) (r r' : List UInt8), SizeOf.sizeOf x < k → Good x → Good y → encV x ++ r = encV y ++ r' → x = y ∧ r = r' := by
  induction k with
  | zero => intro x y r r' h; omega
  | succ k ih =>
    intro x y r r' hk hx hy h
    have key : ∀ (a b : List VT) (r r' : List UInt8), (∀ z ∈ a, SizeOf.sizeOf z < k) → GoodL a → GoodL b → a.length = b.length → encL a ++ r = encL b ++ r' → a = b ∧ r = r' := by
      intro a
      induction a with
      | nil =>
        intro b r r' _ _ _ hl h
        have := (List.eq_nil_of_length_eq_zero hl.symm)
        subst this
        exact ⟨rfl, by simpa [encL] using h⟩
      | cons u t iha =>
        intro b r r' hz ha hb hl h
        cases b with
        | nil => cases hl
        | cons v t' =>
          simp only [GoodL] at ha hb
          simp only [encL, List.append_assoc] at h
          obtain ⟨e1, h1⟩ := ih u v _ _ (hz u (.head _)) ha.1 hb.1 h
          obtain ⟨e2, h2⟩ := iha t' r r' (fun z hz' => hz z (.tail _ hz')) ha.2 hb.2 (by simpa using hl) h1
          exact ⟨by rw [e1, e2], h2⟩
    have hi := fun z hz => items_lt (x := x) (z := z) hz
    rw [Good_def] at hx hy
    obtain ⟨x0, x3, xi, xs, xl, xt, xn, xg⟩ := hx
    obtain ⟨y0, y3, yi, ys, yl, yt, yn, yg⟩ := hy
    have fin : x.kind = y.kind → x.int = y.int → x.text.toList = y.text.toList → x.items = y.items → x = y := fun h1 h2 h3 h4 => by
      have ht := bytes_ext h3
      cases x; cases y
      simp only [VT.kind, VT.int, VT.text, VT.items] at *
      rw [h1, h2, ht, h4]
    have hkx : x.kind = 0 ∨ x.kind = 1 ∨ x.kind = 2 ∨ x.kind = 3 := by omega
    have hky : y.kind = 0 ∨ y.kind = 1 ∨ y.kind = 2 ∨ y.kind = 3 := by omega
    rw [encV_def, encV_def] at h
    rcases hkx with e | e | e | e <;> rcases hky with e' | e' | e' | e' <;> rw [e] at h xi xs xl fin <;> rw [e'] at h yi ys yl fin <;> simp at h

    · try simp at h
      exact ⟨fin rfl (by rw [xi (by decide), yi (by decide)]) (by rw [xs (by decide), ys (by decide)]) (by rw [xl (by decide), yl (by decide)]), h⟩
    · try simp at h
      obtain ⟨h1, h2⟩ := groups_inj _ _ _ _ _ (Nat.lt_succ_self _) h
      exact ⟨fin rfl (zig_inj h1) (by rw [xs (by decide), ys (by decide)]) (by rw [xl (by decide), yl (by decide)]), h2⟩
    · try simp at h
      have h1 := congrArg UInt8.toNat h.1
      simp only [UInt8.toNat_ofNat'] at h1
      have hl : x.text.data.toList.length = y.text.data.toList.length := by simp; omega
      obtain ⟨h2, h3⟩ := List.append_inj (by simpa using h.2) hl
      exact ⟨fin rfl (by rw [xi (by decide), yi (by decide)]) (by rw [ByteArray.toList_eq, ByteArray.toList_eq]; exact h2) (by rw [xl (by decide), yl (by decide)]), h3⟩
    · try simp at h
      have h1 := congrArg UInt8.toNat h.1
      simp only [UInt8.toNat_ofNat'] at h1
      obtain ⟨h2, h3⟩ := key x.items y.items r r' (fun z hz => by have := hi z hz; omega) xg yg (by omega) h.2
      exact ⟨fin rfl (by rw [xi (by decide), yi (by decide)]) (by rw [xs (by decide), ys (by decide)]) h2, h3⟩
end Go.Proofs.YtjellmblammiaaaDoor
