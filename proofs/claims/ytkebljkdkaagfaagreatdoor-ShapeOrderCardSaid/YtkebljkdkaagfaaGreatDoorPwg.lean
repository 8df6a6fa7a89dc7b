/- Trees in memory; what is asked of the parser's levels. -/
import Derived.Test.YtkebljkdkaagfaaGreatDoorPwf
namespace Go.Proofs.YtkebljkdkaagfaaGreatDoor.E
open Go Tr
open V (rest rest_cases restL sizeB pk_rest cx_i cp_i extract_list)
set_option maxRecDepth 100000
set_option maxHeartbeats 2000000
abbrev tNode : TypeId := 89
mutual
/-- The tree stands in w as this value, in blocks of B. -/
def IsN (B : Nat → Prop) (w : World) : N → Value → Prop
  | .num n, v => ∃ b, v = .iface 202 (.pointer (some ⟨b, 0, none⟩)) ∧ B b ∧ Blk w b [.int .i64 n] 204
  | .quo s, v => ∃ b, v = .iface 205 (.pointer (some ⟨b, 0, none⟩)) ∧ B b ∧ Blk w b [.string (bytesL s)] 207
  | .wrd s, v => ∃ b, v = .iface 209 (.pointer (some ⟨b, 0, none⟩)) ∧ B b ∧ Blk w b [.string (bytesL s)] 211
  | .un op x, v => ∃ b a, v = .iface 128 (.pointer (some ⟨b, 0, none⟩)) ∧ B b ∧ Blk w b [.string (bytesL op), a] 130 ∧ IsN B w x a
  | .bin op x y, v => ∃ b a c, v = .iface 114 (.pointer (some ⟨b, 0, none⟩)) ∧ B b ∧ Blk w b [.string (bytesL op), a, c] 116 ∧ IsN B w x a ∧ IsN B w y c
  | .cnd x y z, v => ∃ b a c d, v = .iface 106 (.pointer (some ⟨b, 0, none⟩)) ∧ B b ∧ Blk w b [a, c, d] 108 ∧ IsN B w x a ∧ IsN B w y c ∧ IsN B w z d
  | .lst l, v => ∃ b p n c vs, v = .iface 224 (.pointer (some ⟨b, 0, none⟩)) ∧ B b ∧ Blk w b [.slice p n c] 227 ∧ vs.length = n ∧ n ≤ c ∧ c ≤ 9223372036854775807 ∧ (0 < n → ∃ g, p = some ⟨g, 0, none⟩ ∧ B g ∧ ∀ (j : Nat) (u : Value), vs[j]? = some u → w.cell? ⟨g, j, none⟩ = some u) ∧ IsL B w l vs
  | .cal i l, v => ∃ b p n c vs, v = .iface 228 (.pointer (some ⟨b, 0, none⟩)) ∧ B b ∧ i < 14 ∧ Blk w b [.string (bytesL (nameB i)), .int .i64 (takesB i : Nat), doV i, .slice p n c] 230 ∧ vs.length = n ∧ n ≤ c ∧ c ≤ 9223372036854775807 ∧ (0 < n → ∃ g, p = some ⟨g, 0, none⟩ ∧ B g ∧ ∀ (j : Nat) (u : Value), vs[j]? = some u → w.cell? ⟨g, j, none⟩ = some u) ∧ IsL B w l vs
def IsL (B : Nat → Prop) (w : World) : List N → List Value → Prop
  | [], vs => vs = []
  | x :: l, vs => ∃ a r, vs = a :: r ∧ IsN B w x a ∧ IsL B w l r
end
theorem row_keep {S B : Nat → Prop} {w w' : World} (hc : Ch S w w') (hB : ∀ k, B k → ¬ S k) {n : Nat} {p : Option Addr} {vs : List Value} (h : 0 < n → ∃ g, p = some ⟨g, 0, none⟩ ∧ B g ∧ ∀ (j : Nat) (u : Value), vs[j]? = some u → w.cell? ⟨g, j, none⟩ = some u) :
    0 < n → ∃ g, p = some ⟨g, 0, none⟩ ∧ B g ∧ ∀ (j : Nat) (u : Value), vs[j]? = some u → w'.cell? ⟨g, j, none⟩ = some u := fun hn => by
  obtain ⟨g, h1, h2, h3⟩ := h hn
  exact ⟨g, h1, h2, fun j u hu => hc.cellv (h3 j u hu) (hB g h2)⟩
mutual
theorem IsN.ch {S B : Nat → Prop} {w w' : World} (hc : Ch S w w') (hB : ∀ k, B k → ¬ S k) : ∀ (x : N) (v : Value), IsN B w x v → IsN B w' x v
  | .num n, v, h => by
    simp only [IsN] at h ⊢
    obtain ⟨b, h1, h2, h3⟩ := h
    exact ⟨b, h1, h2, h3.ch hc (hB b h2)⟩
  | .quo s, v, h => by
    simp only [IsN] at h ⊢
    obtain ⟨b, h1, h2, h3⟩ := h
    exact ⟨b, h1, h2, h3.ch hc (hB b h2)⟩
  | .wrd s, v, h => by
    simp only [IsN] at h ⊢
    obtain ⟨b, h1, h2, h3⟩ := h
    exact ⟨b, h1, h2, h3.ch hc (hB b h2)⟩
  | .un op x, v, h => by
    simp only [IsN] at h ⊢
    obtain ⟨b, a, h1, h2, h3, h4⟩ := h
    exact ⟨b, a, h1, h2, h3.ch hc (hB b h2), IsN.ch hc hB x a h4⟩
  | .bin op x y, v, h => by
    simp only [IsN] at h ⊢
    obtain ⟨b, a, c, h1, h2, h3, h4, h5⟩ := h
    exact ⟨b, a, c, h1, h2, h3.ch hc (hB b h2), IsN.ch hc hB x a h4, IsN.ch hc hB y c h5⟩
  | .cnd x y z, v, h => by
    simp only [IsN] at h ⊢
    obtain ⟨b, a, c, d, h1, h2, h3, h4, h5, h6⟩ := h
    exact ⟨b, a, c, d, h1, h2, h3.ch hc (hB b h2), IsN.ch hc hB x a h4, IsN.ch hc hB y c h5, IsN.ch hc hB z d h6⟩
  | .lst l, v, h => by
    simp only [IsN] at h ⊢
    obtain ⟨b, p, n, c, vs, h1, h2, h3, h4, h5, h6, h7, h8⟩ := h
    exact ⟨b, p, n, c, vs, h1, h2, h3.ch hc (hB b h2), h4, h5, h6, row_keep hc hB h7, IsL.ch hc hB l vs h8⟩
  | .cal i l, v, h => by
    simp only [IsN] at h ⊢
    obtain ⟨b, p, n, c, vs, h1, h2, h0, h3, h4, h5, h6, h7, h8⟩ := h
    exact ⟨b, p, n, c, vs, h1, h2, h0, h3.ch hc (hB b h2), h4, h5, h6, row_keep hc hB h7, IsL.ch hc hB l vs h8⟩
theorem IsL.ch {S B : Nat → Prop} {w w' : World} (hc : Ch S w w') (hB : ∀ k, B k → ¬ S k) : ∀ (l : List N) (vs : List Value), IsL B w l vs → IsL B w' l vs
  | [], vs, h => by
    simp only [IsL] at h ⊢
    exact h
  | x :: l, vs, h => by
    simp only [IsL] at h ⊢
    obtain ⟨a, r, h1, h2, h3⟩ := h
    exact ⟨a, r, h1, IsN.ch hc hB x a h2, IsL.ch hc hB l r h3⟩
end
theorem row_mono {B B' : Nat → Prop} {w : World} (hB : ∀ k, B k → B' k) {n : Nat} {p : Option Addr} {vs : List Value} (h : 0 < n → ∃ g, p = some ⟨g, 0, none⟩ ∧ B g ∧ ∀ (j : Nat) (u : Value), vs[j]? = some u → w.cell? ⟨g, j, none⟩ = some u) :
    0 < n → ∃ g, p = some ⟨g, 0, none⟩ ∧ B' g ∧ ∀ (j : Nat) (u : Value), vs[j]? = some u → w.cell? ⟨g, j, none⟩ = some u := fun hn => by
  obtain ⟨g, h1, h2, h3⟩ := h hn
  exact ⟨g, h1, hB g h2, h3⟩
mutual
theorem IsN.mono {B B' : Nat → Prop} {w : World} (hB : ∀ k, B k → B' k) : ∀ (x : N) (v : Value), IsN B w x v → IsN B' w x v
  | .num n, v, h => by
    simp only [IsN] at h ⊢
    obtain ⟨b, h1, h2, h3⟩ := h
    exact ⟨b, h1, hB b h2, h3⟩
  | .quo s, v, h => by
    simp only [IsN] at h ⊢
    obtain ⟨b, h1, h2, h3⟩ := h
    exact ⟨b, h1, hB b h2, h3⟩
  | .wrd s, v, h => by
    simp only [IsN] at h ⊢
    obtain ⟨b, h1, h2, h3⟩ := h
    exact ⟨b, h1, hB b h2, h3⟩
  | .un op x, v, h => by
    simp only [IsN] at h ⊢
    obtain ⟨b, a, h1, h2, h3, h4⟩ := h
    exact ⟨b, a, h1, hB b h2, h3, IsN.mono hB x a h4⟩
  | .bin op x y, v, h => by
    simp only [IsN] at h ⊢
    obtain ⟨b, a, c, h1, h2, h3, h4, h5⟩ := h
    exact ⟨b, a, c, h1, hB b h2, h3, IsN.mono hB x a h4, IsN.mono hB y c h5⟩
  | .cnd x y z, v, h => by
    simp only [IsN] at h ⊢
    obtain ⟨b, a, c, d, h1, h2, h3, h4, h5, h6⟩ := h
    exact ⟨b, a, c, d, h1, hB b h2, h3, IsN.mono hB x a h4, IsN.mono hB y c h5, IsN.mono hB z d h6⟩
  | .lst l, v, h => by
    simp only [IsN] at h ⊢
    obtain ⟨b, p, n, c, vs, h1, h2, h3, h4, h5, h6, h7, h8⟩ := h
    exact ⟨b, p, n, c, vs, h1, hB b h2, h3, h4, h5, h6, row_mono hB h7, IsL.mono hB l vs h8⟩
  | .cal i l, v, h => by
    simp only [IsN] at h ⊢
    obtain ⟨b, p, n, c, vs, h1, h2, h0, h3, h4, h5, h6, h7, h8⟩ := h
    exact ⟨b, p, n, c, vs, h1, hB b h2, h0, h3, h4, h5, h6, row_mono hB h7, IsL.mono hB l vs h8⟩
theorem IsL.mono {B B' : Nat → Prop} {w : World} (hB : ∀ k, B k → B' k) : ∀ (l : List N) (vs : List Value), IsL B w l vs → IsL B' w l vs
  | [], vs, h => by
    simp only [IsL] at h ⊢
    exact h
  | x :: l, vs, h => by
    simp only [IsL] at h ⊢
    obtain ⟨a, r, h1, h2, h3⟩ := h
    exact ⟨a, r, h1, IsN.mono hB x a h2, IsL.mono hB l r h3⟩
end
theorem IsN.ifc {B : Nat → Prop} {w : World} : ∀ {x : N} {v : Value}, IsN B w x v → ∃ y : TypeId × Value, v = .iface y.1 y.2
  | .num _, _, h => by simp only [IsN] at h; obtain ⟨b, rfl, _⟩ := h; exact ⟨(_, _), rfl⟩
  | .quo _, _, h => by simp only [IsN] at h; obtain ⟨b, rfl, _⟩ := h; exact ⟨(_, _), rfl⟩
  | .wrd _, _, h => by simp only [IsN] at h; obtain ⟨b, rfl, _⟩ := h; exact ⟨(_, _), rfl⟩
  | .un _ _, _, h => by simp only [IsN] at h; obtain ⟨b, _, rfl, _⟩ := h; exact ⟨(_, _), rfl⟩
  | .bin _ _ _, _, h => by simp only [IsN] at h; obtain ⟨b, _, _, rfl, _⟩ := h; exact ⟨(_, _), rfl⟩
  | .cnd _ _ _, _, h => by simp only [IsN] at h; obtain ⟨b, _, _, _, rfl, _⟩ := h; exact ⟨(_, _), rfl⟩
  | .lst _, _, h => by simp only [IsN] at h; obtain ⟨b, _, _, _, _, rfl, _⟩ := h; exact ⟨(_, _), rfl⟩
  | .cal _ _, _, h => by simp only [IsN] at h; obtain ⟨b, _, _, _, _, rfl, _⟩ := h; exact ⟨(_, _), rfl⟩
/-- A tree in memory that is new since w0. -/
def New (w0 w : World) (k : Nat) : Prop := w0.heap.size ≤ k ∧ k < w.heap.size
def relN (w0 : World) (x : N) (v : Value) (w : World) : Prop := IsN (New w0 w) w x v
theorem relN.go {w0 w1 w2 w : World} {S : Nat → Prop} {x : N} {v : Value} (h : relN w1 x v w2) (h1 : w0.heap.size ≤ w1.heap.size) (hc : Ch S w2 w) (hS : ∀ k, New w1 w2 k → ¬ S k) : relN w0 x v w :=
  IsN.mono (fun _ hk => ⟨Nat.le_trans h1 hk.1, Nat.lt_of_lt_of_le hk.2 hc.size⟩) _ _ (IsN.ch hc hS _ _ h)
def fnOf : Lv → FuncId
  | .expr => 49
  | .or => 52
  | .and => 57
  | .not => 62
  | .cmp => 66
  | .sum => 73
  | .term => 93
  | .neg => 114
  | .atom => 127
  | .list => 142
  | .call _ => 143
def argsOf (b : Nat) : Lv → Array Value
  | .call i => #[.pointer (some ⟨b, 0, none⟩), bltV i]
  | _ => #[.pointer (some ⟨b, 0, none⟩)]
/-- What is asked where a level begins: the parser stands so; the call is one; for a closing bracket, one is open. -/
structure Beg (w : World) (b : Nat) (s : ByteArray) (lv : Lv) (st : PS) : Prop where
  ps : PsS w b s st
  gl : GlE w
  big : 11 ≤ b
  sz : s.size ≤ 100
  cal : ∀ i, lv = .call i → i < 14 ∧ ∃ t, peekB s.size st = .ok (t, st)
theorem Beg.go {w w' : World} {b : Nat} {s : ByteArray} {lv lv' : Lv} {st st' : PS} (h : Beg w b s lv st) (hc : Ch (· = b) w w') (hp : PsS w' b s st') (hl : ∀ i, lv' = .call i → i < 14 ∧ ∃ t, peekB s.size st' = .ok (t, st')) : Beg w' b s lv' st' :=
  ⟨hp, h.gl.ch (B := 11) (hc.mono fun k (e : k = b) => by have := h.big; show 11 ≤ k; omega) (Nat.le_refl _), h.big, h.sz, hl⟩
def LvOk (s : ByteArray) (f : Nat) (lv : Lv) : Prop := ∀ (w : World) (b : Nat) (st : PS), Beg w b s lv st → prs s.size f lv st ≠ .error (0, 0) → Calls Tryz.prog (fnOf lv) (argsOf b lv) w (PostR b s w (relN w) (prs s.size f lv st))
section
variable {Q : Exit → List (Tmp × Value) → World → Prop} {w0 w : World} {b : Nat} {s : ByteArray} {α β : Type} {rel' : β → Value → World → Prop}
/-- A step: what the call computes, then the rest. -/
theorem stepR {f : FuncId} {args : Array Value} {sh : Shape} {k : sh.Vars → T} {md : Md} [hmd : md.Runs] {rel : α → Value → World → Prop} {X : R α} {g : α → PS → R β} (h0 : Ch (· = b) w0 w) (hne : bindR X g ≠ .error (0, 0))
    (hc : X ≠ .error (0, 0) → Calls Tryz.prog f args w (PostR b s w rel X))
    (hok : ∀ a st v w', X = .ok (a, st) → Ch (· = b) w w' → rel a v w' → PsS w' b s st → g a st ≠ .error (0, 0) → ∃ x, v = sh.val x ∧ wpT Tryz.prog (PostR b s w0 rel' (g a st)) Q (k x) md w') :
    wpT Tryz.prog (PostR b s w0 rel' (bindR X g)) Q (.callp f args sh k (fun ch => .done (.panicked ch))) md w := by
  refine cpR (hc (fun h => hne (by rw [h]; rfl))) ?_ ?_
  · intro a st v w' hX h1 h2 h3
    subst hX
    exact hok a st v w' rfl h1 h2 h3 hne
  · intro c e w' hX hch ht
    subst hX
    exact PostR.err h0 hch ht
/-- The last step. -/
theorem lastR {f : FuncId} {args : Array Value} {sh : Shape} {k : sh.Vars → T} {md : Md} [hmd : md.Runs] {rel : β → Value → World → Prop} {X : R β} (h0 : Ch (· = b) w0 w)
    (hc : Calls Tryz.prog f args w (PostR b s w rel X))
    (hok : ∀ a st v w', X = .ok (a, st) → Ch (· = b) w w' → rel a v w' → PsS w' b s st → ∃ x, v = sh.val x ∧ wpT Tryz.prog (PostR b s w0 rel' (.ok (a, st))) Q (k x) md w') :
    wpT Tryz.prog (PostR b s w0 rel' X) Q (.callp f args sh k (fun ch => .done (.panicked ch))) md w := by
  refine cpR hc ?_ ?_
  · intro a st v w' hX h1 h2 h3
    subst hX
    exact hok a st v w' rfl h1 h2 h3
  · intro c e w' hX hch ht
    subst hX
    exact PostR.err h0 hch ht
/-- Is this the token? -/
theorem isR {k : Bool → T} {md : Md} [hmd : md.Runs] {kind : Nat} {text : Txt} {st : PS} {lv : Lv} {g : Tk → PS → R β} (h0 : Ch (· = b) w0 w) (hB : Beg w b s lv st)
    (hok : ∀ t st' w', peekB s.size st = .ok (t, st') → Ch (· = b) w w' → PsS w' b s st' → g t st' = bindR (peekB s.size st) g → wpT Tryz.prog (PostR b s w0 rel' (g t st')) Q (k (isB t kind text)) md w') :
    wpT Tryz.prog (PostR b s w0 rel' (bindR (peekB s.size st) g)) Q (.callp 51 #[.pointer (some ⟨b, 0, none⟩), .int .i64 (kind : Nat), .string (bytesL text)] (.one (.leaf .bool)) k (fun ch => .done (.panicked ch))) md w := by
  refine cpR (is_any w b s st kind text hB.ps hB.gl hB.big hB.sz) ?_ ?_
  · intro x st' v w' hX h1 h2 h3
    obtain rfl : v = .bool x := h2
    refine ⟨x, rfl, ?_⟩
    cases hp : peekB s.size st with
    | error c => rw [hp] at hX; cases hX
    | ok y =>
      obtain ⟨t, st1⟩ := y
      rw [hp] at hX
      simp only [bindR, Except.ok.injEq, Prod.mk.injEq] at hX
      obtain ⟨rfl, rfl⟩ := hX
      exact hok t st1 w' hp h1 h3 (by rw [hp]; rfl)
  · intro c e w' hX hch ht
    cases hp : peekB s.size st with
    | error c' =>
      rw [hp] at hX
      obtain rfl : c' = c := by simpa [bindR] using hX
      exact PostR.err h0 hch ht
    | ok y => rw [hp] at hX; simp [bindR] at hX
/-- The token that stands there is taken. -/
theorem nextR {R : Ending → World → Prop} {k : Int × Int × ByteArray × Int × Unit → T} {md : Md} [hmd : md.Runs] {st : PS} {t : Tk} {lv : Lv} (hB : Beg w b s lv st) (hp : peekB s.size st = .ok (t, st))
    (hok : ∀ w', Ch (· = b) w w' → PsS w' b s (dropB st) → wpT Tryz.prog R Q (k (tokX t)) md w') :
    wpT Tryz.prog R Q (.callp 53 #[.pointer (some ⟨b, 0, none⟩)] (.one (.agg [.int .i64, .int .i64, .str, .int .i64])) k (fun ch => .done (.panicked ch))) md w := by
  refine cpR (next_any w b s st hB.ps hB.gl hB.big hB.sz) ?_ ?_
  · intro t' st' v w' hX h1 h2 h3
    rw [hp] at hX
    simp only [bindR, Except.ok.injEq, Prod.mk.injEq] at hX
    obtain ⟨rfl, rfl⟩ := hX
    obtain rfl : v = tokV t := h2
    exact ⟨tokX t, rfl, hok w' h1 h3⟩
  · intro c e w' hX
    rw [hp] at hX
    simp [bindR] at hX
/-- This token must stand there. -/
theorem wantR {k : Unit → T} {md : Md} [hmd : md.Runs] {kind : Nat} {text : Txt} {st : PS} {lv : Lv} {g : Unit → PS → R β} (h0 : Ch (· = b) w0 w) (hB : Beg w b s lv st) (hcl : kind = 4 ∧ (text = sRp ∨ text = sRb) → 1 ≤ st.op) (hne : bindR (wantB s.size kind text st) g ≠ .error (0, 0))
    (hok : ∀ st' w', wantB s.size kind text st = .ok ((), st') → Ch (· = b) w w' → PsS w' b s st' → g () st' ≠ .error (0, 0) → wpT Tryz.prog (PostR b s w0 rel' (g () st')) Q (k ()) md w') :
    wpT Tryz.prog (PostR b s w0 rel' (bindR (wantB s.size kind text st) g)) Q (.callp 54 #[.pointer (some ⟨b, 0, none⟩), .int .i64 (kind : Nat), .string (bytesL text)] (.tup []) k (fun ch => .done (.panicked ch))) md w := by
  refine stepR h0 hne (fun _ => want_any w b s st kind text hB.ps hB.gl hB.big hB.sz hcl) ?_
  intro a st' v w' hX h1 h2 h3 h4
  obtain rfl : v = .tuple #[] := h2
  exact ⟨(), rfl, hok st' w' hX h1 h3 h4⟩
end
end Go.Proofs.YtkebljkdkaagfaaGreatDoor.E
