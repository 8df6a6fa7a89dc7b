/- A range over a function whose iterator keeps a table of its own: the law, told by what blocks may turn. -/
import Derived.Test.YtkebljkdkaagfaaGreatDoorMem
import Derived.RangeFuncFrom
namespace Go.Proofs.YtkebljkdkaagfaaGreatDoor
open Go Tr
set_option maxRecDepth 100000
section
variable {P : Program}
theorem Ch.put {S : Nat → Prop} {w w' : World} (h : Ch S w w') {l : Nat} (hl : w.heap.size ≤ l ∨ S l) (o : Obj) : Ch S w (w'.putObj l o) := by
  refine ⟨h.os, h.tape, h.output, by have := h.size; simpa [World.putObj] using this, fun k hk hn => ?_⟩
  rw [World.putObj_heap_other (fun e => ?_)]
  · exact h.block k hk hn
  · rcases hl with hl | hl
    · omega
    · first | exact hn (e ▸ hl) | exact hn (e.symm ▸ hl)
theorem Ch.at_ {S : Nat → Prop} {w w' : World} (h : Ch S w w') {k : Nat} {o : Obj} (hk : w.heap[k]? = some o) (hn : ¬ S k) : w'.heap[k]? = some o :=
  (h.block k (Array.getElem?_eq_some_iff.1 hk).1 hn).trans hk
/-- What an iterator does, begun in a world that is w0 but for new blocks: it hands over xs, or a first part of it where the round says no more. Sb: the blocks that a round may turn (and the loop's record, l). -/
def IterC {α : Type} (P : Program) (gf : Nat) (lb : Array Value) (encs : α → Array Value) (Sb : Nat → Prop) (xs : List α) (w0 : World) : Prop :=
  ∀ (l : Nat) (J Jx : List α → World → Prop) (W : World), Ch No w0 W → w0.heap.size ≤ l → l < W.heap.size →
    (∀ pre A B, J pre A → Ch (fun k => W.heap.size ≤ k) A B → J pre B) → (∀ pre A B, Jx pre A → Ch (fun k => W.heap.size ≤ k) A B → Jx pre B) →
    (∀ pre x W1, J pre W1 → pre ++ [x] <+: xs → YieldAt Fence.wide 0 P l (encs x) W1 fun e W' => (e = .returned (.bool true) ∧ J (pre ++ [x]) W' ∧ Ch (fun k => Sb k ∨ k = l) W1 W') ∨ (e = .returned (.bool false) ∧ Jx (pre ++ [x]) W')) →
    J [] W → Calls P gf (#[.func (.yield l) #[] #[]] ++ lb) W fun e W' => (∃ v, e = .returned v) ∧ (J xs W' ∨ ∃ pre, pre <+: xs ∧ Jx pre W')
/-- How a round's body may end. -/
def postC {α : Type} (Sb : Nat → Prop) (I : List α → World → Prop) (Ix : Code → List α → World → Prop) (xs : List α) (W : World) : Exit → Act → World → Prop
  | .normal, _, W' => Ch Sb W W' ∧ I xs W'
  | .ret, _, W' => Ch Sb W W' ∧ Ix .ret xs W'
  | .exit id, _, W' => Ch Sb W W' ∧ Ix (.exit id) xs W'
  | _, _, _ => False
theorem rangeFunc_ch {α : Type} {gop : Operand} {ps : Array Tmp} {assign body : Code} {Q : Exit → Act → World → Prop} {a : Act} {w : World} {gf : Nat} {lb : Array Value}
    (hg : a.eval gop = .func (.func gf) #[] lb) (eg : ∀ args w, (callFunc gf args).run P w = .ok (.enter gf args) w) {encs : α → Array Value} (hps : ∀ x, (encs x).size = ps.size)
    {Sb : Nat → Prop} (hSb : ∀ k, Sb k → k < w.heap.size) {xs : List α} (hseq : IterC P gf lb encs Sb xs w)
    (I : List α → World → Prop) (Ix : Code → List α → World → Prop) (hI : ∀ pre A B, I pre A → Ch (fun k => w.heap.size ≤ k) A B → I pre B) (hIx : ∀ c pre A B, Ix c pre A → Ch (fun k => w.heap.size ≤ k) A B → Ix c pre B) (h0 : I [] w)
    (hround : ∀ (l : Nat) (pre : List α) (x : α) (W : World), I pre W → pre ++ [x] <+: xs → assign.wpIn (Fence.wide.inRound l) 0 P (fun e a1 W1 => e = .normal ∧ W1 = W ∧ ∀ W2, I pre W2 → body.wpIn (Fence.wide.inRound l) 0 P (postC Sb I Ix (pre ++ [x]) W2) a1 W2)
      { tmps := (ps.zip (encs x)).foldl (fun t (p, v) => t.setIfInBounds p v) a.tmps, defers := [] } W)
    (hdone : ∀ (D : Nat) (W : World), w.heap.size ≤ D → I xs W → W.heap[D]? = some (.deferred (some [])) → Q .normal { a with defers := collD D :: a.defers } W)
    (hstop : ∀ (D : Nat) (c : Code) (pre : List α) (W : World), w.heap.size ≤ D → pre <+: xs → Ix c pre W → W.heap[D]? = some (.deferred (some [])) → c.wp P Q { a with defers := collD D :: a.defers } W) :
    (Code.rangeFunc gop ps assign body).wp P Q a w := by
  refine (wpIn_wide (n := 2)).1 (wpIn_rangeFunc ?_)
  intro fn hfn
  rw [show Fence.wide.round = none from rfl]
  obtain ⟨rec, hrec⟩ : ∃ rec : LoopState → Option Code → Loop, rec = fun st pe => { state := st, pending := pe, fn, tmps := a.tmps, params := ps, assign, body, defers := w.heap.size } := ⟨_, rfl⟩
  obtain ⟨W1, hW1⟩ : ∃ W1, (w.alloc (.deferred (some []))).alloc (.loop (rec .ready none)) = W1 := ⟨_, rfl⟩
  have hz1 : W1.heap.size = w.heap.size + 2 := by rw [← hW1]; simp
  have hL1 : W1.heap[w.heap.size + 1]? = some (.loop (rec .ready none)) := by
    rw [← hW1]; have := World.alloc_heap_new (w.alloc (.deferred (some []))) (.loop (rec .ready none)); rwa [World.size_alloc] at this
  have c1 : Ch No w W1 := by rw [← hW1]; exact ((Ch.refl _ _).alloc _).alloc _
  have hK1 : W1.heap[w.heap.size]? = some (.deferred (some [])) := by
    rw [← hW1, RowKit.Below.heap_alloc _ _ _ (by simp)]; exact World.alloc_heap_new w _
  have up : ∀ {A B : World} {S : Nat → Prop}, Ch S A B → (∀ k, S k → w.heap.size ≤ k) → Ch (fun k => w.heap.size ≤ k) A B := fun h hS => h.mono hS
  have hI1 : I [] W1 := hI [] w W1 h0 (c1.mono fun k h => h.elim)
  refine ⟨w.heap.size + 1, [{ target := .collected w.heap.size, args := #[] }], W1, { target := .fn (.func gf) lb, args := #[.func (.yield (w.heap.size + 1)) #[] #[]] }, W1, gf,
    #[.func (.yield (w.heap.size + 1)) #[] #[]] ++ lb, W1, ?_, ?_, ?_, ?_, fun _ => by omega, ?_⟩
  · rw [← hW1, hrec]; exact run_enterLoop_outer _ _ _ _ _
  · simp only [resolve, hg]
    simp [go_sem]
  · intro f' hf'; trivial
  · simp [invoke, go_sem, eg]
  refine callsIn_wide.2 ((hseq (w.heap.size + 1)
      (fun pre W => I pre W ∧ W.heap[w.heap.size + 1]? = some (.loop (rec .ready none)) ∧ W.heap[w.heap.size]? = some (.deferred (some [])))
      (fun pre W => ∃ c, Ix c pre W ∧ W.heap[w.heap.size + 1]? = some (.loop (rec .done (some c))) ∧ W.heap[w.heap.size]? = some (.deferred (some [])))
      W1 c1 (by omega) (by omega) ?_ ?_ ?_ ⟨hI1, hL1, hK1⟩).mono ?_)
  · rintro pre A B ⟨hi, hl, hk⟩ h
    exact ⟨hI pre A B hi (h.mono fun k (hk : W1.heap.size ≤ k) => by omega), h.at_ hl (fun (hk : W1.heap.size ≤ _) => by omega), h.at_ hk (fun (hk : W1.heap.size ≤ _) => by omega)⟩
  · rintro pre A B ⟨c, hi, hl, hk⟩ h
    exact ⟨c, hIx c pre A B hi (h.mono fun k (hk : W1.heap.size ≤ k) => by omega), h.at_ hl (fun (hk : W1.heap.size ≤ _) => by omega), h.at_ hk (fun (hk : W1.heap.size ≤ _) => by omega)⟩
  · -- one round
    rintro pre x W ⟨hi, hl, hk⟩ hpre
    have hlt : w.heap.size + 1 < W.heap.size := (Array.getElem?_eq_some_iff.1 hl).1
    have hy := run_yield (P := P) (args := encs x) hl (by rw [hrec]; exact hps x)
    rw [hrec] at hy
    refine ⟨fn, _, assign, body, hy, roundIn_of_wpIn hfn (wpIn_mono (hround (w.heap.size + 1) pre x W hi hpre) ?_)⟩
    rintro e a1 Wx ⟨rfl, rfl, hbody⟩
    refine ⟨_, run_beginRound hl (by rw [hrec]), ?_⟩
    have hl2 : (Wx.putObj (w.heap.size + 1) (.loop { rec .ready none with state := .busy })).heap[w.heap.size + 1]? = some (.loop { rec .ready none with state := .busy }) := World.putObj_heap_same hlt
    have hk2 : (Wx.putObj (w.heap.size + 1) (.loop { rec .ready none with state := .busy })).heap[w.heap.size]? = some (.deferred (some [])) := (World.putObj_heap_other (by omega)).trans hk
    have c2 : Ch (· = w.heap.size + 1) Wx (Wx.putObj (w.heap.size + 1) (.loop { rec .ready none with state := .busy })) := (Ch.refl (· = w.heap.size + 1) _).put (.inr rfl) _
    have hi2 := hI pre _ _ hi (c2.mono fun k (h : k = _) => by omega)
    refine wpIn_mono (hbody _ hi2) ?_
    have fin : ∀ (jump : Option Code) (W3 : World), Ch Sb (Wx.putObj (w.heap.size + 1) (.loop { rec .ready none with state := .busy })) W3 →
        (Instr.endRound (w.heap.size + 1) jump).run P W3 = .ok (.bool jump.isNone) (W3.putObj (w.heap.size + 1) (.loop (rec (if jump.isNone then .ready else .done) jump))) ∧
        (W3.putObj (w.heap.size + 1) (.loop (rec (if jump.isNone then .ready else .done) jump))).heap[w.heap.size + 1]? = some (.loop (rec (if jump.isNone then .ready else .done) jump)) ∧
        (W3.putObj (w.heap.size + 1) (.loop (rec (if jump.isNone then .ready else .done) jump))).heap[w.heap.size]? = some (.deferred (some [])) ∧
        Ch (fun k => w.heap.size ≤ k) W3 (W3.putObj (w.heap.size + 1) (.loop (rec (if jump.isNone then .ready else .done) jump))) ∧
        Ch (fun k => Sb k ∨ k = w.heap.size + 1) Wx (W3.putObj (w.heap.size + 1) (.loop (rec (if jump.isNone then .ready else .done) jump))) := fun jump W3 h3 => by
      have hl3 := h3.at_ hl2 (fun h => by have := hSb _ h; omega)
      have hk3 := h3.at_ hk2 (fun h => by have := hSb _ h; omega)
      have he := run_endRound (P := P) jump hl3
      rw [hrec] at he ⊢
      refine ⟨he, World.putObj_heap_same (Array.getElem?_eq_some_iff.1 hl3).1, (World.putObj_heap_other (by omega)).trans hk3, (Ch.refl _ _).put (.inr (by omega)) _, ?_⟩
      exact (((c2.mono fun k h => .inr h).trans (h3.mono fun k h => .inl h)).trans ((Ch.refl _ _).put (S := fun k => Sb k ∨ k = w.heap.size + 1) (.inr (.inr rfl)) _))
    rintro e a3 W3 hp
    cases e with
    | normal =>
      obtain ⟨h3, hi3⟩ := hp
      obtain ⟨hr, hl4, hk4, c4, c5⟩ := fin none W3 h3
      exact ⟨_, _, hr, .inl ⟨rfl, ⟨hI _ _ _ hi3 c4, hl4, hk4⟩, c5⟩⟩
    | ret =>
      obtain ⟨h3, hi3⟩ := hp
      obtain ⟨hr, hl4, hk4, c4, c5⟩ := fin (some .ret) W3 h3
      exact ⟨_, _, hr, .inr ⟨rfl, .ret, hIx _ _ _ _ hi3 c4, hl4, hk4⟩⟩
    | exit id =>
      obtain ⟨h3, hi3⟩ := hp
      obtain ⟨hr, hl4, hk4, c4, c5⟩ := fin (some (.exit id)) W3 h3
      exact ⟨_, _, hr, .inr ⟨rfl, .exit id, hIx _ _ _ _ hi3 c4, hl4, hk4⟩⟩
    | _ => exact hp.elim
  · -- behind the iterator
    rintro e W2 ⟨⟨v, rfl⟩, (⟨hi, hl, hk⟩ | ⟨pre, hpre, c, hi, hl, hk⟩)⟩
    · exact ⟨none, _, by have := run_endLoop (P := P) hl (by rw [hrec]; simp); rw [hrec] at this; exact this, hdone _ _ (Nat.le_refl _) (hI _ _ _ hi ((Ch.refl _ _).put (.inr (by omega)) _)) ((World.putObj_heap_other (by omega)).trans hk)⟩
    · exact ⟨some c, _, by have := run_endLoop (P := P) hl (by rw [hrec]; simp); rw [hrec] at this; exact this, wpIn_wide.2 (hstop _ c pre _ (Nat.le_refl _) hpre (hIx _ _ _ _ hi ((Ch.refl _ _).put (.inr (by omega)) _)) ((World.putObj_heap_other (by omega)).trans hk))⟩
/-- The two codes of a range over a function. -/
def rfA : Code → Code
  | .rangeFunc _ _ x _ => x
  | c => c
def rfB : Code → Code
  | .rangeFunc _ _ _ y => y
  | c => c
/-- What is asked behind a round's body. -/
def afterB {α : Type} (Sb : Nat → Prop) (I Jr : List α → World → Prop) (xs : List α) (W : World) : Exit → List (Tmp × Value) → World → Prop
  | .normal, _, W' => Ch Sb W W' ∧ I xs W'
  | .ret, _, W' => Ch Sb W W' ∧ Jr xs W'
  | _, _, _ => False
/-- A range over a function in a tree: its rounds go on, or return. -/
theorem rfd_i {α : Type} {R : Ending → World → Prop} {Q : Exit → List (Tmp × Value) → World → Prop} {c : Code} {n : Nat} {fx : List (Tmp × Value)} {ds : List Deferred} {k kr : Nat → T} {w : World}
    (gop : Operand) (ps : Array Tmp) (hc : c = .rangeFunc gop ps (rfA c) (rfB c)) {gf : Nat} {lb : Array Value}
    (hg : ∀ g, (mkD n fx g ds).eval gop = .func (.func gf) #[] lb) (eg : ∀ args w, (callFunc gf args).run P w = .ok (.enter gf args) w) {encs : α → Array Value} (hps : ∀ x, (encs x).size = ps.size)
    {Sb : Nat → Prop} (hSb : ∀ k, Sb k → k < w.heap.size) {xs : List α} (hseq : IterC P gf lb encs Sb xs w)
    (I Jr : List α → World → Prop) (hI : ∀ pre A B, I pre A → Ch (fun k => w.heap.size ≤ k) A B → I pre B) (hJr : ∀ pre A B, Jr pre A → Ch (fun k => w.heap.size ≤ k) A B → Jr pre B) (h0 : I [] w)
    (La : α → List (Tmp × Value)) (hLa : ∀ g x, (Act.mk ((ps.zip (encs x)).foldl (fun t (p, v) => t.setIfInBounds p v) (mkD n fx g ds).tmps) []) = mkA n (fx ++ La x) g)
    (mxa : List (Tmp × Comp)) (sa : Script) (va : α → MVars mxa) (hap : ∀ x, apartL (fx ++ La x) (rfA c) = true)
    (hassign : ∀ l x g W, wpT P R (fun e L w' => e = .normal ∧ L = mvals mxa (va x) ∧ w' = W) (pieceR P l (rfA c) n (fx ++ La x) g (mxa.map (·.1)) [] [] sa) .pl W) (sb : Script)
    (hbody : ∀ l pre x g W, I pre W → pre ++ [x] <+: xs → wpT P R (afterB Sb I Jr (pre ++ [x]) W) (pieceR P l (rfB c) n (fx ++ La x ++ mvals mxa (va x)) g [] [] [] sb) .pl W)
    (hdone : ∀ D W, w.heap.size ≤ D → I xs W → W.heap[D]? = some (.deferred (some [])) → wpT P R Q (k D) .pl W)
    (hstop : ∀ D pre W, w.heap.size ≤ D → pre <+: xs → Jr pre W → W.heap[D]? = some (.deferred (some [])) → wpT P R Q (kr D) .pl W) : wpT P R Q (.rfd c n fx ds k kr) .pl w := by
  rw [wpT_rfd]
  intro g
  generalize hA : rfA c = A at *
  generalize hB : rfB c = B at *
  rw [hc]
  refine rangeFunc_ch (hg g) eg hps hSb hseq I (fun cc pre W => cc = .ret ∧ Jr pre W) hI (fun cc pre A B h hab => ⟨h.1, hJr pre A B h.2 hab⟩) h0 ?_ ?_ ?_
  · intro l pre x W hi hpre
    rw [hLa]
    refine pieceR_sound (Q := fun e L w' => e = .normal ∧ L = mvals mxa (va x) ∧ w' = W) ?_ (hassign l x g W)
    rintro e a' w' hd hk ⟨rfl, hL, rfl⟩
    dsimp only at hL
    have hk' : Keep (wr A) (mkA n ((fx ++ La x) ++ []) g) a' := by rw [List.append_nil]; exact hk
    obtain ⟨g', hg', he⟩ := back (fun _ _ => rfl) (hap x) (L := []) (fun t ht => by cases ht) hk' hd hL
    refine ⟨rfl, rfl, fun W2 hi2 => ?_⟩
    rw [he]
    refine pieceR_sound (Q := afterB Sb I Jr (pre ++ [x]) W2) ?_ (hbody l pre x g' W2 hi2 hpre)
    intro e a2 w2 hd2 hk2 h
    cases e with
    | normal => exact h
    | ret => exact ⟨h.1, rfl, h.2⟩
    | _ => exact h.elim
  · intro D W hD hi hK
    exact ⟨D, rfl, hdone D W hD hi hK⟩
  · rintro D cc pre W hD hpre ⟨rfl, hj⟩ hK
    exact wp_ret ⟨D, rfl, hstop D pre W hD hpre hj hK⟩
end
end Go.Proofs.YtkebljkdkaagfaaGreatDoor
