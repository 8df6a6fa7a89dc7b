/- The program's writer: a text's form with the bytes from 0x80 on by their digits (plain law: the document's form of a text). The program's writer: words, a text's bytes, tokens put together, its levels. -/
import Derived.Test.YtmdmomccibpjbaaGreatDoorRyc
import Derived.Test.YtmdmomccibpjbaaGreatDoorBld
namespace Go.Proofs.YtmdmomccibpjbaaGreatDoor.E
open Go Tr
open Go.Lib (decodeL decodeN)
set_option maxRecDepth 100000
set_option maxHeartbeats 2000000
def pl1 (c : UInt8) : Txt := if 128 ≤ c.toNat then hex2 c else [c]
theorem hexL_lo (n : Nat) (h : n < 16) : (hexL n).toNat < 128 := by
 have : ∀ m : Fin 16,(hexL m.val).toNat < 128 := by decide
 exact this ⟨n,h⟩
theorem pl1_lo {c : UInt8} (h : c.toNat < 128) : pl1 c = [c] := by unfold pl1; rw [if_neg (by omega)]
theorem pl_hex (c : UInt8) : (hex2 c).flatMap pl1 = hex2 c := by
 have h := c.toNat_lt
 unfold hex2
 simp only [List.flatMap_cons,List.flatMap_nil]
 rw [pl1_lo (c := 92) (by decide),pl1_lo (c := 120) (by decide),pl1_lo (hexL_lo _ (by omega)),pl1_lo (hexL_lo _ (by omega))]
 rfl
theorem pl_hexs (l : Txt) : (l.flatMap hexB).flatMap pl1 = l.flatMap hex2 := by
 induction l with
 | nil => rfl
 | cons c r ih =>
  rw [List.flatMap_cons,List.flatMap_append,ih,List.flatMap_cons]
  show (hex2 c).flatMap pl1 ++ _ = _
  rw [pl_hex]
theorem quo_hi {l : Txt} (h : ∀ c ∈ l,128 ≤ c.toNat) : l.flatMap quo1 = l.flatMap hex2 ∧ l.flatMap pl1 = l.flatMap hex2 := by
 induction l with
 | nil => exact ⟨rfl,rfl⟩
 | cons c r ih =>
  obtain ⟨i1,i2⟩ := ih (fun x hx => h x (.tail _ hx))
  have hc := h c (.head _)
  have q : quo1 c = hex2 c := by
   unfold quo1
   rw [if_neg (fun h => by rcases h with rfl | rfl <;> revert hc <;> decide),if_neg (by rintro rfl; revert hc; decide),if_neg (by rintro rfl; revert hc; decide),if_neg (by omega)]
  have p : pl1 c = hex2 c := by unfold pl1; rw [if_pos hc]
  simp only [List.flatMap_cons,i1,i2,q,p]
  exact ⟨trivial,trivial⟩
/-- Bytes that are decoded together begin at 0x80, or one byte stands by itself. -/
theorem decode_hi (l : Txt) (h : l ≠ []) : ((decodeL l).1 = (l.getD 0 0).toNat ∧ (decodeL l).2 = 1 ∧ (l.getD 0 0).toNat < 128) ∨ (128 ≤ (l.getD 0 0).toNat ∧ (∀ c ∈ l.take (decodeL l).2,128 ≤ c.toNat) ∧ 128 ≤ (decodeL l).1 ∧ (1 < (decodeL l).2 ∨ (decodeL l) = (65533,1))) := by
 have hd : ∀ i,i < l.length → ∀ c,l[i]? = some c → (l.getD i 0) = c := fun i hi c hc => by rw [List.getD_eq_getElem?_getD,hc]; rfl
 have tk : ∀ k,k ≤ l.length → (∀ i,i < k → 128 ≤ (l.getD i 0).toNat) → ∀ c ∈ l.take k,128 ≤ c.toNat := fun k hk hi c hc => by
  obtain ⟨i,hlt,rfl⟩ := List.getElem_of_mem hc
  rw [List.length_take] at hlt
  have := hi i (by omega)
  rw [List.getD_eq_getElem?_getD,List.getElem?_eq_getElem (by omega)] at this
  rw [List.getElem_take]
  exact this
 have hpos : 0 < l.length := List.length_pos_iff.2 h
 by_cases h0 : (l.getD 0 0).toNat < 128
 ·left
  rw [Lib.decodeL_N]
  unfold decodeN
  rw [if_pos h0]
  exact ⟨rfl,rfl,h0⟩
 ·right
  rw [Lib.decodeL_N]
  rcases Lib.decodeN_shape l.length (l.getD 0 0).toNat (l.getD 1 0).toNat (l.getD 2 0).toNat (l.getD 3 0).toNat with ⟨c,e⟩ | ⟨c1,c2,c3,cv,e⟩ | ⟨c1,c2,c3,c4,cv,cs,e⟩ | ⟨c1,c2,c3,c4,c5,cv,cw,e⟩ | e <;> rw [e] <;> dsimp only
  ·exact absurd c h0
  ·refine ⟨by omega,tk 2 (by omega) fun i hi => ?_,by omega,.inl (by omega)⟩
   match i,hi with
   | 0,_ => omega
   | 1,_ => omega
  ·refine ⟨by omega,tk 3 (by omega) fun i hi => ?_,by omega,.inl (by omega)⟩
   match i,hi with
   | 0,_ => omega
   | 1,_ => omega
   | 2,_ => omega
  ·refine ⟨by omega,tk 4 (by omega) fun i hi => ?_,by omega,.inl (by omega)⟩
   match i,hi with
   | 0,_ => omega
   | 1,_ => omega
   | 2,_ => omega
   | 3,_ => omega
  ·refine ⟨by omega,tk 1 (by omega) fun i hi => ?_,by omega,.inr rfl⟩
   obtain rfl : i = 0 := by omega
   omega
theorem piece_quo (s : ByteArray) (pos : Nat) (hp : pos < s.size) : (pieceQ s pos (Utf8.decode s pos).1 (Utf8.decode s pos).2).flatMap pl1 = ((s.data.toList.drop pos).take (Utf8.decode s pos).2).flatMap quo1 := by
 have hL : s.data.toList.drop pos ≠ [] := fun e => by
  have := congrArg List.length e
  simp at this; omega
 have hg : s.data.toList.getD pos 0 = (s.data.toList.drop pos).getD 0 0 := by simp [List.getD_eq_getElem?_getD,List.getElem?_drop]
 unfold pieceQ
 rw [V.drop_decode,hg]
 generalize s.data.toList.drop pos = L at *
 have henc := Lib.encode_decode L hL
 rcases decode_hi L hL with ⟨e1,e2,e3⟩ | ⟨e0,e1,e2,e3⟩
 ·obtain ⟨c0,L',rfl⟩ : ∃ c r,L = c :: r := by
   cases L with
   | nil => exact absurd rfl hL
   | cons c r => exact ⟨c,r,rfl⟩
  rw [show (c0 :: L').getD 0 0 = c0 from rfl] at *
  rw [e2]
  rw [show (c0 :: L').take 1 = [c0] from rfl]
  have hen : Lib.encodeRune ((decodeL (c0 :: L')).1 : Int) = [c0] := by rw [henc (by rw [e1]; omega),e2]; rfl
  rw [e1] at hen ⊢
  have hc0 : ∀ n : Nat,n < 256 → c0.toNat = n → c0 = UInt8.ofNat n := fun n hn e => by rw [← e]; simp
  have hq : [c0].flatMap quo1 = quo1 c0 := by rw [List.flatMap_cons,List.flatMap_nil,List.append_nil]
  rw [hq]
  unfold quo1
  by_cases q1 : c0.toNat = 34 ∨ c0.toNat = 92
  ·have : c0 = 34 ∨ c0 = 92 := q1.imp (fun e => hc0 34 (by omega) e) (fun e => hc0 92 (by omega) e)
   rw [if_pos q1,if_pos this,List.flatMap_cons,List.flatMap_cons,List.flatMap_nil,pl1_lo (c := 92) (by decide),pl1_lo e3]
   rfl
  have n1 : ¬ (c0 = 34 ∨ c0 = 92) := fun h => q1 (h.imp (fun h => by rw [h]; rfl) (fun h => by rw [h]; rfl))
  rw [if_neg q1,if_neg n1]
  by_cases q2 : c0.toNat = 10
  ·rw [if_pos q2,if_pos (show c0 = 10 from hc0 10 (by omega) q2)]; rfl
  have n2 : ¬ c0 = 10 := fun h => q2 (by rw [h]; rfl)
  rw [if_neg q2,if_neg n2]
  by_cases q3 : c0.toNat = 9
  ·rw [if_pos q3,if_pos (show c0 = 9 from hc0 9 (by omega) q3)]; rfl
  have n3 : ¬ c0 = 9 := fun h => q3 (by rw [h]; rfl)
  rw [if_neg q3,if_neg n3]
  have hpl : plainR c0.toNat 1 = true ↔ 32 ≤ c0.toNat ∧ c0.toNat ≤ 126 := by
   simp only [plainR,Bool.or_eq_true,Bool.and_eq_true,decide_eq_true_eq]
   omega
  by_cases q4 : plainR c0.toNat 1 = true
  ·rw [if_pos q4,if_pos (hpl.1 q4),hen,List.flatMap_cons,List.flatMap_nil,List.append_nil,pl1_lo e3]
  ·rw [if_neg q4,if_neg (fun h => q4 (hpl.2 h)),pl_hexs,List.flatMap_cons,List.flatMap_nil,List.append_nil]
 ·obtain ⟨q1,q2⟩ := quo_hi e1
  rw [q1]
  generalize hwd : (decodeL L).2 = wd at *
  generalize hcv : (decodeL L).1 = cv at *
  have ne : ∀ {n : Nat},n < 128 → ¬ (cv : Nat) = n := fun hn h => by omega
  rw [if_neg (by omega),if_neg (by omega),if_neg (by omega)]
  by_cases q4 : plainR cv wd = true
  ·have hv : ¬ (cv = 65533 ∧ wd = 1) := fun h => by
    rw [h.1,h.2] at q4
    exact absurd q4 (by decide)
   rw [if_pos q4,henc hv,q2]
  ·rw [if_neg q4,pl_hexs]
theorem quoteF_quo (s : ByteArray) : ∀ (n pos : Nat),s.size - pos = n → pos ≤ s.size → (quoteF s s.size pos).flatMap pl1 = (s.data.toList.drop pos).flatMap quo1 := by
 intro n
 induction n using Nat.strongRecOn with
 | _ n ih =>
  intro pos hn hp
  by_cases hlt : pos < s.size
  ·have hw := Lib.decode_width_pos s pos hlt
   have hin := (decode_in s pos hlt).2
   rw [quoteF_step s pos hlt,List.flatMap_append,piece_quo s pos hlt,ih _ (by omega) _ rfl hin,← List.flatMap_append]
   congr 1
   rw [← List.drop_drop,List.take_append_drop]
  ·obtain rfl : pos = s.size := by omega
   have : s.data.toList.drop s.size = [] := List.drop_of_length_le (by simp)
   rw [this]
   have : quoteF s s.size s.size = [] := by
    cases hk : s.size with
    | zero => rfl
    | succ k =>
     rw [quoteF,if_neg (by omega)]
   rw [this]
   rfl
/-- A text's one form. -/
theorem plain_quo (s : ByteArray) : (quoteB s).flatMap pl1 = quoM s.data.toList := by
 have h := quoteF_quo s _ 0 rfl (Nat.zero_le _)
 rw [List.drop_zero] at h
 unfold quoteB quoM
 rw [List.flatMap_cons,List.flatMap_append,h,pl1_lo (c := 34) (by decide)]
 rfl
theorem print_quo {s : ByteArray} (h : s.size ≤ 24) : printTxt (.mk 2 0 s []) = quoteB s := by
 have hc : checkV (.mk 2 0 s []) = 0 := by
  unfold checkV
  rw [partV_def]
  dsimp only [VT.kind,VT.int,VT.text,VT.items]
  have h24 : ¬ s.size > 24 := by omega
  simp [h24,partL]
 unfold printTxt validV
 rw [if_pos hc,printV_def]
 rfl
end Go.Proofs.YtmdmomccibpjbaaGreatDoor.E
namespace Go.Proofs.YtmdmomccibpjbaaGreatDoor.E
open Go Tr
open V (rest rest_cases restL sizeB pk_rest cx_i cp_i extract_list pk hexP)
set_option maxRecDepth 100000
set_option maxHeartbeats 2000000
/-! the tree of function 26 -/
def s26 : Script := .sym (.lit (.ix (.lit (.lit (.sym (.lit (.ix (.lit (.lit .nil)))) (.lit (.lit (.lit .nil)))))))) (.lit (.lit (.lit (.lit (.lit (.lit (.lit .nil)))))))
theorem t26 (qs0 : ByteArray) : fnT Tryz.prog Tryz.f26 #[.string qs0] s26 = .br (!qs0.toList == (bytesL []).toList) (.bidx qs0 0 (fun c1 => .br (Decidable.decide (c1 ≥ 97)) (.bidx qs0 0 (fun c2 => .done (.returned (.bool (Decidable.decide (c2 ≤ 122)))))) (.done (.returned (.bool false))))) (.done (.returned (.bool false))) := by kernel_rfl
/-! the tree of function 32 -/
abbrev fx32_2 (qs0 : ByteArray) (n1 : Nat) : List (Tmp × Value) := [(0,.string qs0),(2,.string (bytesL [])),(3,.pointer (some ⟨n1,0,none⟩)),(7,.int .i64 (↑qs0.size : Int))]
abbrev m32_2 : List (Tmp × Comp) := [(8,.leaf (.int .i64))]
abbrev mx32_2 : List (Tmp × Comp) := []
abbrev mr32_2 : List (Tmp × Comp) := []
def s32_2 : Script := .sym (.ix (.sym (.cl (.tup [.leaf (.int .i64),.leaf .any]) (.ix (.cl (.one (.leaf .any)) (.ix (.cl (.one (.leaf .any)) .nil))))) (.cl (.one (.leaf .any)) .nil))) .nil
theorem t32_2 (qs0 : ByteArray) (n1 : Nat) (x_8 : Int) (gg2 : Nat → Value) : pieceT Tryz.prog (at_ Tryz.f32 [1,1,0,1,0,0]) 29 (fx32_2 qs0 n1 ++ mvals m32_2 (x_8,())) gg2 (m32_2.map (·.1)) (mx32_2.map (·.1)) (mr32_2.map (·.1)) s32_2 = .br (Decidable.decide (x_8 < (↑qs0.size : Int))) (.bidx qs0 x_8 (fun c3 => .br (Decidable.decide (c3 ≥ 128)) (.call 28 #[.pointer (some ⟨n1,0,none⟩),.string (bytesL [92,120])] (.tup [.leaf (.int .i64),.leaf .any]) (fun r4 => .bidx (bytesL [48,49,50,51,52,53,54,55,56,57,97,98,99,100,101,102]) (c3.fdiv (2 ^ Min.min (Int.toNat 4) IntKind.u8.bits)) (fun c5 => .call 27 #[.pointer (some ⟨n1,0,none⟩),.int .u8 c5] (.one (.leaf .any)) (fun v6 => .bidx (bytesL [48,49,50,51,52,53,54,55,56,57,97,98,99,100,101,102]) (IntKind.u8.wrap (↑(BitVec.ofInt IntKind.u8.bits c3 &&& BitVec.ofInt IntKind.u8.bits 15).toNat : Int)) (fun c7 => .call 27 #[.pointer (some ⟨n1,0,none⟩),.int .u8 c7] (.one (.leaf .any)) (fun v8 => .fin .normal [(8,.int .i64 (IntKind.i64.wrap (x_8 + 1)))])))))) (.call 27 #[.pointer (some ⟨n1,0,none⟩),.int .u8 c3] (.one (.leaf .any)) (fun v9 => .fin .normal [(8,.int .i64 (IntKind.i64.wrap (x_8 + 1)))])))) (.fin (.exit 0) []) := by kernel_rfl
def s32 : Script := .lp 0 [0,2,3,7] [8] mx32_2 mr32_2 (.cl (.one (.leaf .str)) .nil) .nil
theorem t32 (qs0 : ByteArray) : fnT Tryz.prog Tryz.f32 #[.string qs0] s32 = .new (.cells #[.pointer none,.slice none 0 0] 78 (0,0)) (fun n1 => .loop (at_ Tryz.f32 [1,1,0,1,0,0]) 29 (fx32_2 qs0 n1) [(8,.int .i64 0)] mx32_2 mr32_2 0 (fun u10 g10 => .call 29 #[.pointer (some ⟨n1,0,none⟩)] (.one (.leaf .str)) (fun s11 => .done (.returned (.string s11)))) (fun u12 g12 => .stuck)) := by kernel_rfl
/-! the tree of function 13 -/
abbrev fx13_2 (qa0 : Option Addr) (qn0 : Nat) (qc0 : Nat) (n1 : Nat) : List (Tmp × Value) := [(0,.slice qa0 qn0 qc0),(2,.string (bytesL [])),(3,.pointer (some ⟨n1,0,none⟩)),(6,.slice qa0 qn0 qc0),(7,.int .i64 (↑qn0 : Int))]
abbrev m13_2 : List (Tmp × Comp) := [(8,.leaf (.int .i64))]
abbrev mx13_2 : List (Tmp × Comp) := []
abbrev mr13_2 : List (Tmp × Comp) := []
def s13_2 : Script := .sym (.ix (.ld .str (.sym (.lit (.lit (.lit (.ix (.lit (.ld .str (.lit (.cl (.one (.leaf .bool)) (.lit (.sym (.lit (.cl (.one (.leaf .bool)) (.lit (.sym (.cl (.one (.leaf .any)) (.cl (.tup [.leaf (.int .i64),.leaf .any]) .nil)) (.cl (.tup [.leaf (.int .i64),.leaf .any]) .nil))))) (.lit (.lit (.lit (.cl (.tup [.leaf (.int .i64),.leaf .any]) .nil)))))))))))))) (.lit (.lit (.lit (.lit (.lit (.lit (.lit (.lit (.lit (.lit (.cl (.tup [.leaf (.int .i64),.leaf .any]) .nil)))))))))))))) .nil
theorem t13_2 (qa0 : Option Addr) (qn0 : Nat) (qc0 : Nat) (n1 : Nat) (x_8 : Int) (gg2 : Nat → Value) : pieceT Tryz.prog (at_ Tryz.f13 [1,1,0,1,0,0]) 32 (fx13_2 qa0 qn0 qc0 n1 ++ mvals m13_2 (x_8,())) gg2 (m13_2.map (·.1)) (mx13_2.map (·.1)) (mr13_2.map (·.1)) s13_2 = .br (Decidable.decide (x_8 < (↑qn0 : Int))) (.idx qa0 x_8 qn0 1 (fun a3 => .load a3 .str (fun s4 => .br (Decidable.decide (x_8 > 0)) (.idx qa0 (IntKind.i64.wrap (x_8 - 1)) qn0 1 (fun a5 => .load a5 .str (fun s6 => .call 26 #[.string s6] (.one (.leaf .bool)) (fun b7 => .br b7 (.call 26 #[.string s4] (.one (.leaf .bool)) (fun b8 => .br b8 (.call 27 #[.pointer (some ⟨n1,0,none⟩),.int .u8 32] (.one (.leaf .any)) (fun v9 => .call 28 #[.pointer (some ⟨n1,0,none⟩),.string s4] (.tup [.leaf (.int .i64),.leaf .any]) (fun r10 => .fin .normal [(8,.int .i64 (IntKind.i64.wrap (x_8 + 1)))]))) (.call 28 #[.pointer (some ⟨n1,0,none⟩),.string s4] (.tup [.leaf (.int .i64),.leaf .any]) (fun r11 => .fin .normal [(8,.int .i64 (IntKind.i64.wrap (x_8 + 1)))])))) (.call 28 #[.pointer (some ⟨n1,0,none⟩),.string s4] (.tup [.leaf (.int .i64),.leaf .any]) (fun r12 => .fin .normal [(8,.int .i64 (IntKind.i64.wrap (x_8 + 1)))])))))) (.call 28 #[.pointer (some ⟨n1,0,none⟩),.string s4] (.tup [.leaf (.int .i64),.leaf .any]) (fun r13 => .fin .normal [(8,.int .i64 (IntKind.i64.wrap (x_8 + 1)))]))))) (.fin (.exit 0) []) := by kernel_rfl
def s13 : Script := .lp 0 [0,2,3,6,7] [8] mx13_2 mr13_2 (.cl (.one (.leaf .str)) .nil) .nil
theorem t13 (qa0 : Option Addr) (qn0 : Nat) (qc0 : Nat) : fnT Tryz.prog Tryz.f13 #[.slice qa0 qn0 qc0] s13 = .new (.cells #[.pointer none,.slice none 0 0] 78 (0,0)) (fun n1 => .loop (at_ Tryz.f13 [1,1,0,1,0,0]) 32 (fx13_2 qa0 qn0 qc0 n1) [(8,.int .i64 0)] mx13_2 mr13_2 0 (fun u14 g14 => .call 29 #[.pointer (some ⟨n1,0,none⟩)] (.one (.leaf .str)) (fun s15 => .done (.returned (.string s15)))) (fun u16 g16 => .stuck)) := by kernel_rfl
/-! the tree of function 34 -/
def s34 : Script := .ld (.int .i64) (.ld (.int .i64) (.ld .str (.ld .sl .nil)))
theorem t34 (qs0 : ByteArray) : fnT Tryz.prog Tryz.f34 #[.string qs0] s34 = .new (.cells #[.int .i64 0,.int .i64 0,.string (bytesL []),.slice none 0 0] 94 (0,0)) (fun n1 => .store ⟨n1,0,none⟩ (.int .i64 2) (.store ⟨n1,1,none⟩ (.int .i64 0) (.store ⟨n1,2,none⟩ (.string qs0) (.store ⟨n1,3,none⟩ (.slice none 0 0) (.load ⟨n1,0,none⟩ (.int .i64) (fun x2 => .load ⟨n1,1,none⟩ (.int .i64) (fun x3 => .load ⟨n1,2,none⟩ .str (fun s4 => .load ⟨n1,3,none⟩ .sl (fun l5 => .done (.returned (.agg #[.int .i64 x2,.int .i64 x3,.string s4,.slice l5.1 l5.2.1 l5.2.2]))))))))))) := by kernel_rfl
theorem wordy_any (w : World) (t : Txt) : Calls Tryz.prog 26 #[.string (bytesL t)] w fun e w' => w' = w ∧ e = .returned (.bool (wordyB t)) := by
 refine calls_of_fnT mixed Tryz.func26 (s := s26) ?_
 rw [t26]
 simp only [tb_list]
 cases t with
 | nil => exact br_false rfl ⟨rfl,rfl⟩
 | cons c r =>
  refine br_true rfl (bi_i (by omega) (by rw [tb_size]; simp) ?_)
  have hc : (bytesL (c :: r))[(0 : Int).toNat]'(by rw [tb_size]; simp) = c := rfl
  rw [hc]
  unfold wordyB isL
  dsimp only
  refine br_both (fun e => bi_i (by omega) (by rw [tb_size]; simp) ?_) fun e => ⟨rfl,?_⟩
  ·rw [hc]
   have e := ge_t e
   rw [decide_eq_true (show 97 ≤ c.toNat by omega),Bool.true_and]
   refine ⟨rfl,?_⟩
   congr 2
   rw [decide_eq_decide]
   omega
  ·have e := ge_f e
   rw [decide_eq_false (show ¬ 97 ≤ c.toNat by omega),Bool.false_and]
theorem pls_len (l : Txt) : (l.flatMap pl1).length ≤ 4 * l.length := by
 induction l with
 | nil => simp
 | cons c r ih =>
  have : (pl1 c).length ≤ 4 := by
   unfold pl1 hex2
   split <;> simp
  rw [List.flatMap_cons,List.length_append,List.length_cons]
  omega
theorem plain3_any (w : World) (s : Txt) (hs : s.length ≤ 1000000) :
  Calls Tryz.prog 32 #[.string (bytesL s)] w fun e w' => Ch No w w' ∧ e = .returned (.string (bytesL (s.flatMap pl1))) := by
 refine calls_of_fnT mixed Tryz.func32 (s := s32) ?_
 rw [t32]
 have hsz : (bytesL s).size = s.length := tb_size s
 refine nw fun w1 h1 z1 b1 => ?_
 have Bd : Bld w.heap.size w1 w.heap.size none 0 0 [] := ⟨⟨none,.inl rfl,b1⟩,Row.nil _ _ _ _,Nat.le_refl _⟩
 refine loop_i mixed m32_2 s32_2 (by kernel_rfl) (by kernel_rfl)
  (fun (v : Int × Unit) w' => ∃ (i : Nat) (q : Option Addr) (n c : Nat),v.1 = (i : Nat) ∧ i ≤ s.length ∧ GrewW w.heap.size w.heap.size w1 none 0 0 w' q n c ((s.take i).flatMap pl1))
  (fun (v : Int × Unit) _ => s.length - v.1.toNat) (0,()) rfl ⟨0,none,0,0,rfl,by omega,GrewW.refl Bd⟩ ?_
 rintro ⟨_,⟨⟩⟩ g w2 ⟨i,q,n,c,rfl,hi,G2⟩
 rw [t32_2]
 dsimp only
 have hn := G2.bld.len
 have hql := pls_len (s.take i)
 rw [List.length_take] at hql
 have hz2 := G2.ch.size
 refine br_both (fun e => ?_) fun e => ?_
 ·have e := lt_t e
  rw [hsz] at e
  have hlt : i < s.length := by omega
  obtain ⟨ch,hch⟩ : ∃ ch,ch = s[i]'hlt := ⟨_,rfl⟩
  have htk : s.take (i + 1) = s.take i ++ [ch] := by rw [List.take_add_one,List.getElem?_eq_getElem hlt,hch]; rfl
  have hlt8 := ch.toNat_lt
  have fin : ∀ (q' : Option Addr) (m c' : Nat) (w' : World),GrewW w.heap.size w.heap.size w2 q n c w' q' m c' ((s.take i).flatMap pl1 ++ pl1 ch) →
    ∃ v : MVars m32_2,[((8 : Tmp),Value.int .i64 (IntKind.i64.wrap ((i : Int) + 1)))] = mvals m32_2 v ∧ ((∃ (i : Nat) (q : Option Addr) (n c : Nat),v.1 = (i : Nat) ∧ i ≤ s.length ∧ GrewW w.heap.size w.heap.size w1 none 0 0 w' q n c ((s.take i).flatMap pl1)) ∧ s.length - v.1.toNat < s.length - ((i : Nat) : Int).toNat) := fun q' m c' w' hg => by
   refine ⟨((i : Int) + 1,()),by rw [wrap_succ (by omega) (by omega)]; rfl,⟨i + 1,q',m,c',rfl,by omega,?_⟩,?_⟩
   ·rw [htk,List.flatMap_append]
    simpa using GrewW.trans Bd G2 hg
   ·show s.length - ((i : Int) + 1).toNat < s.length - ((i : Nat) : Int).toNat
    omega
  refine bi_i (by omega) (by rw [Int.toNat_natCast,hsz]; exact hlt) ?_
  rw [show (bytesL s)[((i : Nat) : Int).toNat]'(by rw [Int.toNat_natCast,hsz]; exact hlt) = ch from hch.symm]
  refine br_both (fun e => ?_) fun e => ?_
  ·have e := ge_t e
   have hp : pl1 ch = hex2 ch := by unfold pl1; rw [if_pos (by omega)]
   rw [hp] at fin
   refine cl_i (writeString_any w.heap.size w.heap.size w2 q n c _ (bytesL [92,120]) G2.bld (by omega) (by show n + 2 ≤ _; omega)) ?_
   rintro e w3 ⟨rfl,q3,n3,c3,g3⟩
   have hn3 := g3.bld.len
   rw [List.length_append,tb_data] at hn3
   simp only [List.length_cons,List.length_nil] at hn3
   have hz3 := g3.ch.size
   refine ⟨((2 : Int),.nilIface,()),rfl,?_⟩
   refine hex_i (ch.toNat / 16) (hi4 ch) (by omega) ?_
   refine cl_i (writeByte_any w.heap.size w.heap.size w3 q3 n3 c3 _ (hexL (ch.toNat / 16)) g3.bld (by omega) (by omega)) ?_
   rintro e w4 ⟨rfl,q4,n4,c4,g4⟩
   have hn4 := g4.bld.len
   rw [List.length_append,List.length_append,tb_data] at hn4
   simp only [List.length_cons,List.length_nil] at hn4
   have hz4 := g4.ch.size
   refine ⟨.nilIface,rfl,hex_i (ch.toNat % 16) (lo4 ch) (by omega) ?_⟩
   refine cl_i (writeByte_any w.heap.size w.heap.size w4 q4 n4 c4 _ (hexL (ch.toNat % 16)) g4.bld (by omega) (by omega)) ?_
   rintro e w5 ⟨rfl,q5,n5,c5,g5⟩
   refine ⟨.nilIface,rfl,fin q5 n5 c5 w5 ?_⟩
   have := GrewW.trans G2.bld g3 (GrewW.trans g3.bld g4 g5)
   rw [tb_data] at this
   simpa [hex2] using this
  ·have e := ge_f e
   have hp : pl1 ch = [ch] := by unfold pl1; rw [if_neg (by omega)]
   rw [hp] at fin
   refine cl_i (writeByte_any w.heap.size w.heap.size w2 q n c _ ch G2.bld (by omega) (by omega)) ?_
   rintro e w3 ⟨rfl,q3,n3,c3,g3⟩
   exact ⟨.nilIface,rfl,fin q3 n3 c3 w3 g3⟩
 ·have e := lt_f e
  rw [hsz] at e
  obtain rfl : i = s.length := by omega
  refine ⟨rfl,(),rfl,fun g => ?_⟩
  refine cl_i (string_any w.heap.size w.heap.size w2 q n c _ G2.bld (by omega)) ?_
  rintro e w3 ⟨rfl,hbel⟩
  refine ⟨_,rfl,?_,?_⟩
  ·have h2 := G2.below Bd
   have h3 : Ch (w.heap.size ≤ ·) w2 w3 := ⟨hbel.os,hbel.tape,hbel.output,hbel.size,fun k hk hn => hbel.block k (by omega)⟩
   exact (h1.then_ h2 (fun k hk (h : _ ≤ k) => by omega)).then_ h3 (fun k hk (h : _ ≤ k) => by omega)
  ·rw [List.take_of_length_le (by omega)]
/-! ### Tokens -/
abbrev tStrs : TypeId := 22
def cellT (t : Txt) : Value := .string (bytesL t)
/-- Tokens that stand somewhere. -/
def AtT (w : World) (p : Option Addr) (n : Nat) (l : List Txt) : Prop := l.length = n ∧ (0 < n → ∃ g,p = some ⟨g,0,none⟩ ∧ ∀ (j : Nat) (u : Value),(l.map cellT)[j]? = some u → w.cell? ⟨g,j,none⟩ = some u)
def sumT (l : List Txt) : Nat := (l.map fun t => t.length + 1).sum
theorem sumT_cons (t : Txt) (l : List Txt) : sumT (t :: l) = t.length + 1 + sumT l := rfl
theorem sumT_app (a b : List Txt) : sumT (a ++ b) = sumT a + sumT b := by unfold sumT; rw [List.map_append,List.sum_append]
theorem sumT_len (a : List Txt) : a.length ≤ sumT a := by
 induction a with
 | nil => exact Nat.zero_le _
 | cons p r ih => rw [sumT_cons,List.length_cons]; omega
theorem joinF_len : ∀ (p : Bool) (l : List Txt),(joinF p l).length ≤ sumT l
 | _,[] => Nat.zero_le _
 | p,t :: r => by
  have := joinF_len (wordyB t) r
  rw [joinF,sumT_cons,List.length_append,List.length_append]
  split
  ·simp only [List.length_singleton]; omega
  ·simp only [List.length_nil]; omega
theorem joinF_step (l : List Txt) (i : Nat) (t : Txt) (h : l[i]? = some t) : joinB (l.take (i + 1)) = joinB (l.take i) ++ ((if (lastW false (l.take i) && wordyB t) = true then [32] else []) ++ t) := by
 have hs : l.take (i + 1) = l.take i ++ [t] := by rw [List.take_add_one,h]; rfl
 unfold joinB
 rw [hs,joinF_app]
 simp [joinF]
theorem lastW_last (l : List Txt) (i : Nat) (t : Txt) (h : l[i]? = some t) : lastW false (l.take (i + 1)) = wordyB t := by
 have hs : l.take (i + 1) = l.take i ++ [t] := by rw [List.take_add_one,h]; rfl
 rw [hs]
 have : ∀ (m : List Txt) (p : Bool),lastW p (m ++ [t]) = wordyB t := fun m => by
  induction m with
  | nil => intro p; rfl
  | cons x r ih => intro p; exact ih _
 exact this _ _
theorem joined_any (w : World) (p : Option Addr) (n c : Nat) (l : List Txt) (h : AtT w p n l) (hs : sumT l ≤ 1000000) :
  Calls Tryz.prog 13 #[.slice p n c] w fun e w' => Ch No w w' ∧ e = .returned (.string (bytesL (joinB l))) := by
 refine calls_of_fnT mixed Tryz.func13 (s := s13) ?_
 rw [t13]
 have hn := h.1
 have hsl := sumT_len l
 refine nw fun w1 h1 z1 b1 => ?_
 have Bd : Bld w.heap.size w1 w.heap.size none 0 0 [] := ⟨⟨none,.inl rfl,b1⟩,Row.nil _ _ _ _,Nat.le_refl _⟩
 refine loop_i mixed m13_2 s13_2 (by kernel_rfl) (by kernel_rfl)
  (fun (v : Int × Unit) w' => ∃ (i : Nat) (q : Option Addr) (m c : Nat),v.1 = (i : Nat) ∧ i ≤ n ∧ GrewW w.heap.size w.heap.size w1 none 0 0 w' q m c (joinB (l.take i)))
  (fun (v : Int × Unit) _ => n - v.1.toNat) (0,()) rfl ⟨0,none,0,0,rfl,by omega,GrewW.refl Bd⟩ ?_
 rintro ⟨_,⟨⟩⟩ g w2 ⟨i,q,m,c2,rfl,hi,G2⟩
 rw [t13_2]
 dsimp only
 have hm := G2.bld.len
 have hjl : (joinB (l.take i)).length ≤ sumT l := by
  have h1 := joinF_len false (l.take i)
  have h2 := sumT_app (l.take i) (l.drop i)
  rw [List.take_append_drop] at h2
  have h3 : (joinB (l.take i)).length ≤ sumT (l.take i) := h1
  omega
 have hz2 := G2.ch.size
 have h02 : Ch No w w2 := h1.then_ (G2.below Bd) (fun k hk (h : _ ≤ k) => by omega)
 refine br_both (fun e => ?_) fun e => ?_
 ·have e := lt_t e
  obtain ⟨t,ht⟩ : ∃ t,l[i]? = some t := ⟨_,List.getElem?_eq_getElem (by omega)⟩
  obtain ⟨gp,rfl,hcp⟩ := h.2 (by omega)
  have hst := joinF_step l i t ht
  have htl : t.length ≤ sumT l := by
   have h1 := joinF_len false (l.take (i + 1))
   have h2 := sumT_app (l.take (i + 1)) (l.drop (i + 1))
   rw [List.take_append_drop] at h2
   have h3 : (joinB (l.take (i + 1))).length ≤ sumT (l.take (i + 1)) := h1
   rw [hst,List.length_append,List.length_append] at h3
   omega
  have cell : ∀ j t',l[j]? = some t' → w2.cell? ⟨gp,0 + j * 1,none⟩ = some (.string (bytesL t')) := fun j t' hj => h02.cellv (by rw [Nat.zero_add,Nat.mul_one]; exact hcp _ _ (by rw [List.getElem?_map,hj]; rfl)) (fun h => h)
  have fin : ∀ (q' : Option Addr) (m' c' : Nat) (w' : World),GrewW w.heap.size w.heap.size w2 q m c2 w' q' m' c' (joinB (l.take i) ++ ((if (lastW false (l.take i) && wordyB t) = true then [32] else []) ++ t)) →
    ∃ v : MVars m13_2,[((8 : Tmp),Value.int .i64 (IntKind.i64.wrap ((i : Int) + 1)))] = mvals m13_2 v ∧ ((∃ (i : Nat) (q : Option Addr) (m c : Nat),v.1 = (i : Nat) ∧ i ≤ n ∧ GrewW w.heap.size w.heap.size w1 none 0 0 w' q m c (joinB (l.take i))) ∧ n - v.1.toNat < n - ((i : Nat) : Int).toNat) := fun q' m' c' w' hg => by
   refine ⟨((i : Int) + 1,()),by rw [wrap_succ (by omega) (by omega)]; rfl,⟨i + 1,q',m',c',rfl,by omega,?_⟩,?_⟩
   ·rw [hst]
    exact GrewW.trans Bd G2 hg
   ·show n - ((i : Int) + 1).toNat < n - ((i : Nat) : Int).toNat
    omega
  refine ix_i (by omega) (by omega) ?_
  rw [Int.toNat_natCast,addr_add]
  refine ld_str (cell i t ht) ?_
  have wr : (lastW false (l.take i) && wordyB t) = false → ∀ (e : Ending) (w' : World),(e = .returned (.tuple #[.int .i64 (bytesL t).size,.nilIface]) ∧ ∃ q' m' d,GrewW w.heap.size w.heap.size w2 q m c2 w' q' m' d (joinB (l.take i) ++ (bytesL t).data.toList)) →
    e = .returned (.tuple #[.int .i64 (bytesL t).size,.nilIface]) ∧ ∃ q' m' c',GrewW w.heap.size w.heap.size w2 q m c2 w' q' m' c' (joinB (l.take i) ++ ((if (lastW false (l.take i) && wordyB t) = true then [32] else []) ++ t)) := fun hf e w' hx => by
   rw [hf,if_neg (by decide),List.nil_append]
   exact hx
  have wstr := writeString_any w.heap.size w.heap.size w2 q m c2 _ (bytesL t) G2.bld (by omega) (by rw [tb_size t]; omega)
  refine br_both (fun e2 => ?_) fun e2 => ?_
  ·have e2 := gt_t e2
   obtain ⟨i',rfl⟩ : ∃ i',i = i' + 1 := ⟨i - 1,by omega⟩
   obtain ⟨t',ht'⟩ : ∃ t',l[i']? = some t' := ⟨_,List.getElem?_eq_getElem (by omega)⟩
   have hlw := lastW_last l i' t' ht'
   rw [hlw] at fin wr
   rw [show IntKind.i64.wrap (((i' + 1 : Nat) : Int) - 1) = ((i' : Nat) : Int) by rw [wrap_in (by omega) (by omega)]; omega]
   refine ix_i (by omega) (by omega) ?_
   rw [Int.toNat_natCast,addr_add]
   refine ld_str (cell i' t' ht') (cl_i (wordy_any w2 t') ?_)
   rintro e w3 ⟨rfl,rfl⟩
   refine ⟨_,rfl,br_both (fun e3 => ?_) fun e3 => ?_⟩
   ·have e3 : wordyB t' = true := e3
    refine cl_i (wordy_any w3 t) ?_
    rintro e w4 ⟨rfl,rfl⟩
    refine ⟨_,rfl,br_both (fun e4 => ?_) fun e4 => ?_⟩
    ·have e4 : wordyB t = true := e4
     rw [e3,e4] at fin
     refine cl_i (writeByte_any w.heap.size w.heap.size w4 q m c2 _ 32 G2.bld (by omega) (by omega)) ?_
     rintro e w5 ⟨rfl,q5,n5,c5,g5⟩
     have hn5 := g5.bld.len
     rw [List.length_append,List.length_singleton] at hn5
     have hz5 := g5.ch.size
     refine ⟨_,rfl,cl_i (writeString_any w.heap.size w.heap.size w5 q5 n5 c5 _ (bytesL t) g5.bld (by omega) (by rw [tb_size t]; omega)) ?_⟩
     rintro e w6 ⟨rfl,q6,n6,c6,g6⟩
     refine ⟨(_,_,()),rfl,fin q6 n6 c6 w6 ?_⟩
     have := GrewW.trans G2.bld g5 g6
     rw [tb_data,List.append_assoc] at this
     exact this
    ·have e4 : wordyB t = false := e4
     refine cl_i wstr ?_
     rintro e w5 hx
     obtain ⟨rfl,q',m',c',hg⟩ := wr (by rw [e4,Bool.and_false]) e w5 hx
     exact ⟨(_,_,()),rfl,fin q' m' c' w5 hg⟩
   ·have e3 : wordyB t' = false := e3
    refine cl_i wstr ?_
    rintro e w5 hx
    obtain ⟨rfl,q',m',c',hg⟩ := wr (by rw [e3,Bool.false_and]) e w5 hx
    exact ⟨(_,_,()),rfl,fin q' m' c' w5 hg⟩
  ·have e2 := gt_f e2
   obtain rfl : i = 0 := by omega
   refine cl_i wstr ?_
   rintro e w5 hx
   obtain ⟨rfl,q',m',c',hg⟩ := wr (by rfl) e w5 hx
   exact ⟨(_,_,()),rfl,fin q' m' c' w5 hg⟩
 ·have e := lt_f e
  obtain rfl : i = n := by omega
  refine ⟨rfl,(),rfl,fun g => ?_⟩
  refine cl_i (string_any w.heap.size w.heap.size w2 q m c2 _ G2.bld (by omega)) ?_
  rintro e w3 ⟨rfl,hbel⟩
  refine ⟨_,rfl,?_,?_⟩
  ·have h3 : Ch (w.heap.size ≤ ·) w2 w3 := ⟨hbel.os,hbel.tape,hbel.output,hbel.size,fun k hk hn => hbel.block k (by omega)⟩
   exact h02.then_ h3 (fun k hk (h : _ ≤ k) => by omega)
  ·rw [List.take_of_length_le (by omega)]
theorem ofText_any (w : World) (t : ByteArray) : Calls Tryz.prog 34 #[.string t] w fun e w' => Ch No w w' ∧ e = .returned (valV (.mk 2 0 t []) none 0 0) := by
 refine calls_of_fnT mixed Tryz.func34 (s := s34) ?_
 rw [t34]
 refine nw fun w1 h1 z1 n1 => ?_
 refine st_blk n1 (by simp) rfl fun w2 h2 z2 n2 => st_blk n2 (by simp) rfl fun w3 h3 z3 n3 => st_blk n3 (by simp) rfl fun w4 h4 z4 n4 => st_blk n4 (by simp) rfl fun w5 h5 z5 n5 => ?_
 refine ld_int (n5.cell 0) (ld_int (n5.cell 1) (ld_str (n5.cell 2) (ld_sl (n5.cell 3) ⟨?_,rfl⟩)))
 exact h1.then_ (h2.trans (h3.trans (h4.trans h5))) (fun k hk (e : k = w.heap.size) => by omega)
end Go.Proofs.YtmdmomccibpjbaaGreatDoor.E
