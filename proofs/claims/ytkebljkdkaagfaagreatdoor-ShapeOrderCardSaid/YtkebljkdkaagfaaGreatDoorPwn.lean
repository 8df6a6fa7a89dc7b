/- A whole text is read: parse, Check. -/
import Derived.Test.YtkebljkdkaagfaaGreatDoorPwm
namespace Go.Proofs.YtkebljkdkaagfaaGreatDoor.E
open Go Tr
open V (rest rest_cases restL sizeB pk_rest cx_i cp_i extract_list)
set_option maxRecDepth 100000
set_option maxHeartbeats 4000000
/-! the tree of function 46 -/
def s46 : Script := .sym (.clx .nil) (.clp (.one (.leaf .ifc)) (.clp (.one (.agg [.int .i64, .int .i64, .str, .int .i64])) (.ld (.int .i64) (.sym (.ld (.int .i64) (.clx .nil)) (.ld .ifc .nil))) .nil) .nil)
theorem t46 (qs0 : ByteArray) : defT Tryz.prog Tryz.f46 #[.string qs0] s46 = .new (.cells #[.nilIface] 89 (0, 0)) (fun n1 => .new (.cells #[.nilIface] 84 (0, 0)) (fun n2 => .mark (.br (Decidable.decide ((↑qs0.size : Int) > 100)) (.callx 48 #[.int .i64 30, .int .i64 0] (fun ch3 => .fin (.panic ch3) [(0, .func (.func 47) #[] #[.pointer (some ⟨n1, 0, none⟩), .pointer (some ⟨n2, 0, none⟩)]), (1, .agg #[]), (2, .agg #[.string qs0, undef, .pointer (some ⟨n1, 0, none⟩), .pointer (some ⟨n2, 0, none⟩), undef, undef, .func (.func 47) #[] #[.pointer (some ⟨n1, 0, none⟩), .pointer (some ⟨n2, 0, none⟩)], .string qs0, .int .i64 (↑qs0.size : Int), .bool true, undef, undef, undef, undef, undef, undef, undef, undef, undef, undef, undef, undef, undef, undef, undef])])) (.new (.cells #[.string qs0, .int .i64 0, .int .i64 0, .int .i64 0, .string (bytesL []), .int .i64 0, .bool false, .int .i64 0] 99 (0, 0)) (fun n4 => .callp 49 #[.pointer (some ⟨n4, 0, none⟩)] (.one (.leaf .ifc)) (fun i5 => .store ⟨n1, 0, none⟩ (.iface i5.1 i5.2) (.callp 50 #[.pointer (some ⟨n4, 0, none⟩)] (.one (.agg [.int .i64, .int .i64, .str, .int .i64])) (fun r6 => .new (.cells #[.int .i64 0, .int .i64 0, .string (bytesL []), .int .i64 0] 97 (0, 0)) (fun n7 => .store ⟨n7, 0, none⟩ (.int .i64 r6.1) (.store ⟨n7, 1, none⟩ (.int .i64 r6.2.1) (.store ⟨n7, 2, none⟩ (.string r6.2.2.1) (.store ⟨n7, 3, none⟩ (.int .i64 r6.2.2.2.1) (.load ⟨n7, 0, none⟩ (.int .i64) (fun x8 => .br (x8 != 0) (.load ⟨n7, 1, none⟩ (.int .i64) (fun x9 => .callx 48 #[.int .i64 36, .int .i64 x9] (fun ch10 => .fin (.panic ch10) [(0, .func (.func 47) #[] #[.pointer (some ⟨n1, 0, none⟩), .pointer (some ⟨n2, 0, none⟩)]), (1, .agg #[]), (2, .agg #[.string qs0, undef, .pointer (some ⟨n1, 0, none⟩), .pointer (some ⟨n2, 0, none⟩), .pointer (some ⟨n4, 0, none⟩), .pointer (some ⟨n7, 0, none⟩), .func (.func 47) #[] #[.pointer (some ⟨n1, 0, none⟩), .pointer (some ⟨n2, 0, none⟩)], .string qs0, .int .i64 (↑qs0.size : Int), .bool false, undef, .string qs0, .agg #[.string qs0, .int .i64 0, .int .i64 0, .int .i64 0, .string (bytesL []), .int .i64 0, .bool false, .int .i64 0], .pointer (some ⟨n4, 0, none⟩), .pointer (some ⟨n4, 0, none⟩), .iface i5.1 i5.2, .pointer (some ⟨n4, 0, none⟩), .agg #[.int .i64 r6.1, .int .i64 r6.2.1, .string r6.2.2.1, .int .i64 r6.2.2.2.1], .pointer (some ⟨n7, 0, none⟩), .int .i64 x8, .bool true, .pointer (some ⟨n7, 1, none⟩), .int .i64 x9, undef, undef])]))) (.load ⟨n1, 0, none⟩ .ifc (fun i11 => .store ⟨n1, 0, none⟩ (.iface i11.1 i11.2) (.store ⟨n2, 0, none⟩ .nilIface (.fin .ret [(0, .func (.func 47) #[] #[.pointer (some ⟨n1, 0, none⟩), .pointer (some ⟨n2, 0, none⟩)]), (1, .agg #[]), (2, .agg #[.string qs0, undef, .pointer (some ⟨n1, 0, none⟩), .pointer (some ⟨n2, 0, none⟩), .pointer (some ⟨n4, 0, none⟩), .pointer (some ⟨n7, 0, none⟩), .func (.func 47) #[] #[.pointer (some ⟨n1, 0, none⟩), .pointer (some ⟨n2, 0, none⟩)], .string qs0, .int .i64 (↑qs0.size : Int), .bool false, undef, .string qs0, .agg #[.string qs0, .int .i64 0, .int .i64 0, .int .i64 0, .string (bytesL []), .int .i64 0, .bool false, .int .i64 0], .pointer (some ⟨n4, 0, none⟩), .pointer (some ⟨n4, 0, none⟩), .iface i5.1 i5.2, .pointer (some ⟨n4, 0, none⟩), .agg #[.int .i64 r6.1, .int .i64 r6.2.1, .string r6.2.2.1, .int .i64 r6.2.2.2.1], .pointer (some ⟨n7, 0, none⟩), .int .i64 x8, .bool false, undef, undef, undef, .iface i11.1 i11.2])]))))))))))) (fun ch12 => .fin (.panic ch12) [(0, .func (.func 47) #[] #[.pointer (some ⟨n1, 0, none⟩), .pointer (some ⟨n2, 0, none⟩)]), (1, .agg #[]), (2, .agg #[.string qs0, undef, .pointer (some ⟨n1, 0, none⟩), .pointer (some ⟨n2, 0, none⟩), .pointer (some ⟨n4, 0, none⟩), undef, .func (.func 47) #[] #[.pointer (some ⟨n1, 0, none⟩), .pointer (some ⟨n2, 0, none⟩)], .string qs0, .int .i64 (↑qs0.size : Int), .bool false, undef, .string qs0, .agg #[.string qs0, .int .i64 0, .int .i64 0, .int .i64 0, .string (bytesL []), .int .i64 0, .bool false, .int .i64 0], .pointer (some ⟨n4, 0, none⟩), .pointer (some ⟨n4, 0, none⟩), .iface i5.1 i5.2, .pointer (some ⟨n4, 0, none⟩), undef, undef, undef, undef, undef, undef, undef, undef])]))) (fun ch13 => .fin (.panic ch13) [(0, .func (.func 47) #[] #[.pointer (some ⟨n1, 0, none⟩), .pointer (some ⟨n2, 0, none⟩)]), (1, .agg #[]), (2, .agg #[.string qs0, undef, .pointer (some ⟨n1, 0, none⟩), .pointer (some ⟨n2, 0, none⟩), .pointer (some ⟨n4, 0, none⟩), undef, .func (.func 47) #[] #[.pointer (some ⟨n1, 0, none⟩), .pointer (some ⟨n2, 0, none⟩)], .string qs0, .int .i64 (↑qs0.size : Int), .bool false, undef, .string qs0, .agg #[.string qs0, .int .i64 0, .int .i64 0, .int .i64 0, .string (bytesL []), .int .i64 0, .bool false, .int .i64 0], .pointer (some ⟨n4, 0, none⟩), .pointer (some ⟨n4, 0, none⟩), undef, undef, undef, undef, undef, undef, undef, undef, undef, undef])])))))) := by kernel_rfl
/-! the tree of function 43 -/
def s43 : Script := .cl (.tup [.leaf .any, .leaf .any]) .nil
theorem t43 (qs0 : ByteArray) : fnT Tryz.prog Tryz.f43 #[.string qs0] s43 = .call 46 #[.string qs0] (.tup [.leaf .any, .leaf .any]) (fun r1 => .done (.returned r1.snd.1)) := by kernel_rfl
theorem resE (n1 n2 : Nat) (tm : Array Value) (h2 : tm[2]? = some (.pointer (some ⟨n1, 0, none⟩))) (h3 : tm[3]? = some (.pointer (some ⟨n2, 0, none⟩))) (w : World) (v1 v2 : Value) (b1 : Blk w n1 [v1] tNode) (b2 : Blk w n2 [v2] 84) :
    (results Tryz.f46 tm).run Tryz.prog w = .ok (.tuple #[v1, v2]) w := by
  have c0 : w.cell? ⟨n1, 0, none⟩ = some v1 := b1.cell 0
  have d0 : w.cell? ⟨n2, 0, none⟩ = some v2 := b2.cell 0
  simp [results, Tryz.results46, go_sem, h2, h3, c0, d0]
/-- A whole text's answer. -/
def ParseA (w : World) (l : Txt) (e : Ending) (w' : World) : Prop := Ch No w w' ∧ match parseE l with
  | .error c => ∃ fb, w.heap.size ≤ fb ∧ e = .returned (.tuple #[.nilIface, fltV fb]) ∧ Blk w' fb [.int .i64 0, .int .i64 (c.2 : Nat), .iface tErrno (.int .i64 (c.1 : Nat))] tFault
  | .ok n => ∃ y : TypeId × Value, e = .returned (.tuple #[.iface y.1 y.2, .nilIface]) ∧ relN w n (.iface y.1 y.2) w'
theorem parse_any (w : World) (s : ByteArray) (hG : GlE w) : Calls Tryz.prog 46 #[.string s] w (ParseA w s.data.toList) := by
  refine calls_of_defT mixed Tryz.func46 (s := s46) ?_
  rw [t46]
  refine nw fun w1 h1 z1 b1 => nw fun w2 h2 z2 b2 => ?_
  show wpT _ _ _ _ .pl w2
  have hgb := hG.big
  have h02 : Ch No w w2 := h1.trans h2
  replace b1 := b1.ch h2 (fun h => h)
  generalize hn1 : w.heap.size = n1 at *
  generalize hn2 : w1.heap.size = n2 at *
  have h12 : n1 ≠ n2 := by omega
  -- a fault goes through the deferred closure
  have refuse : ∀ (RR : Ending → World → Prop) (fb : Nat) (c a : Int) (tm : Array Value) (w8 : World) (v1 v2 : Value), (∀ w', Ch No w w' → Blk w' fb [.int .i64 0, .int .i64 a, .iface tErrno (.int .i64 c)] tFault → RR (.returned (.tuple #[.nilIface, fltV fb])) w') → Ch (fun k => k = n1) w2 w8 → tm[2]? = some (.pointer (some ⟨n1, 0, none⟩)) → tm[3]? = some (.pointer (some ⟨n2, 0, none⟩)) → Blk w8 n1 [v1] tNode → Blk w8 n2 [v2] 84 → w2.heap.size ≤ fb → Blk w8 fb [.int .i64 0, .int .i64 a, .iface tErrno (.int .i64 c)] tFault →
      Leaves Tryz.prog Tryz.f46 tm RR [{ target := .fn (.func 47) #[.pointer (some ⟨n1, 0, none⟩), .pointer (some ⟨n2, 0, none⟩)], args := #[] }] (.panicking [⟨fltV fb, false, false⟩]) w8 := by
    intro RR fb c a tm w8 v1 v2 hRR h8 t2 t3 C1 C2 hfb F
    refine leaves_cons (f := 47) (args := #[.pointer (some ⟨n1, 0, none⟩), .pointer (some ⟨n2, 0, none⟩)]) (by simp) (by simp [go_sem]) ?_
    refine (closE_pan n1 n2 fb w8 h12 v1 v2 C1 C2).mono ?_
    rintro e u' w9 ⟨rfl, rfl, h9, c1, c2⟩
    show Leaves _ _ _ _ _ (settle _) _
    refine ⟨_, resE n1 n2 _ t2 t3 w9 _ _ c1 c2, hRR w9 ?_ (F.ch h9 (fun h => by omega))⟩
    exact (h02.then_ h8 (fun i hi (e : i = n1) => by omega)).then_ h9 (fun i hi h => by omega)
  have hll : s.data.toList.length = s.size := sizeB s
  refine br_both (fun e => ?_) fun e => ?_
  · have e : (100 : Int) < (s.size : Int) := gt_t e
    refine cx_i (giveUp_any _ _ w2) ?_
    rintro r w3 ⟨h3, fb, f1, rfl, f3⟩
    refine ⟨_, rfl, ?_⟩
    refine ⟨_, _, _, _, rfl, ?_⟩
    dsimp only
    have hpe : parseE s.data.toList = .error (30, 0) := by unfold parseE; rw [if_pos (by omega)]
    refine refuse _ fb 30 0 _ w3 _ _ (fun w' hc F => ?_) h3.no rfl rfl (b1.ch h3 (fun h => h)) (b2.ch h3 (fun h => h)) f1 f3
    refine ⟨hc, ?_⟩
    rw [hpe]
    exact ⟨fb, by omega, rfl, F⟩
  have e : (s.size : Int) ≤ 100 := gt_f e
  have hs : s.size ≤ 100 := by omega
  refine nw fun w3 h3 z3 b3 => ?_
  have b1' := b1.ch h3 (fun h => h)
  have b2' := b2.ch h3 (fun h => h)
  generalize hn4 : w2.heap.size = n4 at *
  have P3 : PsS w3 n4 s ⟨s.data.toList, none, 0⟩ := ⟨⟨0, ⟨0, 0, bytesL [], 0, false, 0⟩, Nat.zero_le _, b3, rfl, rfl, rfl, fun t h => by cases h⟩, by show 0 ≤ 10; omega⟩
  have h03 : Ch No w w3 := h02.trans h3
  have B3 : Beg w3 n4 s .expr ⟨s.data.toList, none, 0⟩ := ⟨P3, hG.no h03, by omega, hs, fun i h => by cases h⟩
  have hne := prs_whole s.data.toList
  rw [hll] at hne
  have hpe : parseE s.data.toList = match prs s.size (12 * s.size + 13) .expr ⟨s.data.toList, none, 0⟩ with
      | .error e => .error e
      | .ok (n, st) => match peekB s.size st with
        | .error e => .error e
        | .ok (t, _) => if t.kind = 0 then .ok n else .error (36, t.at_) := by 
    unfold parseE
    rw [if_neg (by omega), hll]
    rfl
  -- how a fault ends
  have bad : ∀ (fb : Nat) (c : Er) (tm : Array Value) (w8 : World) (v1 v2 : Value), parseE s.data.toList = .error c → Ch (fun k => k = n1 ∨ k = n4) w3 w8 → tm[2]? = some (.pointer (some ⟨n1, 0, none⟩)) → tm[3]? = some (.pointer (some ⟨n2, 0, none⟩)) → Blk w8 n1 [v1] tNode → Blk w8 n2 [v2] 84 → w3.heap.size ≤ fb → Blk w8 fb [.int .i64 0, .int .i64 (c.2 : Nat), .iface tErrno (.int .i64 (c.1 : Nat))] tFault →
      Leaves Tryz.prog Tryz.f46 tm (ParseA w s.data.toList) [{ target := .fn (.func 47) #[.pointer (some ⟨n1, 0, none⟩), .pointer (some ⟨n2, 0, none⟩)], args := #[] }] (.panicking [⟨fltV fb, false, false⟩]) w8 := by
    intro fb c tm w8 v1 v2 hc h8 t2 t3 C1 C2 hfb F
    refine refuse _ fb (c.1 : Nat) (c.2 : Nat) tm w8 v1 v2 (fun w' hcc F => ?_) ((h3.no : Ch (fun k => k = n1) w2 w3).then_ h8 (fun i hi h => by rcases h with h | h; exact h; omega)) t2 t3 C1 C2 (by omega) F
    refine ⟨hcc, ?_⟩
    rw [hc]
    exact ⟨fb, by omega, rfl, F⟩
  have hlt3 : n2 < n4 := by have := b2.lt; omega
  refine cp_i (lv_ok s (12 * s.size + 13) .expr w3 n4 _ B3 hne) ?_
  rintro e w4 ⟨h4, hx⟩
  have c1 := b1'.ch h4 (fun e : n1 = n4 => by omega)
  have c2 := b2'.ch h4 (fun e : n2 = n4 => by omega)
  cases hq : prs s.size (12 * s.size + 13) .expr ⟨s.data.toList, none, 0⟩ with
  | error c =>
    rw [hq] at hx hpe
    have hx' : Thrown w3 w4 e (c.1 : Nat) (c.2 : Nat) := hx
    obtain ⟨fb, f1, rfl, f3⟩ := hx'
    refine .inr ⟨_, rfl, ⟨_, _, _, _, rfl, bad fb c _ w4 _ _ hpe (h4.mono fun k h => .inr h) rfl rfl c1 c2 f1 f3⟩⟩
  | ok y =>
    obtain ⟨n, st4⟩ := y
    rw [hq] at hx hpe
    dsimp only at hpe
    obtain ⟨v, rfl, r4, P4⟩ := hx
    obtain ⟨y, rfl⟩ := IsN.ifc r4
    refine .inl ⟨y, rfl, ?_⟩
    refine st_blk c1 (by simp) rfl fun w5 h5 z5 d1 => ?_
    have d2 := c2.ch h5 (fun e : n2 = n1 => h12 e.symm)
    have P5 := P4.ch h5 (fun e : n4 = n1 => by omega)
    have h45 : Ch (fun k => k = n1 ∨ k = n4) w3 w5 := (h4.mono fun k h => .inr h).trans (h5.mono fun k h => .inl h)
    have H5 : Ch No w w5 := h03.then_ h45 (fun i hi h => by rcases h with h | h <;> omega)
    refine cp_i (peek_any w5 n4 s st4 P5 (hG.no H5) (by omega) hs) ?_
    rintro e w6 ⟨h6, hx6⟩
    have e1 := d1.ch h6 (fun e : n1 = n4 => by omega)
    have e2 := d2.ch h6 (fun e : n2 = n4 => by omega)
    have h36 : Ch (fun k => k = n1 ∨ k = n4) w3 w6 := h45.trans (h6.mono fun k h => .inr h)
    cases hp : peekB s.size st4 with
    | error c =>
      rw [hp] at hx6 hpe
      have hx' : Thrown w5 w6 e (c.1 : Nat) (c.2 : Nat) := hx6
      obtain ⟨fb, f1, rfl, f3⟩ := hx'
      refine .inr ⟨_, rfl, ⟨_, _, _, _, rfl, bad fb c _ w6 _ _ hpe h36 rfl rfl e1 e2 (Nat.le_trans h45.size f1) f3⟩⟩
    | ok z =>
      obtain ⟨t, st6⟩ := z
      rw [hp] at hx6 hpe
      obtain ⟨v, rfl, hv, P6⟩ := hx6
      obtain rfl : v = tokV t := hv
      refine .inl ⟨tokX t, rfl, tok_new fun n7 w7 h7 hn7 b7 => ?_⟩
      have h37 : Ch (fun k => k = n1 ∨ k = n4) w3 w7 := h36.trans h7.no
      refine ld_int (b7.cell 0) (br_both (fun e => ?_) fun e => ?_)
      · have e : ((t.kind : Nat) : Int) ≠ 0 := ne_t e
        dsimp only at hpe
        rw [if_neg (by omega)] at hpe
        refine ld_int (b7.cell 1) (cx_i (giveUp_any _ _ w7) ?_)
        rintro r w8 ⟨h8, fb, f1, rfl, f3⟩
        refine ⟨_, rfl, ⟨_, _, _, _, rfl, bad fb (36, t.at_) _ w8 _ _ hpe (h37.trans h8.no) rfl rfl ((e1.ch h7 (fun h => h)).ch h8 (fun h => h)) ((e2.ch h7 (fun h => h)).ch h8 (fun h => h)) (Nat.le_trans h37.size f1) f3⟩⟩
      · have e : ((t.kind : Nat) : Int) = 0 := ne_f e
        dsimp only at hpe
        rw [if_pos (by omega)] at hpe
        refine ⟨y, (e1.ch h7 (fun h => h)).cell 0, ?_⟩
        refine st_blk (e1.ch h7 (fun h => h)) (by simp) rfl fun w8 h8 z8 b8 => st_blk ((e2.ch h7 (fun h => h)).ch h8 (fun e : n2 = n1 => h12 e.symm)) (by simp) rfl fun w9 h9 z9 b9 => ?_
        have h39 : Ch (fun k => k = n1 ∨ k = n2 ∨ k = n4) w3 w9 := (h37.mono fun k h => by omega).trans ((h8.mono fun k (h : k = n1) => by omega).trans (h9.mono fun k (h : k = n2) => by omega))
        have h59 : Ch (fun k => k = n1 ∨ k = n2 ∨ k = n4) w4 w9 := ((h5.mono fun k (h : k = n1) => by omega).trans ((h6.mono fun k (h : k = n4) => by omega).trans h7.no)).trans ((h8.mono fun k (h : k = n1) => by omega).trans (h9.mono fun k (h : k = n2) => by omega))
        refine ⟨_, _, _, _, rfl, ?_⟩
        dsimp only
        refine leaves_cons (f := 47) (args := #[.pointer (some ⟨n1, 0, none⟩), .pointer (some ⟨n2, 0, none⟩)]) (by simp) (by simp [go_sem]) ?_
        refine (closE_idle n1 n2 w9).mono ?_
        rintro e u' w10 ⟨rfl, rfl, rfl⟩
        show Leaves _ _ _ _ _ (settle _) _
        refine ⟨_, resE n1 n2 _ rfl rfl w10 _ _ (b8.ch h9 (fun e : n1 = n2 => h12 e)) b9, h03.then_ h39 (fun i hi h => by omega), ?_⟩
        rw [hpe]
        exact ⟨y, rfl, r4.go (w0 := w) h03.size h59 (fun k hk h => by have := hk.1; omega)⟩
/-- Check: nil, or the fault. -/
theorem check_any (w : World) (s : ByteArray) (hG : GlE w) : Calls Tryz.prog 43 #[.string s] w fun e w' => Ch No w w' ∧ match parseE s.data.toList with
    | .error c => ∃ v, e = .returned v ∧ ErrAt w' v 0 (c.2 : Nat) (c.1 : Nat)
    | .ok _ => e = .returned .nilIface := by
  refine calls_of_fnT mixed Tryz.func43 (s := s43) ?_
  rw [t43]
  refine cl_i (parse_any w s hG) ?_
  rintro e w1 ⟨h1, hx⟩
  cases hq : parseE s.data.toList with
  | error c =>
    rw [hq] at hx
    obtain ⟨fb, f1, rfl, f3⟩ := hx
    exact ⟨(.nilIface, fltV fb, ()), rfl, h1, _, rfl, fb, rfl, f3⟩
  | ok n =>
    rw [hq] at hx
    obtain ⟨y, rfl, hr⟩ := hx
    exact ⟨(.iface y.1 y.2, .nilIface, ()), rfl, h1, rfl⟩
end Go.Proofs.YtkebljkdkaagfaaGreatDoor.E
