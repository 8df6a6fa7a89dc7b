/- A whole text: parse. -/
import Derived.Test.YtkebljkdkaagfaaGreatDoorPwk
import Derived.Test.YtkebljkdkaagfaaGreatDoorPwl
import Derived.Tactics
import Derived.Tactics2
import Derived.Laws.Pointers
namespace Go.Proofs.YtkebljkdkaagfaaGreatDoor.E
open Go Tr
open V (rest rest_cases restL sizeB pk_rest cx_i cp_i extract_list)
set_option maxRecDepth 100000
set_option maxHeartbeats 2000000
def fltV (fb : Nat) : Value := .iface tFaultP (.pointer (some ⟨fb, 0, none⟩))
theorem ta_flt (fb : Nat) (w : World) : (Instr.typeAssert (.iface tFaultP (.pointer (some ⟨fb, 0, none⟩))) 20 tFaultP true).run Tryz.prog w = .ok (.tuple #[.pointer (some ⟨fb, 0, none⟩), .bool true]) w := by kernel_rfl
theorem closE_pan (n1 n2 fb : Nat) (w : World) (hne : n1 ≠ n2) (v1 v2 : Value) (b1 : Blk w n1 [v1] tNode) (b2 : Blk w n2 [v2] 84) :
    CallsD Tryz.prog 47 #[.pointer (some ⟨n1, 0, none⟩), .pointer (some ⟨n2, 0, none⟩)] (.panicking [⟨fltV fb, false, false⟩]) w fun e u' w' => e = .returned (.tuple #[]) ∧ u' = .panicking [{ v := fltV fb, recovered := true }] ∧ Ch (fun k => k = n1 ∨ k = n2) w w' ∧ Blk w' n1 [.nilIface] tNode ∧ Blk w' n2 [fltV fb] 84 := by
  refine callsD_of_wpS Tryz.func47 rfl fun c₀ cs hu => ?_
  apply wpS_seq
  apply wpS_region
  simp [wpOpsS, go_sem, recoverD, hu, Tryz.ntmps47, fltV]
  refine wpS_of_wp (wp_block (wp_seq (wp_region ?_)))
  simp [wpOps, Oper.wp, go_sem, eqGuard]
  refine .inl (wp_cond (t := false) rfl (wp_seq (wp_region ?_)))
  simp [wpOps, Oper.wp, go_sem, eqGuard, ta_flt]
  refine .inl (.inl (.inl (wp_cond (t := true) rfl (wp_seq (wp_region ?_)))))
  simp [wpOps, Oper.wp, go_sem, eqGuard]
  have hc1 : w.cell? ⟨n1, 0, none⟩ = some v1 := b1.cell 0
  have hf1 : w.frozen? ⟨n1, 0, none⟩ = false := b1.free 0 none
  have c1 : Ch (· = n1) w (w.setCell ⟨n1, 0, none⟩ .nilIface) := (Ch.refl (· = n1) w).set (p := ⟨n1, 0, none⟩) (.inr rfl) .nilIface
  have d1 : Blk (w.setCell ⟨n1, 0, none⟩ .nilIface) n1 [.nilIface] tNode := b1.set 0 .nilIface
  have d2 : Blk (w.setCell ⟨n1, 0, none⟩ .nilIface) n2 [v2] 84 := b2.ch c1 (fun e : n2 = n1 => hne e.symm)
  have hc2 := d2.cell 0
  have hf2 := d2.free 0 none
  generalize hw1 : w.setCell ⟨n1, 0, none⟩ .nilIface = w1 at *
  refine .inl (wp_region ?_)
  simp [wpOps, Oper.wp, go_sem, eqGuard, storeCells, hc1, hf1, hw1, hc2, hf2]
  have c2 : Ch (· = n2) w1 (w1.setCell ⟨n2, 0, none⟩ (.iface tFaultP (.pointer (some ⟨fb, 0, none⟩)))) := (Ch.refl (· = n2) w1).set (p := ⟨n2, 0, none⟩) (.inr rfl) _
  have e2 : Blk (w1.setCell ⟨n2, 0, none⟩ (.iface tFaultP (.pointer (some ⟨fb, 0, none⟩)))) n2 [.iface tFaultP (.pointer (some ⟨fb, 0, none⟩))] 84 := d2.set 0 _
  have e1 := d1.ch c2 (fun e : n1 = n2 => hne e)
  have hfin := And.intro ((c1.mono fun k h => Or.inl h : Ch (fun k => k = n1 ∨ k = n2) w w1).trans (c2.mono fun k h => Or.inr h)) (And.intro e1 e2)
  iterate 4 (first | left | skip)
  refine ⟨rfl, _, rfl, .tuple #[], by simp [results, Tryz.results47], rfl, rfl, hfin.1, hfin.2.1, hfin.2.2⟩
theorem closE_idle (n1 n2 : Nat) (w : World) :
    CallsD Tryz.prog 47 #[.pointer (some ⟨n1, 0, none⟩), .pointer (some ⟨n2, 0, none⟩)] .returning w fun e u' w' => e = .returned (.tuple #[]) ∧ u' = .returning ∧ w' = w := by
  refine callsD_of_wpS Tryz.func47 rfl fun c₀ cs hu => ?_
  apply wpS_seq
  apply wpS_region
  simp [wpOpsS, go_sem, recoverD, hu, Tryz.ntmps47]
  refine wpS_of_wp (wp_block (wp_seq (wp_region ?_)))
  simp [wpOps, Oper.wp, go_sem, eqGuard]
  refine .inl (wp_cond (t := true) rfl (wp_region ?_))
  simp [wpOps, Oper.wp, go_sem, eqGuard]
  refine .inl ⟨rfl, .returning, by cases c₀; simp_all, .tuple #[], by simp [results, Tryz.results47], rfl, rfl, rfl⟩
end Go.Proofs.YtkebljkdkaagfaaGreatDoor.E
