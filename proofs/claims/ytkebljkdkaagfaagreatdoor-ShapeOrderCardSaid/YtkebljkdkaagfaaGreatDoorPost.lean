/- A law's post: true, and each argument reads as it did. -/
import Derived.Test.YtkebljkdkaagfaaGreatDoorCards
import Derived.Test.YtkebljkdkaagfaaGreatDoorTie
import Derived.Test.YtkebljkdkaagfaaGreatDoorMem
import Derived.WalkKit
import Derived.ProofKit
import Derived.Carry
import Derived.OpenShut
import Derived.Lay
import Derived.Deep.DeepHandedRow
import Derived.Lib.LaidTab
import Derived.Lib.LaidU8
namespace Go.Proofs.YtkebljkdkaagfaaGreatDoor
open Go
set_option maxRecDepth 100000
/-! ### a law's post: true, and each argument reads as it did -/
theorem laidOut : laidOutB Tryz.prog = true := by kernel_rfl
theorem Ch.toBelow {w w' : World} (h : Ch No w w') : RowKit.Below w.heap.size w w' := ⟨h.os, h.tape, h.output, h.size, fun k hk => h.block k hk (fun h => h)⟩
section
variable {H : Type} {enc : TypeId × Value → H}
theorem trodAll_keep {W W' : World} (hb : Ch No W W') : ∀ (ts : List TypeId) (vs : List Value) (ds : List (DataW H)) (ps : List MemPlace), (∀ t ∈ ts, Tryz.prog.readableRec t = true ∧ t < Tryz.prog.types.size) →
    DataW.TrodAll enc Tryz.prog W 0 (fun _ => true) true ts vs ds ps → (∀ x ∈ ps, x.block < W.heap.size) → DataW.TrodAll enc Tryz.prog W' 0 (fun b => decide (b < W.heap.size)) true ts vs ds ps
  | [], [], [], ps, _, h, _ => h
  | t :: ts, v :: vs, d :: ds, ps, ht, h, hlt => by
    obtain ⟨p, q, h1, h2, rfl⟩ := h
    obtain ⟨t1, t2⟩ := ht t (.head _)
    exact ⟨p, q, RowKit.Below.trod laidOut t1 t2 h1 hb.toBelow (fun x hx => hlt x (List.mem_append_left _ hx)), trodAll_keep hb ts vs ds q (fun t h => ht t (.tail _ h)) h2 (fun x hx => hlt x (List.mem_append_right _ hx)), rfl⟩
  | [], _ :: _, _, _, _, h, _ => h.elim
  | [], [], _ :: _, _, _, h, _ => h.elim
  | _ :: _, [], _, _, _, h, _ => h.elim
  | _ :: _, _ :: _, [], _, _, h, _ => h.elim
theorem post_law {f : Func} {s : ChangeSpec} {W W' : World} {args : Array Value} {ds : List (DataW H)} {before : List MemPlace} (hf : f.resultTypes = #[4]) (hv : s.vars = [])
    (hfn : s.fn H ds = { results := [.lit (.bool true)], args := ds }) (hp : ∀ t ∈ f.params.toList, Tryz.prog.readableRec t = true ∧ t < Tryz.prog.types.size)
    (hW : DataW.Whole enc Tryz.prog f.params.toList s.vars false W args.toList ds [] before) (hc : Ch No W W') : s.post enc Tryz.prog f false true false false W args (.bool true) W' := by
  have hlt := hW.lt
  have hW' := hW
  obtain ⟨p, q, hA, hV, rfl, _, _⟩ := hW
  rw [hv] at hV
  obtain rfl : q = [] := hV
  rw [List.append_nil] at hlt hW'
  refine ⟨ds, [], p, [], p, [], hW', ?_, ?_, ?_, hc.toBelow.frame _, fun h => by cases h⟩
  · rw [List.append_nil, hfn, hf]
    exact ⟨[], [], RowKit.shut_bool Tryz.underlying4 _, rfl, rfl⟩
  · rw [List.append_nil, hfn]
    exact trodAll_keep hc _ _ _ _ hp hA hlt
  · rw [List.append_nil, hfn, hv]
    exact rfl
end
end Go.Proofs.YtkebljkdkaagfaaGreatDoor
