/- lay: the shape in memory while it is made; its rows. lay: the shape of a good plan. lay, whole: the shape of a good plan, in memory. Build: the shape, or the first fault. -/
import Derived.Test.YtkebljkdkaagfaaGreatDoorShi
import Derived.Test.YtkebljkdkaagfaaGreatDoorSmf
namespace Go.Proofs.YtkebljkdkaagfaaGreatDoor.S
open Go Tr
set_option maxRecDepth 100000
set_option maxHeartbeats 4000000
/-! the tree of function 24 -/
abbrev fx24_4 (n1 : Nat) (n2 : Nat) (l3 : Option Addr × Nat × Nat) : List (Tmp × Value) := [(1, .pointer (some ⟨n1, 0, none⟩)), (2, .pointer (some ⟨n2, 0, none⟩)), (3, .int .i64 (↑l3.snd.fst : Int))]
abbrev mx24_4 : List (Tmp × Comp) := [(4, .leaf .blk)]
abbrev fx24_7 (n1 : Nat) (n2 : Nat) (l3 : Option Addr × Nat × Nat) (u5 : Nat × Unit) (l6 : Option Addr × Nat × Nat) : List (Tmp × Value) := [(1, .pointer (some ⟨n1, 0, none⟩)), (2, .pointer (some ⟨n2, 0, none⟩)), (3, .int .i64 (↑l3.snd.fst : Int)), (4, .pointer (some ⟨u5.1, 0, none⟩)), (27, .slice l6.1 l6.2.1 l6.2.2), (28, .int .i64 (↑l6.snd.fst : Int))]
abbrev m24_7 : List (Tmp × Comp) := [(29, .leaf (.int .i64))]
abbrev mx24_7 : List (Tmp × Comp) := []
abbrev mr24_7 : List (Tmp × Comp) := []
abbrev fx24_14 (n1 : Nat) (n2 : Nat) (l3 : Option Addr × Nat × Nat) (u5 : Nat × Unit) (l6 : Option Addr × Nat × Nat) (x_29 : Int) (n13 : Nat) : List (Tmp × Value) := [(1, .pointer (some ⟨n1, 0, none⟩)), (2, .pointer (some ⟨n2, 0, none⟩)), (3, .int .i64 (↑l3.snd.fst : Int)), (4, .pointer (some ⟨u5.1, 0, none⟩)), (6, .pointer (some ⟨n13, 0, none⟩)), (27, .slice l6.1 l6.2.1 l6.2.2), (28, .int .i64 (↑l6.snd.fst : Int)), (29, .int .i64 x_29)]
abbrev mx24_14 : List (Tmp × Comp) := []
def s24_14 : Script := .hd0 (.hq 0 (.hq 1 (.ld .sl (.hq 2 (.hq 3 (.ld (.int .i64) (.hq 4 (.hq 5 (.ld .sl (.hq 6 (.hq 7 (.ld (.int .i64) (.hq 8 (.ix (.hl 9 (.ld .sl (.he 10 (.he 11 (.rn (.one (.leaf .sl)) (.hq 12 (.ix (.he 13 .nil))))))) (.hl 10 (.he 9 (.ld .sl (.he 11 (.rn (.one (.leaf .sl)) (.hq 12 (.ix (.he 13 .nil))))))) .nil))))))))))))))))
theorem t24_14 (n1 : Nat) (n2 : Nat) (l3 : Option Addr × Nat × Nat) (u5 : Nat × Unit) (l6 : Option Addr × Nat × Nat) (x_29 : Int) (n13 : Nat) (gg14 : Nat → Value) : pieceT Tryz.prog (at_ Tryz.f24 [1, 1, 1, 0, 1, 0, 0, 1, 1, 0, 0, 1, 0]) 149 (fx24_14 n1 n2 l3 u5 l6 x_29 n13) gg14 (mx24_14.map (·.1)) [] [] s24_14 = .hdrawn (.load ⟨u5.1, 0, none⟩ .sl (fun l15 => .load ⟨n13, 2, none⟩ (.int .i64) (fun x16 => .load ⟨u5.1, 0, none⟩ .sl (fun l17 => .load ⟨n13, 2, none⟩ (.int .i64) (fun x18 => .idx l17.1 x18 l17.2.1 1 (fun a19 => .both (.eff (.load a19 .sl (fun l20 => .back (.eff (.new (.cells #[.int .i64 0] 3 (0, 0)) (fun n21 => .back (.eff (.run (builtin .append #[29, 29] 29 #[false, false] #[.slice l20.1 l20.2.1 l20.2.2, .slice (some ⟨n21, 0, none⟩) 1 1]) (.one (.leaf .sl)) (fun l22 => .back (.idx l15.1 x16 l15.2.1 1 (fun a23 => .eff (.store a23 (.slice l22.1 l22.2.1 l22.2.2) (.back (.undrawn (.fin .normal []))))))))))))))) (.both (.eff (.new (.cells #[.int .i64 0] 3 (0, 0)) (fun n24 => .back (.eff (.load a19 .sl (fun l25 => .back (.eff (.run (builtin .append #[29, 29] 29 #[false, false] #[.slice l25.1 l25.2.1 l25.2.2, .slice (some ⟨n24, 0, none⟩) 1 1]) (.one (.leaf .sl)) (fun l26 => .back (.idx l15.1 x16 l15.2.1 1 (fun a27 => .eff (.store a27 (.slice l26.1 l26.2.1 l26.2.2) (.back (.undrawn (.fin .normal []))))))))))))))) (.triv)))))))) := by kernel_rfl
def s24_7 : Script := .sym (.ix (.ld (.int .i64) (.ld (.int .i64) (.ld (.int .i64) (.ld (.int .i64) (.ct 0 [1, 2, 3, 4, 6, 27, 28, 29] mx24_14 (.hd0 (.hq 0 (.hq 1 (.ld .sl (.hq 2 (.hq 3 (.ld (.int .i64) (.hq 4 (.hq 5 (.ld .sl (.hq 6 (.hq 7 (.ld (.int .i64) (.hq 8 (.ix (.hl 9 (.ld .sl (.he 10 (.he 11 (.rn (.one (.leaf .sl)) (.hq 12 (.ix (.he 13 .nil))))))) (.hl 10 (.he 9 (.ld .sl (.he 11 (.rn (.one (.leaf .sl)) (.hq 12 (.ix (.he 13 .nil))))))) .nil))))))))))))))))))))))) .nil
theorem t24_7 (n1 : Nat) (n2 : Nat) (l3 : Option Addr × Nat × Nat) (u5 : Nat × Unit) (l6 : Option Addr × Nat × Nat) (x_29 : Int) (gg7 : Nat → Value) : pieceT Tryz.prog (at_ Tryz.f24 [1, 1, 1, 0, 1, 0, 0]) 149 (fx24_7 n1 n2 l3 u5 l6 ++ mvals m24_7 (x_29, ())) gg7 (m24_7.map (·.1)) (mx24_7.map (·.1)) (mr24_7.map (·.1)) s24_7 = .br (Decidable.decide (x_29 < (↑l6.snd.fst : Int))) (.idx l6.1 x_29 l6.2.1 4 (fun a8 => .load a8 (.int .i64) (fun x9 => .load (a8.add 1) (.int .i64) (fun x10 => .load (a8.add 2) (.int .i64) (fun x11 => .load (a8.add 3) (.int .i64) (fun x12 => .new (.cells #[.int .i64 0, .int .i64 0, .int .i64 0, .int .i64 0] 39 (0, 0)) (fun n13 => .store ⟨n13, 0, none⟩ (.int .i64 x9) (.store ⟨n13, 1, none⟩ (.int .i64 x10) (.store ⟨n13, 2, none⟩ (.int .i64 x11) (.store ⟨n13, 3, none⟩ (.int .i64 x12) (.cut (at_ Tryz.f24 [1, 1, 1, 0, 1, 0, 0, 1, 1, 0, 0, 1, 0]) 149 (fx24_14 n1 n2 l3 u5 l6 x_29 n13) mx24_14 (fun u28 g28 => .hdrawn (.load ⟨u5.1, 1, none⟩ .sl (fun l29 => .load ⟨n13, 0, none⟩ (.int .i64) (fun x30 => .load ⟨u5.1, 1, none⟩ .sl (fun l31 => .load ⟨n13, 0, none⟩ (.int .i64) (fun x32 => .idx l31.1 x32 l31.2.1 1 (fun a33 => .both (.eff (.load a33 .sl (fun l34 => .back (.eff (.new (.cells #[.int .i64 0] 3 (0, 0)) (fun n35 => .back (.eff (.run (builtin .append #[29, 29] 29 #[false, false] #[.slice l34.1 l34.2.1 l34.2.2, .slice (some ⟨n35, 0, none⟩) 1 1]) (.one (.leaf .sl)) (fun l36 => .back (.idx l29.1 x30 l29.2.1 1 (fun a37 => .eff (.store a37 (.slice l36.1 l36.2.1 l36.2.2) (.back (.undrawn (.fin .normal [(29, .int .i64 (IntKind.i64.wrap (x_29 + 1)))]))))))))))))))) (.both (.eff (.new (.cells #[.int .i64 0] 3 (0, 0)) (fun n38 => .back (.eff (.load a33 .sl (fun l39 => .back (.eff (.run (builtin .append #[29, 29] 29 #[false, false] #[.slice l39.1 l39.2.1 l39.2.2, .slice (some ⟨n38, 0, none⟩) 1 1]) (.one (.leaf .sl)) (fun l40 => .back (.idx l29.1 x30 l29.2.1 1 (fun a41 => .eff (.store a41 (.slice l40.1 l40.2.1 l40.2.2) (.back (.undrawn (.fin .normal [(29, .int .i64 (IntKind.i64.wrap (x_29 + 1)))]))))))))))))))) (.triv)))))))))))))))))))) (.fin (.exit 0) []) := by kernel_rfl
abbrev fx24_43 (n1 : Nat) (n2 : Nat) (l3 : Option Addr × Nat × Nat) (u5 : Nat × Unit) : List (Tmp × Value) := [(1, .pointer (some ⟨n1, 0, none⟩)), (2, .pointer (some ⟨n2, 0, none⟩)), (4, .pointer (some ⟨u5.1, 0, none⟩)), (60, .int .i64 (↑l3.snd.fst : Int))]
abbrev m24_43 : List (Tmp × Comp) := [(61, .leaf (.int .i64))]
abbrev mx24_43 : List (Tmp × Comp) := []
abbrev mr24_43 : List (Tmp × Comp) := []
def s24_43 : Script := .sym (.ld .sl (.ix (.ld .sl (.ix (.ld (.int .i64) (.sym (.ld .sl (.nop (.nop (.rn (.one (.leaf .sl)) .nil)))) (.sym (.ld .sl (.nop (.nop (.rn (.one (.leaf .sl)) .nil)))) .nil))))))) .nil
theorem t24_43 (n1 : Nat) (n2 : Nat) (l3 : Option Addr × Nat × Nat) (u5 : Nat × Unit) (x_61 : Int) (gg43 : Nat → Value) : pieceT Tryz.prog (at_ Tryz.f24 [1, 1, 1, 1, 0, 1, 0, 0]) 149 (fx24_43 n1 n2 l3 u5 ++ mvals m24_43 (x_61, ())) gg43 (m24_43.map (·.1)) (mx24_43.map (·.1)) (mr24_43.map (·.1)) s24_43 = .br (Decidable.decide (x_61 < (↑l3.snd.fst : Int))) (.load ⟨u5.1, 6, none⟩ .sl (fun l44 => .idx l44.1 x_61 l44.2.1 1 (fun a45 => .store a45 (.int .i64 (-1)) (.load ⟨n1, 1, none⟩ .sl (fun l46 => .idx l46.1 x_61 l46.2.1 4 (fun a47 => .load (a47.add 1) (.int .i64) (fun x48 => .br (x48 == 1) (.load ⟨u5.1, 4, none⟩ .sl (fun l49 => .new (.cells #[.int .i64 x_61] 3 (0, 0)) (fun n50 => .run (builtin .append #[29, 29] 29 #[false, false] #[.slice l49.1 l49.2.1 l49.2.2, .slice (some ⟨n50, 0, none⟩) 1 1]) (.one (.leaf .sl)) (fun l51 => .store ⟨u5.1, 4, none⟩ (.slice l51.1 l51.2.1 l51.2.2) (.fin .normal [(61, .int .i64 (IntKind.i64.wrap (x_61 + 1)))]))))) (.br (x48 == 13) (.load ⟨u5.1, 5, none⟩ .sl (fun l52 => .new (.cells #[.int .i64 x_61] 3 (0, 0)) (fun n53 => .run (builtin .append #[29, 29] 29 #[false, false] #[.slice l52.1 l52.2.1 l52.2.2, .slice (some ⟨n53, 0, none⟩) 1 1]) (.one (.leaf .sl)) (fun l54 => .store ⟨u5.1, 5, none⟩ (.slice l54.1 l54.2.1 l54.2.2) (.fin .normal [(61, .int .i64 (IntKind.i64.wrap (x_61 + 1)))]))))) (.fin .normal [(61, .int .i64 (IntKind.i64.wrap (x_61 + 1)))]))))))))) (.fin (.exit 2) []) := by kernel_rfl
abbrev fx24_57 (n1 : Nat) (n2 : Nat) (u5 : Nat × Unit) (l56 : Option Addr × Nat × Nat) : List (Tmp × Value) := [(1, .pointer (some ⟨n1, 0, none⟩)), (2, .pointer (some ⟨n2, 0, none⟩)), (4, .pointer (some ⟨u5.1, 0, none⟩)), (92, .slice l56.1 l56.2.1 l56.2.2), (93, .int .i64 (↑l56.snd.fst : Int))]
abbrev m24_57 : List (Tmp × Comp) := [(94, .leaf (.int .i64))]
abbrev mx24_57 : List (Tmp × Comp) := []
abbrev mr24_57 : List (Tmp × Comp) := []
abbrev fx24_64 (n1 : Nat) (n2 : Nat) (u5 : Nat × Unit) (l56 : Option Addr × Nat × Nat) (x_94 : Int) (n63 : Nat) : List (Tmp × Value) := [(1, .pointer (some ⟨n1, 0, none⟩)), (2, .pointer (some ⟨n2, 0, none⟩)), (4, .pointer (some ⟨u5.1, 0, none⟩)), (8, .int .i64 x_94), (9, .pointer (some ⟨n63, 0, none⟩)), (92, .slice l56.1 l56.2.1 l56.2.2), (93, .int .i64 (↑l56.snd.fst : Int)), (94, .int .i64 x_94)]
abbrev mx24_64 : List (Tmp × Comp) := []
def s24_64 : Script := .hd0 (.hq 0 (.hq 1 (.ld .sl (.hq 2 (.hq 3 (.ld (.int .i64) (.hq 4 (.ix (.hq 5 (.ld .sl (.hq 6 (.hq 7 (.ld (.int .i64) (.hq 8 (.hq 9 (.ix (.he 10 .nil)))))))))))))))))
theorem t24_64 (n1 : Nat) (n2 : Nat) (u5 : Nat × Unit) (l56 : Option Addr × Nat × Nat) (x_94 : Int) (n63 : Nat) (gg64 : Nat → Value) : pieceT Tryz.prog (at_ Tryz.f24 [1, 1, 1, 1, 1, 0, 1, 0, 0, 1, 1, 0, 0, 1, 0]) 149 (fx24_64 n1 n2 u5 l56 x_94 n63) gg64 (mx24_64.map (·.1)) [] [] s24_64 = .hdrawn (.load ⟨u5.1, 0, none⟩ .sl (fun l65 => .load ⟨n63, 2, none⟩ (.int .i64) (fun x66 => .idx l65.1 x66 l65.2.1 1 (fun a67 => .load a67 .sl (fun l68 => .load ⟨n63, 3, none⟩ (.int .i64) (fun x69 => .idx l68.1 x69 l68.2.1 1 (fun a70 => .eff (.store a70 (.int .i64 x_94) (.back (.undrawn (.fin .normal []))))))))))) := by kernel_rfl
abbrev fx24_72 (n1 : Nat) (n2 : Nat) (u5 : Nat × Unit) (l56 : Option Addr × Nat × Nat) (x_94 : Int) (n63 : Nat) : List (Tmp × Value) := [(1, .pointer (some ⟨n1, 0, none⟩)), (2, .pointer (some ⟨n2, 0, none⟩)), (4, .pointer (some ⟨u5.1, 0, none⟩)), (8, .int .i64 x_94), (9, .pointer (some ⟨n63, 0, none⟩)), (92, .slice l56.1 l56.2.1 l56.2.2), (93, .int .i64 (↑l56.snd.fst : Int)), (94, .int .i64 x_94)]
abbrev mx24_72 : List (Tmp × Comp) := []
def s24_72 : Script := .hd0 (.hq 0 (.hq 1 (.ld .sl (.hq 2 (.hq 3 (.ld (.int .i64) (.hq 4 (.ix (.hq 5 (.ld .sl (.hq 6 (.hq 7 (.ld (.int .i64) (.hq 8 (.hq 9 (.ix (.he 10 .nil)))))))))))))))))
theorem t24_72 (n1 : Nat) (n2 : Nat) (u5 : Nat × Unit) (l56 : Option Addr × Nat × Nat) (x_94 : Int) (n63 : Nat) (gg72 : Nat → Value) : pieceT Tryz.prog (at_ Tryz.f24 [1, 1, 1, 1, 1, 0, 1, 0, 0, 1, 1, 0, 0, 1, 1, 0]) 149 (fx24_72 n1 n2 u5 l56 x_94 n63) gg72 (mx24_72.map (·.1)) [] [] s24_72 = .hdrawn (.load ⟨u5.1, 1, none⟩ .sl (fun l73 => .load ⟨n63, 0, none⟩ (.int .i64) (fun x74 => .idx l73.1 x74 l73.2.1 1 (fun a75 => .load a75 .sl (fun l76 => .load ⟨n63, 1, none⟩ (.int .i64) (fun x77 => .idx l76.1 x77 l76.2.1 1 (fun a78 => .eff (.store a78 (.int .i64 x_94) (.back (.undrawn (.fin .normal []))))))))))) := by kernel_rfl
abbrev fx24_80 (n1 : Nat) (n2 : Nat) (u5 : Nat × Unit) (l56 : Option Addr × Nat × Nat) (x_94 : Int) (n63 : Nat) : List (Tmp × Value) := [(1, .pointer (some ⟨n1, 0, none⟩)), (2, .pointer (some ⟨n2, 0, none⟩)), (4, .pointer (some ⟨u5.1, 0, none⟩)), (8, .int .i64 x_94), (9, .pointer (some ⟨n63, 0, none⟩)), (92, .slice l56.1 l56.2.1 l56.2.2), (93, .int .i64 (↑l56.snd.fst : Int)), (94, .int .i64 x_94)]
abbrev mx24_80 : List (Tmp × Comp) := []
def s24_80 : Script := .hd0 (.hq 0 (.hq 1 (.ld .sl (.hq 2 (.hq 3 (.ld (.int .i64) (.ld .sl (.ld .sl (.hq 4 (.ld (.int .i64) (.ld (.int .i64) (.ld (.int .i64) (.ld (.int .i64) (.he 5 (.cl (.one (.leaf .bool)) (.hq 6 (.ix (.he 7 .nil))))))))))))))))))
theorem t24_80 (n1 : Nat) (n2 : Nat) (u5 : Nat × Unit) (l56 : Option Addr × Nat × Nat) (x_94 : Int) (n63 : Nat) (gg80 : Nat → Value) : pieceT Tryz.prog (at_ Tryz.f24 [1, 1, 1, 1, 1, 0, 1, 0, 0, 1, 1, 0, 0, 1, 1, 1, 0]) 149 (fx24_80 n1 n2 u5 l56 x_94 n63) gg80 (mx24_80.map (·.1)) [] [] s24_80 = .hdrawn (.load ⟨u5.1, 2, none⟩ .sl (fun l81 => .load ⟨n1, 0, none⟩ (.int .i64) (fun x82 => .load ⟨n1, 1, none⟩ .sl (fun l83 => .load ⟨n1, 2, none⟩ .sl (fun l84 => .load ⟨n63, 0, none⟩ (.int .i64) (fun x85 => .load ⟨n63, 1, none⟩ (.int .i64) (fun x86 => .load ⟨n63, 2, none⟩ (.int .i64) (fun x87 => .load ⟨n63, 3, none⟩ (.int .i64) (fun x88 => .eff (.call 38 #[.agg #[.int .i64 x82, .slice l83.1 l83.2.1 l83.2.2, .slice l84.1 l84.2.1 l84.2.2], .agg #[.int .i64 x85, .int .i64 x86, .int .i64 x87, .int .i64 x88]] (.one (.leaf .bool)) (fun b89 => .back (.idx l81.1 x_94 l81.2.1 1 (fun a90 => .eff (.store a90 (.bool b89) (.back (.undrawn (.fin .normal []))))))))))))))))) := by kernel_rfl
def s24_57 : Script := .sym (.ix (.ld (.int .i64) (.ld (.int .i64) (.ld (.int .i64) (.ld (.int .i64) (.ct 0 [1, 2, 4, 8, 9, 92, 93, 94] mx24_64 (.ct 0 [1, 2, 4, 8, 9, 92, 93, 94] mx24_72 (.ct 0 [1, 2, 4, 8, 9, 92, 93, 94] mx24_80 (.ld .sl (.ix (.ld .bool (.sym (.hd0 (.hq 0 (.hq 1 (.ld .sl (.hq 2 (.hq 3 (.ld (.int .i64) (.hq 4 (.hq 5 (.ld .sl (.hq 6 (.hq 7 (.ld (.int .i64) (.hq 8 (.hq 10 (.hq 11 (.ld (.int .i64) (.he 9 (.ld (.int .i64) (.hq 12 (.ix (.he 13 (.hq 14 (.ix (.he 15 .nil))))))))))))))))))))))))) .nil)))))))))))) .nil
theorem t24_57 (n1 : Nat) (n2 : Nat) (u5 : Nat × Unit) (l56 : Option Addr × Nat × Nat) (x_94 : Int) (gg57 : Nat → Value) : pieceT Tryz.prog (at_ Tryz.f24 [1, 1, 1, 1, 1, 0, 1, 0, 0]) 149 (fx24_57 n1 n2 u5 l56 ++ mvals m24_57 (x_94, ())) gg57 (m24_57.map (·.1)) (mx24_57.map (·.1)) (mr24_57.map (·.1)) s24_57 = .br (Decidable.decide (x_94 < (↑l56.snd.fst : Int))) (.idx l56.1 x_94 l56.2.1 4 (fun a58 => .load a58 (.int .i64) (fun x59 => .load (a58.add 1) (.int .i64) (fun x60 => .load (a58.add 2) (.int .i64) (fun x61 => .load (a58.add 3) (.int .i64) (fun x62 => .new (.cells #[.int .i64 0, .int .i64 0, .int .i64 0, .int .i64 0] 39 (0, 0)) (fun n63 => .store ⟨n63, 0, none⟩ (.int .i64 x59) (.store ⟨n63, 1, none⟩ (.int .i64 x60) (.store ⟨n63, 2, none⟩ (.int .i64 x61) (.store ⟨n63, 3, none⟩ (.int .i64 x62) (.cut (at_ Tryz.f24 [1, 1, 1, 1, 1, 0, 1, 0, 0, 1, 1, 0, 0, 1, 0]) 149 (fx24_64 n1 n2 u5 l56 x_94 n63) mx24_64 (fun u71 g71 => .cut (at_ Tryz.f24 [1, 1, 1, 1, 1, 0, 1, 0, 0, 1, 1, 0, 0, 1, 1, 0]) 149 (fx24_72 n1 n2 u5 l56 x_94 n63) mx24_72 (fun u79 g79 => .cut (at_ Tryz.f24 [1, 1, 1, 1, 1, 0, 1, 0, 0, 1, 1, 0, 0, 1, 1, 1, 0]) 149 (fx24_80 n1 n2 u5 l56 x_94 n63) mx24_80 (fun u91 g91 => .load ⟨u5.1, 2, none⟩ .sl (fun l92 => .idx l92.1 x_94 l92.2.1 1 (fun a93 => .load a93 .bool (fun b94 => .br b94 (.hdrawn (.load ⟨u5.1, 6, none⟩ .sl (fun l95 => .load ⟨n63, 2, none⟩ (.int .i64) (fun x96 => .load ⟨u5.1, 6, none⟩ .sl (fun l97 => .load ⟨n63, 0, none⟩ (.int .i64) (fun x98 => .load ⟨n63, 2, none⟩ (.int .i64) (fun x99 => .eff (.load ⟨n63, 0, none⟩ (.int .i64) (fun x100 => .back (.idx l95.1 x96 l95.2.1 1 (fun a101 => .eff (.store a101 (.int .i64 x100) (.back (.idx l97.1 x98 l97.2.1 1 (fun a102 => .eff (.store a102 (.int .i64 x99) (.back (.undrawn (.fin .normal [(94, .int .i64 (IntKind.i64.wrap (x_94 + 1)))]))))))))))))))))))) (.fin .normal [(94, .int .i64 (IntKind.i64.wrap (x_94 + 1)))])))))))))))))))))) (.fin (.exit 5) []) := by kernel_rfl
def s24 : Script := .ld .sl (.ct 0 [1, 2, 3] mx24_4 (.ld .sl (.lp 0 [1, 2, 3, 4, 27, 28] [29] mx24_7 mr24_7 (.lp 2 [1, 2, 4, 60] [61] mx24_43 mr24_43 (.ld .sl (.lp 5 [1, 2, 4, 92, 93] [94] mx24_57 mr24_57 (.ld (.int .i64) (.ld .sl (.ld .sl (.cl (.tup []) (.ld .sl (.ld .sl (.ld .sl (.ld .sl (.ld .sl (.ld .sl (.ld .sl (.ld .sl (.ld .sl (.ld .sl (.ld .sl (.ld .sl (.ld .sl (.ld .sl (.ld .sl (.ld .sl .nil)))))))))))))))))))) .nil)) .nil) .nil)))
theorem t24 (qx0_0 : Int) (qa0_1 : Option Addr) (qn0_1 : Nat) (qc0_1 : Nat) (qa0_2 : Option Addr) (qn0_2 : Nat) (qc0_2 : Nat) : fnT Tryz.prog Tryz.f24 #[.agg #[.int .i64 qx0_0, .slice qa0_1 qn0_1 qc0_1, .slice qa0_2 qn0_2 qc0_2]] s24 = .new (.cells #[.int .i64 qx0_0, .slice qa0_1 qn0_1 qc0_1, .slice qa0_2 qn0_2 qc0_2] 25 (0, 0)) (fun n1 => .new (.cells #[.slice none 0 0, .slice none 0 0, .slice none 0 0, .slice none 0 0, .slice none 0 0, .slice none 0 0, .slice none 0 0, .slice none 0 0] 31 (0, 0)) (fun n2 => .load ⟨n1, 1, none⟩ .sl (fun l3 => .cut (at_ Tryz.f24 [1, 1, 0]) 149 (fx24_4 n1 n2 l3) mx24_4 (fun u5 g5 => .load ⟨n1, 2, none⟩ .sl (fun l6 => .loop (at_ Tryz.f24 [1, 1, 1, 0, 1, 0, 0]) 149 (fx24_7 n1 n2 l3 u5 l6) [(29, .int .i64 0)] mx24_7 mr24_7 0 (fun u42 g42 => .loop (at_ Tryz.f24 [1, 1, 1, 1, 0, 1, 0, 0]) 149 (fx24_43 n1 n2 l3 u5) [(61, .int .i64 0)] mx24_43 mr24_43 2 (fun u55 g55 => .load ⟨n1, 2, none⟩ .sl (fun l56 => .loop (at_ Tryz.f24 [1, 1, 1, 1, 1, 0, 1, 0, 0]) 149 (fx24_57 n1 n2 u5 l56) [(94, .int .i64 0)] mx24_57 mr24_57 5 (fun u103 g103 => .load ⟨n1, 0, none⟩ (.int .i64) (fun x104 => .load ⟨n1, 1, none⟩ .sl (fun l105 => .load ⟨n1, 2, none⟩ .sl (fun l106 => .call 39 #[.agg #[.int .i64 x104, .slice l105.1 l105.2.1 l105.2.2, .slice l106.1 l106.2.1 l106.2.2], .pointer (some ⟨u5.1, 0, none⟩)] (.tup []) (fun r107 => .load ⟨u5.1, 0, none⟩ .sl (fun l108 => .load ⟨u5.1, 1, none⟩ .sl (fun l109 => .load ⟨u5.1, 2, none⟩ .sl (fun l110 => .load ⟨u5.1, 3, none⟩ .sl (fun l111 => .load ⟨u5.1, 4, none⟩ .sl (fun l112 => .load ⟨u5.1, 5, none⟩ .sl (fun l113 => .load ⟨u5.1, 6, none⟩ .sl (fun l114 => .load ⟨u5.1, 7, none⟩ .sl (fun l115 => .store ⟨n2, 0, none⟩ (.slice l108.1 l108.2.1 l108.2.2) (.store ⟨n2, 1, none⟩ (.slice l109.1 l109.2.1 l109.2.2) (.store ⟨n2, 2, none⟩ (.slice l110.1 l110.2.1 l110.2.2) (.store ⟨n2, 3, none⟩ (.slice l111.1 l111.2.1 l111.2.2) (.store ⟨n2, 4, none⟩ (.slice l112.1 l112.2.1 l112.2.2) (.store ⟨n2, 5, none⟩ (.slice l113.1 l113.2.1 l113.2.2) (.store ⟨n2, 6, none⟩ (.slice l114.1 l114.2.1 l114.2.2) (.store ⟨n2, 7, none⟩ (.slice l115.1 l115.2.1 l115.2.2) (.load ⟨n2, 0, none⟩ .sl (fun l116 => .load ⟨n2, 1, none⟩ .sl (fun l117 => .load ⟨n2, 2, none⟩ .sl (fun l118 => .load ⟨n2, 3, none⟩ .sl (fun l119 => .load ⟨n2, 4, none⟩ .sl (fun l120 => .load ⟨n2, 5, none⟩ .sl (fun l121 => .load ⟨n2, 6, none⟩ .sl (fun l122 => .load ⟨n2, 7, none⟩ .sl (fun l123 => .done (.returned (.agg #[.slice l116.1 l116.2.1 l116.2.2, .slice l117.1 l117.2.1 l117.2.2, .slice l118.1 l118.2.1 l118.2.2, .slice l119.1 l119.2.1 l119.2.2, .slice l120.1 l120.2.1 l120.2.2, .slice l121.1 l121.2.1 l121.2.2, .slice l122.1 l122.2.1 l122.2.2, .slice l123.1 l123.2.1 l123.2.2]))))))))))))))))))))))))))))))) (fun u124 g124 => .stuck))) (fun u125 g125 => .stuck)) (fun u126 g126 => .stuck)))))) := by kernel_rfl
/-! ### Rows by number -/
abbrev RowD := (Option Addr × Nat × Nat) × List Int
def slV (r : RowD) : Value := .slice r.1.1 r.1.2.1 r.1.2.2
def updD (d : Nat → RowD) (i : Nat) (r : RowD) : Nat → RowD := fun k => if k = i then r else d k
theorem updD_self (d : Nat → RowD) (i : Nat) (r : RowD) : updD d i r i = r := if_pos rfl
theorem updD_ne {d : Nat → RowD} {i k : Nat} {r : RowD} (h : k ≠ i) : updD d i r k = d k := if_neg h
structure Fam (w : World) (B : Nat) (d : Nat → RowD) : Prop where
  rows : ∀ i, IRow w B (d i).1.1 (d i).1.2.1 (d i).1.2.2 (d i).2
  apart : ∀ i j, i ≠ j → ∀ k, rowS (d i).1.1 (d i).1.2.1 (d i).1.2.2 k → ¬ rowS (d j).1.1 (d j).1.2.1 (d j).1.2.2 k
abbrev famS (d : Nat → RowD) (i k : Nat) : Prop := rowS (d i).1.1 (d i).1.2.1 (d i).1.2.2 k
theorem Fam.nil (w : World) (B : Nat) : Fam w B (fun _ => ((none, 0, 0), [])) := ⟨fun _ => Row.nil _ _ _ _, fun _ _ _ k h => absurd h (rowS_nil k)⟩
theorem Fam.ge {w : World} {B : Nat} {d : Nat → RowD} (h : Fam w B d) {i k : Nat} (hk : famS d i k) : B ≤ k ∧ k < w.heap.size := Row.lt (h.rows i) hk
theorem Fam.ch {S : Nat → Prop} {w w' : World} {B : Nat} {d : Nat → RowD} (h : Fam w B d) (hc : Ch S w w') (hS : ∀ i k, famS d i k → ¬ S k) : Fam w' B d := ⟨fun i => Row.ch (h.rows i) hc (hS i), h.apart⟩
theorem Fam.no {w w' : World} {B : Nat} {d : Nat → RowD} (h : Fam w B d) (hc : Ch No w w') : Fam w' B d := h.ch hc fun _ _ _ h => h
/-- Blocks below B are none of the rows'. -/
theorem Fam.low {S : Nat → Prop} {w w' : World} {B : Nat} {d : Nat → RowD} (h : Fam w B d) (hc : Ch S w w') (hS : ∀ k, S k → k < B) : Fam w' B d := h.ch hc fun i k hk hs => by have := (h.ge hk).1; have := hS k hs; omega
theorem Fam.grow {w w' : World} {B : Nat} {d : Nat → RowD} (h : Fam w B d) {i : Nat} {q : Option Addr} {n c : Nat} {xs : List Int} (g : Grew B tInt 1 w (d i).1.1 (d i).1.2.1 (d i).1.2.2 w' q n c (xs.map intC)) : Fam w' B (updD d i ((q, n, c), xs)) := by
  refine ⟨fun j => ?_, fun j k hjk b hb => ?_⟩
  · by_cases e : j = i
    · subst e; rw [updD_self]; exact g.own
    · rw [updD_ne e]; exact Row.ch (h.rows j) g.ch fun k hk hk2 => h.apart j i e k hk hk2
  · have old : ∀ m, m ≠ i → famS d m b → rowS q n c b → False := fun m hm h1 h2 => by
      rcases g.lies b h2 with h3 | h3
      · exact h.apart m i hm b h1 h3
      · have := (h.ge h1).2; omega
    by_cases e : j = i
    · subst e
      rw [updD_self] at hb
      rw [updD_ne (fun e => hjk e.symm)]
      exact fun h1 => old k (fun e => hjk e.symm) h1 hb
    · rw [updD_ne e] at hb
      by_cases e2 : k = i
      · subst e2
        rw [updD_self]
        exact fun h1 => old j e hb h1
      · rw [updD_ne e2]
        exact h.apart j k hjk b hb
/-- A cell of a row is stored. -/
theorem Fam.store {w w' : World} {B : Nat} {d : Nat → RowD} (h : Fam w B d) {i : Nat} {xs : List Int} (hc : Ch (fun k => famS d i k) w w') (hr : IRow w' B (d i).1.1 (d i).1.2.1 (d i).1.2.2 xs) : Fam w' B (updD d i ((d i).1, xs)) := by
  have hs : ∀ j k, famS (updD d i ((d i).1, xs)) j k → famS d j k := fun j k hk => by
    by_cases e : j = i
    · subst e
      unfold famS at hk
      rw [updD_self] at hk
      exact hk
    · unfold famS at hk
      rw [updD_ne e] at hk
      exact hk
  refine ⟨fun j => ?_, fun j k hjk b hb hb2 => h.apart j k hjk b (hs j b hb) (hs k b hb2)⟩
  by_cases e : j = i
  · subst e; rw [updD_self]; exact hr
  · rw [updD_ne e]; exact Row.ch (h.rows j) hc fun k hk hk2 => h.apart j i e k hk hk2
section
variable {R : Ending → World → Prop} {Q : Exit → List (Tmp × Value) → World → Prop} {w w0 : World}
/-- A store into a row. -/
theorem st_row {md : Md} [hmd : md.Runs] {base : Nat} {e : TypeId} {size : Nat} {g n c i : Nat} {xs : List Value} {v : Value} {K : T} (hr : Row w base e size (some ⟨g, 0, none⟩) n c xs) (hi : i < xs.length) (hv : v.oneCell' = true)
    (h : ∀ w1, Ch (rowS (some ⟨g, 0, none⟩) n c) w w1 → Row w1 base e size (some ⟨g, 0, none⟩) n c (xs.set i v) → wpT Tryz.prog R Q K md w1) : wpT Tryz.prog R Q (.store ⟨g, i, none⟩ v K) md w := by
  have hl : xs.length = n * size := hr.1
  rcases hr.2 with ⟨h', _⟩ | ⟨g', cap, cur, h', hb, hg, h1, h2, h3, h4⟩
  · simp only [Value.slice.injEq] at h'
    cases h'.1
  · simp only [Value.slice.injEq, Option.some.injEq, Addr.mk.injEq, true_and, and_true] at h'
    obtain ⟨rfl, rfl⟩ := h'
    have hblk : Blk w g cur.toList e := by unfold Blk; rw [hg]
    have hlen : i < cur.toList.length := by
      have := congrArg List.length h4
      rw [List.length_take, hl] at this
      omega
    refine st_blk hblk hlen hv fun w1 c1 z1 b1 => h w1 (c1.mono fun k hk => by subst hk; rfl) ⟨by rw [List.length_set]; exact hl, .inr ⟨g, c, (cur.toList.set i v).toArray, rfl, hb, b1, h1, h2, ?_, ?_⟩⟩
    · simpa using h3
    · rw [List.take_set, h4]
end
/-! ### The shape while it is made -/
abbrev outC (n f : Nat) (d : Nat → RowD) : List Value := (List.range n).map fun t => slV (d (2 * t + f))
theorem outC_at {n f t : Nat} (d : Nat → RowD) (h : t < n) : (outC n f d)[t]? = some (slV (d (2 * t + f))) := by
  rw [List.getElem?_map, List.getElem?_range h]; rfl
theorem outC_upd {n f t : Nat} {d : Nat → RowD} {r : RowD} (h : t < n) : (outC n f d).set t (slV r) = outC n f (updD d (2 * t + f) r) := by
  apply List.ext_getElem?
  intro i
  rcases Nat.lt_or_ge i n with hi | hi
  · rw [outC_at _ hi]
    by_cases e : t = i
    · subst e
      rw [List.getElem?_set_self (by simpa using h), updD_self]
    · rw [List.getElem?_set_ne e, outC_at _ hi, updD_ne (by omega)]
  · rw [List.getElem?_eq_none (by simpa using hi), List.getElem?_eq_none (by simpa using hi)]
theorem outC_same {n f i : Nat} {d : Nat → RowD} {r : RowD} (h : ∀ t, t < n → 2 * t + f ≠ i) : outC n f (updD d i r) = outC n f d := by
  refine List.map_congr_left fun t ht => ?_
  rw [updD_ne (h t (List.mem_range.1 ht))]
/-- Where the parts lie: the shape, the rows of in ports (0) and out ports (1), back edges, mates, depths. -/
structure Lies (B ns : Nat) (bx : Nat → Nat) (bb bm bd : Nat) : Prop where
  low : ns < B ∧ bx 0 < B ∧ bx 1 < B ∧ bb < B ∧ bm < B ∧ bd < B
  ne : bx 0 ≠ bx 1 ∧ bm ≠ bd
structure Lay (B n m ns : Nat) (bx : Nat → Nat) (bb bm bd : Nat) (bl : List Bool) (mt : List Int) (d : Nat → RowD) (w : World) : Prop where
  hs : Blk w ns (shC n m (bx 0) (bx 1) bb bm bd nilS (slV (d 100)) (slV (d 101))) tShape
  hx : ∀ f, f < 2 → Blk w (bx f) (outC n f d) tInts
  hb : Blk w bb (bl.map Value.bool) tBool
  hm : Blk w bm (mt.map intC) tInt
  hd : Blk w bd (List.replicate n (intC 0)) tInt
  fam : Fam w B d
section
variable {B n m ns : Nat} {bx : Nat → Nat} {bb bm bd : Nat} {bl : List Bool} {mt : List Int} {d : Nat → RowD} {w w' : World}
theorem blk_ty {w : World} {b : Nat} {cs cs' : List Value} {t t' : TypeId} (h : Blk w b cs t) (h' : Blk w b cs' t') : t = t' := by
  unfold Blk at h h'
  rw [h] at h'
  simp only [Option.some.injEq, Obj.cells.injEq] at h'
  exact h'.2.1
theorem blk_ne {w : World} {b b' : Nat} {cs cs' : List Value} {t t' : TypeId} (h : Blk w b cs t) (h' : Blk w b' cs' t') (ht : t ≠ t') : b ≠ b' := fun e => ht (blk_ty h (e ▸ h'))
theorem Lay.no (h : Lay B n m ns bx bb bm bd bl mt d w) (hc : Ch No w w') : Lay B n m ns bx bb bm bd bl mt d w' :=
  ⟨h.hs.ch hc (fun h => h), fun f hf => (h.hx f hf).ch hc (fun h => h), h.hb.ch hc (fun h => h), h.hm.ch hc (fun h => h), h.hd.ch hc (fun h => h), h.fam.no hc⟩
theorem Lies.bxlt (h : Lies B ns bx bb bm bd) {f : Nat} (hf : f < 2) : bx f < B := by
  have : f = 0 ∨ f = 1 := by omega
  rcases this with rfl | rfl
  · exact h.low.2.1
  · exact h.low.2.2.1
theorem Lies.bxne (h : Lies B ns bx bb bm bd) {f g : Nat} (hf : f < 2) (hg : g < 2) (hfg : f ≠ g) : bx f ≠ bx g := by
  have hne := h.ne.1
  rcases (show (f = 0 ∧ g = 1) ∨ (f = 1 ∧ g = 0) by omega) with ⟨rfl, rfl⟩ | ⟨rfl, rfl⟩
  · exact hne
  · exact fun e => hne e.symm
theorem Lay.field (h : Lay B n m ns bx bb bm bd bl mt d w) {f : Nat} (hf : f < 2) : w.cell? ⟨ns, f, none⟩ = some (.slice (some ⟨bx f, 0, none⟩) n n) := by
  have : f = 0 ∨ f = 1 := by omega
  rcases this with rfl | rfl
  · exact h.hs.cell 0
  · exact h.hs.cell 1
/-- A row has grown, and is laid into its place. -/
theorem Lay.grown (h : Lay B n m ns bx bb bm bd bl mt d w) (L : Lies B ns bx bb bm bd) {f t : Nat} (hf : f < 2) (ht : t < n) (hn : 2 * n ≤ 100) {w1 w2 : World} {q : Option Addr} {k c : Nat} {xs : List Int}
    (g : Grew B tInt 1 w (d (2 * t + f)).1.1 (d (2 * t + f)).1.2.1 (d (2 * t + f)).1.2.2 w1 q k c (xs.map intC)) (hc : Ch (· = bx f) w1 w2) (hb : Blk w2 (bx f) ((outC n f d).set t (.slice q k c)) tInts) :
    Lay B n m ns bx bb bm bd bl mt (updD d (2 * t + f) ((q, k, c), xs)) w2 := by
  have hrow : ∀ {b : Nat}, b < B → ¬ famS d (2 * t + f) b := fun hb hk => by have := (h.fam.ge hk).1; omega
  have hs1 : ns ≠ bx f := blk_ne h.hs (h.hx f hf) (by decide)
  have hb1 : bb ≠ bx f := blk_ne h.hb (h.hx f hf) (by decide)
  have hm1 : bm ≠ bx f := blk_ne h.hm (h.hx f hf) (by decide)
  have hd1 : bd ≠ bx f := blk_ne h.hd (h.hx f hf) (by decide)
  refine ⟨?_, fun g' hg' => ?_, (h.hb.ch g.ch (hrow L.low.2.2.2.1)).ch hc hb1, (h.hm.ch g.ch (hrow L.low.2.2.2.2.1)).ch hc hm1, (h.hd.ch g.ch (hrow L.low.2.2.2.2.2)).ch hc hd1, (h.fam.grow g).low hc (fun k (e : k = bx f) => by rw [e]; exact L.bxlt hf)⟩
  · rw [updD_ne (by omega), updD_ne (by omega)]
    exact (h.hs.ch g.ch (hrow L.low.1)).ch hc hs1
  · by_cases e : g' = f
    · subst e
      rw [← outC_upd (r := ((q, k, c), xs)) ht]
      exact hb
    · rw [outC_same (fun t' ht' => by omega)]
      exact ((h.hx g' hg').ch g.ch (hrow (L.bxlt hg'))).ch hc (L.bxne hg' hf e)
end
section
variable {R : Ending → World → Prop} {Q : Exit → List (Tmp × Value) → World → Prop} {w : World} {B n m ns : Nat} {bx : Nat → Nat} {bb bm bd : Nat} {bl : List Bool} {mt : List Int} {d : Nat → RowD}
/-- A place is laid for an edge: s.Ins[e.To] (f = 0) or s.Outs[e.From] (f = 1) grows by a 0. -/
theorem lay_app {K : T} {f ci nb t : Nat} {cs : List Value} (h : Lay B n m ns bx bb bm bd bl mt d w) (L : Lies B ns bx bb bm bd) (hB : B ≤ w.heap.size) (hf : f < 2) (hn : 2 * n ≤ 100) (he : Blk w nb cs tEdge) (hci : cs[ci]? = some (intC (t : Nat))) (ht : t < n) (hlen : (d (2 * t + f)).1.2.1 ≤ 1000)
    (hk : ∀ q c w', Lay B n m ns bx bb bm bd bl mt (updD d (2 * t + f) ((q, (d (2 * t + f)).1.2.1 + 1, c), (d (2 * t + f)).2 ++ [0])) w' → Ch (fun k => k = bx f ∨ famS d (2 * t + f) k) w w' → wpT Tryz.prog R Q K .pl w') :
    wpT Tryz.prog R Q (.hdrawn (.load ⟨ns, f, none⟩ .sl (fun l15 => .load ⟨nb, ci, none⟩ (.int .i64) (fun x16 => .load ⟨ns, f, none⟩ .sl (fun l17 => .load ⟨nb, ci, none⟩ (.int .i64) (fun x18 => .idx l17.1 x18 l17.2.1 1 (fun a19 =>
      .both
        (.eff (.load a19 .sl (fun l20 => .back (.eff (.new (.cells #[.int .i64 0] tInt (0, 0)) (fun n21 => .back (.eff (.run (builtin .append #[tInts, tInts] tInts #[false, false] #[.slice l20.1 l20.2.1 l20.2.2, .slice (some ⟨n21, 0, none⟩) 1 1]) (.one (.leaf .sl)) (fun l22 =>
          .back (.idx l15.1 x16 l15.2.1 1 (fun a23 => .eff (.store a23 (.slice l22.1 l22.2.1 l22.2.2) (.back (.undrawn K))))))))))))))
        (.both
          (.eff (.new (.cells #[.int .i64 0] tInt (0, 0)) (fun n24 => .back (.eff (.load a19 .sl (fun l25 => .back (.eff (.run (builtin .append #[tInts, tInts] tInts #[false, false] #[.slice l25.1 l25.2.1 l25.2.2, .slice (some ⟨n24, 0, none⟩) 1 1]) (.one (.leaf .sl)) (fun l26 =>
            .back (.idx l15.1 x16 l15.2.1 1 (fun a27 => .eff (.store a27 (.slice l26.1 l26.2.1 l26.2.2) (.back (.undrawn K))))))))))))))
          .triv)))))))) .pl w := by
  have hbx := h.hx f hf
  have hs1 : ns ≠ bx f := blk_ne h.hs hbx (by decide)
  have he1 : nb ≠ bx f := blk_ne he hbx (by decide)
  have hrow := h.fam.rows (2 * t + f)
  have hs2 : ¬ famS d (2 * t + f) ns := fun hh => by have := (h.fam.ge hh).1; have := L.low.1; omega
  have he2 : ¬ famS d (2 * t + f) nb := Row.ne hrow he (by decide)
  have hx2 : ¬ famS d (2 * t + f) (bx f) := fun hh => by have := (h.fam.ge hh).1; have := L.bxlt hf; omega
  generalize hS : (fun k => k = bx f ∨ famS d (2 * t + f) k) = S at *
  have stab1 : ∀ w', Ch S w w' → w'.cell? ⟨ns, f, none⟩ = some (.slice (some ⟨bx f, 0, none⟩) n n) := fun w' hc => hc.cellv (h.field hf) (by rw [← hS]; exact fun hh => hh.elim hs1 hs2)
  have stab2 : ∀ w', Ch S w w' → w'.cell? ⟨nb, ci, none⟩ = some (.int .i64 (t : Nat)) := fun w' hc => (he.ch hc (by rw [← hS]; exact fun hh => hh.elim he1 he2)).cell ci |>.trans hci
  have c0 : Ch S w w.drew := (Ch.refl _ _).drew
  refine hd_i (Ch S w) c0 (lh_sl stab1 (lh_int stab2 (lh_sl stab1 (lh_int stab2 (ix_i (by omega) (by show ((t : Nat) : Int) < ((n : Nat) : Int); omega) ?_)))))
  rw [Int.toNat_natCast, addr_add, Nat.zero_add, Nat.mul_one]
  have h0 : Lay B n m ns bx bb bm bd bl mt d w.drew := ⟨h.hs, h.hx, h.hb, h.hm, h.hd, h.fam.no (Ch.refl No w).drew⟩
  have hcell : ∀ {w'}, Lay B n m ns bx bb bm bd bl mt d w' → w'.cell? ⟨bx f, t, none⟩ = some (.slice (d (2 * t + f)).1.1 (d (2 * t + f)).1.2.1 (d (2 * t + f)).1.2.2) := fun h' => ((h'.hx f hf).cell t).trans (outC_at d ht)
  have last : ∀ (w1 : World) (k : Nat), Ch No w w1 → Lay B n m ns bx bb bm bd bl mt d w1 → Blk w1 k [intC 0] tInt → B ≤ w1.heap.size →
      wpT Tryz.prog R Q (.run (builtin .append #[tInts, tInts] tInts #[false, false] #[.slice (d (2 * t + f)).1.1 (d (2 * t + f)).1.2.1 (d (2 * t + f)).1.2.2, .slice (some ⟨k, 0, none⟩) 1 1]) (.one (.leaf .sl)) (fun l22 =>
          .back (.idx (some ⟨bx f, 0, none⟩) ((t : Nat) : Int) n 1 (fun a23 => .eff (.store a23 (.slice l22.1 l22.2.1 l22.2.2) (.back (.undrawn K))))))) (.ef (Ch S w)) w1 := by
    intro w1 k c1 h1 b1 hB1
    refine ap_blk (by kernel_rfl) infoInt rfl (by omega) (h1.fam.rows (2 * t + f)) hB1 b1 rfl (fun u hu => by rw [List.mem_singleton] at hu; rw [hu]; rfl) (by unfold maxLen; omega) (by omega) fun q' c' w2 g2 => ?_
    have g2' : Grew B tInt 1 w1 (d (2 * t + f)).1.1 (d (2 * t + f)).1.2.1 (d (2 * t + f)).1.2.2 w2 q' ((d (2 * t + f)).1.2.1 + 1) c' (((d (2 * t + f)).2 ++ [0]).map intC) := by rw [List.map_append]; exact g2
    have c2 : Ch S w w2 := c1.no.trans (g2.ch.mono fun k hk => by rw [← hS]; exact .inr hk)
    refine bk c2 (ix_i (by omega) (by omega) (eff_i ?_))
    rw [Int.toNat_natCast, addr_add, Nat.zero_add, Nat.mul_one]
    refine st_blk ((h1.hx f hf).ch g2.ch hx2) (by simpa using ht) rfl fun w3 c3 s3 b3 => ?_
    have c13 : Ch S w w3 := c2.trans (c3.mono fun k hk => by rw [← hS]; exact .inl hk)
    exact bk c13 (un_h (hk q' c' w3 (h1.grown L hf ht hn g2' c3 b3) c13))
  refine ⟨?_, ?_, trivial⟩
  · refine eff_i (ld_sl (hcell h0) (bk c0 (eff_i (nw (cs := [intC 0]) fun w1 c1 s1 b1 => bk (c0.trans c1.no) (eff_i ?_)))))
    exact last w1 _ ((Ch.refl No w).drew.trans c1) (h0.no c1) b1 (by have : w.drew.heap.size = w.heap.size := rfl; omega)
  · refine eff_i (nw (cs := [intC 0]) fun w1 c1 s1 b1 => bk (c0.trans c1.no) (eff_i (ld_sl (hcell (h0.no c1)) (bk (c0.trans c1.no) (eff_i ?_)))))
    exact last w1 _ ((Ch.refl No w).drew.trans c1) (h0.no c1) b1 (by have : w.drew.heap.size = w.heap.size := rfl; omega)
end
end Go.Proofs.YtkebljkdkaagfaaGreatDoor.S
namespace Go.Proofs.YtkebljkdkaagfaaGreatDoor.S
open Go Tr
set_option maxRecDepth 100000
set_option maxHeartbeats 8000000
section
variable {B n m ns : Nat} {bx : Nat → Nat} {bb bm bd : Nat} {bl : List Bool} {mt : List Int} {d : Nat → RowD} {w w' : World}
theorem updD_slV (d : Nat → RowD) (i k : Nat) (xs : List Int) : slV (updD d i ((d i).1, xs) k) = slV (d k) := by
  by_cases e : k = i
  · subst e; rw [updD_self]; rfl
  · rw [updD_ne e]
theorem Lay.stored (h : Lay B n m ns bx bb bm bd bl mt d w) (L : Lies B ns bx bb bm bd) {i : Nat} {xs : List Int} (hc : Ch (fun k => famS d i k) w w') (hr : IRow w' B (d i).1.1 (d i).1.2.1 (d i).1.2.2 xs) : Lay B n m ns bx bb bm bd bl mt (updD d i ((d i).1, xs)) w' := by
  have hrow : ∀ {b : Nat}, b < B → ¬ famS d i b := fun hb hk => by have := (h.fam.ge hk).1; omega
  refine ⟨?_, fun g' hg' => ?_, h.hb.ch hc (hrow L.low.2.2.2.1), h.hm.ch hc (hrow L.low.2.2.2.2.1), h.hd.ch hc (hrow L.low.2.2.2.2.2), h.fam.store hc hr⟩
  · rw [updD_slV, updD_slV]
    exact h.hs.ch hc (hrow L.low.1)
  · have : outC n g' (updD d i ((d i).1, xs)) = outC n g' d := List.map_congr_left fun t _ => updD_slV d i _ xs
    rw [this]
    exact (h.hx g' hg').ch hc (hrow (L.bxlt hg'))
/-- The list of sources (100) or sinks (101) has grown. -/
theorem Lay.grownS (h : Lay B n m ns bx bb bm bd bl mt d w) (L : Lies B ns bx bb bm bd) (hn : 2 * n ≤ 100) {f : Nat} (hf : f < 2) {w1 w2 : World} {q : Option Addr} {k c : Nat} {xs : List Int}
    (g : Grew B tInt 1 w (d (100 + f)).1.1 (d (100 + f)).1.2.1 (d (100 + f)).1.2.2 w1 q k c (xs.map intC)) (hc : Ch (· = ns) w1 w2) (hb : Blk w2 ns ((shC n m (bx 0) (bx 1) bb bm bd nilS (slV (d 100)) (slV (d 101))).set (4 + f) (.slice q k c)) tShape) :
    Lay B n m ns bx bb bm bd bl mt (updD d (100 + f) ((q, k, c), xs)) w2 := by
  have hrow : ∀ {b : Nat}, b < B → ¬ famS d (100 + f) b := fun hb hk => by have := (h.fam.ge hk).1; omega
  have hx1 : ∀ g', g' < 2 → bx g' ≠ ns := fun g' hg' => blk_ne (h.hx g' hg') h.hs (by decide)
  have hb1 : bb ≠ ns := blk_ne h.hb h.hs (by decide)
  have hm1 : bm ≠ ns := blk_ne h.hm h.hs (by decide)
  have hd1 : bd ≠ ns := blk_ne h.hd h.hs (by decide)
  refine ⟨?_, fun g' hg' => ?_, (h.hb.ch g.ch (hrow L.low.2.2.2.1)).ch hc hb1, (h.hm.ch g.ch (hrow L.low.2.2.2.2.1)).ch hc hm1, (h.hd.ch g.ch (hrow L.low.2.2.2.2.2)).ch hc hd1, (h.fam.grow g).low hc (fun k (e : k = ns) => by rw [e]; exact L.low.1)⟩
  · have : f = 0 ∨ f = 1 := by omega
    rcases this with rfl | rfl
    · rw [updD_self, updD_ne (by omega)]
      exact hb
    · rw [updD_self, updD_ne (by omega)]
      exact hb
  · rw [outC_same (fun t' ht' => by omega)]
    exact ((h.hx g' hg').ch g.ch (hrow (L.bxlt hg'))).ch hc (hx1 g' hg')
/-- The mates have been turned. -/
theorem Lay.mates (h : Lay B n m ns bx bb bm bd bl mt d w) (L : Lies B ns bx bb bm bd) {mt' : List Int} (hc : Ch (· = bm) w w') (hb : Blk w' bm (mt'.map intC) tInt) : Lay B n m ns bx bb bm bd bl mt' d w' :=
  ⟨h.hs.ch hc (blk_ne h.hs h.hm (by decide)), fun f hf => (h.hx f hf).ch hc (blk_ne (h.hx f hf) h.hm (by decide)), h.hb.ch hc (blk_ne h.hb h.hm (by decide)), hb, h.hd.ch hc (fun e => L.ne.2 e.symm), h.fam.low hc (fun k (e : k = bm) => by rw [e]; exact L.low.2.2.2.2.1)⟩
/-- Which edges are back edges has been told. -/
theorem Lay.backs (h : Lay B n m ns bx bb bm bd bl mt d w) (L : Lies B ns bx bb bm bd) {bl' : List Bool} (hc : Ch (· = bb) w w') (hb : Blk w' bb (bl'.map Value.bool) tBool) : Lay B n m ns bx bb bm bd bl' mt d w' :=
  ⟨h.hs.ch hc (blk_ne h.hs h.hb (by decide)), fun f hf => (h.hx f hf).ch hc (blk_ne (h.hx f hf) h.hb (by decide)), hb, h.hm.ch hc (blk_ne h.hm h.hb (by decide)), h.hd.ch hc (blk_ne h.hd h.hb (by decide)), h.fam.low hc (fun k (e : k = bb) => by rw [e]; exact L.low.2.2.2.1)⟩
theorem Lay.drew (h : Lay B n m ns bx bb bm bd bl mt d w) : Lay B n m ns bx bb bm bd bl mt d w.drew := h.no (Ch.refl No w).drew
end
section
variable {R : Ending → World → Prop} {Q : Exit → List (Tmp × Value) → World → Prop} {w : World} {B n m ns : Nat} {bx : Nat → Nat} {bb bm bd : Nat} {bl : List Bool} {mt : List Int} {d : Nat → RowD}
/-- An edge is laid at its port: s.Ins[e.To][e.In] = i (f = 0), s.Outs[e.From][e.Out] = i (f = 1). -/
theorem lay_put {K : T} {f ci cj nb t j : Nat} {x : Int} {cs : List Value} (h : Lay B n m ns bx bb bm bd bl mt d w) (L : Lies B ns bx bb bm bd) (hf : f < 2) (he : Blk w nb cs tEdge) (hci : cs[ci]? = some (intC (t : Nat))) (hcj : cs[cj]? = some (intC (j : Nat))) (ht : t < n) (hj : j < (d (2 * t + f)).2.length)
    (hk : ∀ w', Lay B n m ns bx bb bm bd bl mt (updD d (2 * t + f) ((d (2 * t + f)).1, (d (2 * t + f)).2.set j x)) w' → Ch (fun k => famS d (2 * t + f) k) w w' → wpT Tryz.prog R Q K .pl w') :
    wpT Tryz.prog R Q (.hdrawn (.load ⟨ns, f, none⟩ .sl (fun l65 => .load ⟨nb, ci, none⟩ (.int .i64) (fun x66 => .idx l65.1 x66 l65.2.1 1 (fun a67 => .load a67 .sl (fun l68 => .load ⟨nb, cj, none⟩ (.int .i64) (fun x69 => .idx l68.1 x69 l68.2.1 1 (fun a70 =>
      .eff (.store a70 (.int .i64 x) (.back (.undrawn K))))))))))) .pl w := by
  have hbx := h.hx f hf
  have hrow := h.fam.rows (2 * t + f)
  have hs2 : ¬ famS d (2 * t + f) ns := fun hh => by have := (h.fam.ge hh).1; have := L.low.1; omega
  have he2 : ¬ famS d (2 * t + f) nb := Row.ne hrow he (by decide)
  have hx2 : ¬ famS d (2 * t + f) (bx f) := fun hh => by have := (h.fam.ge hh).1; have := L.bxlt hf; omega
  have hlen := hrow.len
  obtain ⟨g, hg, hgs, -⟩ := Row.get hrow (by omega)
  generalize hS : (fun k => famS d (2 * t + f) k) = S at *
  have hsn : ¬ S ns := by rw [← hS]; exact hs2
  have hen : ¬ S nb := by rw [← hS]; exact he2
  have hxn : ¬ S (bx f) := by rw [← hS]; exact hx2
  have c0 : Ch S w w.drew := (Ch.refl _ _).drew
  refine hd_i (Ch S w) c0 (lh_sl (fun w' hc => hc.cellv (h.field hf) hsn) (lh_int (fun w' hc => ((he.ch hc hen).cell ci).trans hci) (ix_i (by omega) (by show ((t : Nat) : Int) < ((n : Nat) : Int); omega) ?_)))
  rw [Int.toNat_natCast, addr_add, Nat.zero_add, Nat.mul_one]
  refine lh_sl (fun w' hc => (((hbx.ch hc hxn).cell t).trans (outC_at d ht) : w'.cell? ⟨bx f, t, none⟩ = some (.slice (d (2 * t + f)).1.1 (d (2 * t + f)).1.2.1 (d (2 * t + f)).1.2.2))) (lh_int (fun w' hc => ((he.ch hc hen).cell cj).trans hcj) ?_)
  rw [hg] at hrow ⊢
  refine ix_i (by omega) (by show ((j : Nat) : Int) < (((d (2 * t + f)).1.2.1 : Nat) : Int); omega) (eff_i ?_)
  rw [Int.toNat_natCast, addr_add, Nat.zero_add, Nat.mul_one]
  have hrowd : Row w.drew B tInt 1 (some ⟨g, 0, none⟩) (d (2 * t + f)).1.2.1 (d (2 * t + f)).1.2.2 ((d (2 * t + f)).2.map intC) := Row.no hrow (Ch.refl No w).drew
  refine st_row hrowd (by rw [List.length_map]; exact hj) rfl fun w1 c1 r1 => ?_
  have c1' : Ch (fun k => famS d (2 * t + f) k) w.drew w1 := c1.mono fun k hk => by unfold famS; rw [hg]; exact hk
  rw [← List.map_set] at r1
  have r1' : IRow w1 B (d (2 * t + f)).1.1 (d (2 * t + f)).1.2.1 (d (2 * t + f)).1.2.2 ((d (2 * t + f)).2.set j x) := by rw [hg]; exact r1
  have cw : Ch S w w1 := c0.trans (by rw [← hS]; exact c1')
  exact bk cw (un_h (hk w1 (h.drew.stored L c1' r1') cw))
/-- Is the edge a back edge? -/
theorem lay_back {K : T} {nb n1 i : Nat} {p : PM} {tp ep : Option Addr} {tc ec : Nat} {e : EM} (h : Lay B n m ns bx bb bm bd bl mt d w) (L : Lies B ns bx bb bm bd) (he : Blk w nb (edgeC e) tEdge) (hp : Blk w n1 (planC p tp tc ep ec) tPlan) (hI : ∀ w', Ch (· = bb) w w' → IsP w' tp ep p) (ht0 : 0 ≤ e.to) (ht1 : e.to < p.tasks.length) (hi : i < bl.length) (him : i < m)
    (hk : ∀ w', Lay B n m ns bx bb bm bd (bl.set i (loopsM p e)) mt d w' → Ch (· = bb) w w' → wpT Tryz.prog R Q K .pl w') :
    wpT Tryz.prog R Q (.hdrawn (.load ⟨ns, 2, none⟩ .sl (fun l81 => .load ⟨n1, 0, none⟩ (.int .i64) (fun x82 => .load ⟨n1, 1, none⟩ .sl (fun l83 => .load ⟨n1, 2, none⟩ .sl (fun l84 => .load ⟨nb, 0, none⟩ (.int .i64) (fun x85 => .load ⟨nb, 1, none⟩ (.int .i64) (fun x86 => .load ⟨nb, 2, none⟩ (.int .i64) (fun x87 => .load ⟨nb, 3, none⟩ (.int .i64) (fun x88 =>
      .eff (.call 38 #[.agg #[.int .i64 x82, .slice l83.1 l83.2.1 l83.2.2, .slice l84.1 l84.2.1 l84.2.2], .agg #[.int .i64 x85, .int .i64 x86, .int .i64 x87, .int .i64 x88]] (.one (.leaf .bool)) (fun b89 =>
        .back (.idx l81.1 ((i : Nat) : Int) l81.2.1 1 (fun a90 => .eff (.store a90 (.bool b89) (.back (.undrawn K))))))))))))))))) .pl w := by
  have hs1 : ns ≠ bb := blk_ne h.hs h.hb (by decide)
  have he1 : nb ≠ bb := blk_ne he h.hb (by decide)
  have hp1 : n1 ≠ bb := blk_ne hp h.hb (by decide)
  have c0 : Ch (· = bb) w w.drew := (Ch.refl _ _).drew
  have pl : ∀ w', Ch (· = bb) w w' → Blk w' n1 (planC p tp tc ep ec) tPlan := fun w' hc => hp.ch hc hp1
  have pe : ∀ w', Ch (· = bb) w w' → Blk w' nb (edgeC e) tEdge := fun w' hc => he.ch hc he1
  refine hd_i (Ch (· = bb) w) c0 (lh_sl (fun w' hc => (h.hs.ch hc hs1).cell 2) (lh_int (fun w' hc => (pl w' hc).cell 0) (lh_sl (fun w' hc => (pl w' hc).cell 1) (lh_sl (fun w' hc => (pl w' hc).cell 2) (lh_int (fun w' hc => (pe w' hc).cell 0) (lh_int (fun w' hc => (pe w' hc).cell 1) (lh_int (fun w' hc => (pe w' hc).cell 2) (lh_int (fun w' hc => (pe w' hc).cell 3) (eff_i ?_)))))))))
  refine cl_i (loops_any w.drew p tp ep tc ec e (hI _ c0) ht0 ht1) ?_
  rintro r w1 ⟨rfl, c1⟩
  have c01 := c0.trans c1.no
  refine ⟨loopsM p e, rfl, bk c01 (ix_i (by omega) (by show ((i : Nat) : Int) < ((m : Nat) : Int); omega) (eff_i ?_))⟩
  rw [Int.toNat_natCast, addr_add, Nat.zero_add, Nat.mul_one]
  refine st_blk (h.drew.no c1).hb (by rw [List.length_map]; exact hi) rfl fun w2 c2 s2 b2 => ?_
  have c02 := c01.trans c2
  refine bk c02 (un_h (hk w2 ((h.drew.no c1).backs L c2 ?_) c02))
  rw [List.map_set]
  exact b2
/-- A head and its tail. -/
theorem lay_mate {K : T} {nb : Nat} {e : EM} (h : Lay B n m ns bx bb bm bd bl mt d w) (L : Lies B ns bx bb bm bd) (he : Blk w nb (edgeC e) tEdge) (hl : mt.length = n) (hf0 : 0 ≤ e.frm) (hf1 : e.frm < n) (ht0 : 0 ≤ e.to) (ht1 : e.to < n)
    (hk : ∀ w', Lay B n m ns bx bb bm bd bl ((mt.set e.to.toNat e.frm).set e.frm.toNat e.to) d w' → Ch (· = bm) w w' → wpT Tryz.prog R Q K .pl w') :
    wpT Tryz.prog R Q (.hdrawn (.load ⟨ns, 6, none⟩ .sl (fun l95 => .load ⟨nb, 2, none⟩ (.int .i64) (fun x96 => .load ⟨ns, 6, none⟩ .sl (fun l97 => .load ⟨nb, 0, none⟩ (.int .i64) (fun x98 => .load ⟨nb, 2, none⟩ (.int .i64) (fun x99 =>
      .eff (.load ⟨nb, 0, none⟩ (.int .i64) (fun x100 => .back (.idx l95.1 x96 l95.2.1 1 (fun a101 => .eff (.store a101 (.int .i64 x100) (.back (.idx l97.1 x98 l97.2.1 1 (fun a102 => .eff (.store a102 (.int .i64 x99) (.back (.undrawn K)))))))))))))))))) .pl w := by
  have hs1 : ns ≠ bm := blk_ne h.hs h.hm (by decide)
  have he1 : nb ≠ bm := blk_ne he h.hm (by decide)
  have c0 : Ch (· = bm) w w.drew := (Ch.refl _ _).drew
  have ps : ∀ w', Ch (· = bm) w w' → w'.cell? ⟨ns, 6, none⟩ = some (.slice (some ⟨bm, 0, none⟩) n n) := fun w' hc => (h.hs.ch hc hs1).cell 6
  have pe : ∀ w', Ch (· = bm) w w' → Blk w' nb (edgeC e) tEdge := fun w' hc => he.ch hc he1
  refine hd_i (Ch (· = bm) w) c0 (lh_sl ps (lh_int (fun w' hc => (pe w' hc).cell 2) (lh_sl ps (lh_int (fun w' hc => (pe w' hc).cell 0) (lh_int (fun w' hc => (pe w' hc).cell 2) (eff_i (ld_int ((pe _ c0).cell 0) (bk c0 (ix_i ht0 (by show e.to < ((n : Nat) : Int); omega) (eff_i ?_))))))))))
  rw [addr_add, Nat.zero_add, Nat.mul_one]
  refine st_blk h.drew.hm (by rw [List.length_map]; omega) rfl fun w1 c1 s1 b1 => bk (c0.trans c1) (ix_i hf0 (by show e.frm < ((n : Nat) : Int); omega) (eff_i ?_))
  rw [addr_add, Nat.zero_add, Nat.mul_one]
  refine st_blk b1 (by rw [List.length_set, List.length_map]; omega) rfl fun w2 c2 s2 b2 => ?_
  have c02 := c0.trans (c1.trans c2)
  refine bk c02 (un_h (hk w2 (h.drew.mates L (c1.trans c2) ?_) c02))
  rw [List.map_set, List.map_set]
  exact b2
end
end Go.Proofs.YtkebljkdkaagfaaGreatDoor.S
namespace Go.Proofs.YtkebljkdkaagfaaGreatDoor.S
open Go Tr
set_option maxRecDepth 100000
set_option maxHeartbeats 8000000
/-! ### A shape in memory -/
abbrev SlV := Option Addr × Nat × Nat
abbrev ShV := SlV × SlV × SlV × SlV × SlV × SlV × SlV × SlV × Unit
abbrev slW (x : SlV) : Value := .slice x.1 x.2.1 x.2.2
abbrev shV (x : ShV) : Value := .agg #[slW x.1, slW x.2.1, slW x.2.2.1, slW x.2.2.2.1, slW x.2.2.2.2.1, slW x.2.2.2.2.2.1, slW x.2.2.2.2.2.2.1, slW x.2.2.2.2.2.2.2.1]
def AtBo (w : World) (a : Option Addr) (l : List Bool) : Prop := ∀ (j : Nat) (x : Bool), l[j]? = some x → ∃ ad, a = some ad ∧ w.cell? (ad.add j) = some (.bool x)
def AtII (w : World) (a : Option Addr) (l : List (List Nat)) : Prop := ∀ (t : Nat) (r : List Nat), l[t]? = some r → ∃ ad q c, a = some ad ∧ w.cell? (ad.add t) = some (.slice q r.length c) ∧ AtI w q (natI r)
theorem AtBo.of {w w' : World} {a : Option Addr} {l : List Bool} (h : AtBo w a l) (hc : ∀ a v, w.cell? a = some v → w'.cell? a = some v) : AtBo w' a l := fun j s hs => by
  obtain ⟨xa, h6, h7⟩ := h j s hs
  exact ⟨xa, h6, hc _ _ h7⟩
theorem AtII.of {w w' : World} {a : Option Addr} {l : List (List Nat)} (h : AtII w a l) (hc : ∀ a v, w.cell? a = some v → w'.cell? a = some v) : AtII w' a l := fun t r hr => by
  obtain ⟨ad, q, c, h1, h2, h3⟩ := h t r hr
  exact ⟨ad, q, c, h1, hc _ _ h2, h3.of hc⟩
structure IsS (w : World) (x : ShV) (s : SM) : Prop where
  l1 : x.1.2.1 = s.ins.length
  l2 : x.2.1.2.1 = s.outs.length
  l3 : x.2.2.1.2.1 = s.back.length
  l4 : x.2.2.2.1.2.1 = s.order.length
  l5 : x.2.2.2.2.1.2.1 = s.sources.length
  l6 : x.2.2.2.2.2.1.2.1 = s.sinks.length
  l7 : x.2.2.2.2.2.2.1.2.1 = s.mate.length
  l8 : x.2.2.2.2.2.2.2.1.2.1 = s.depth.length
  ins : AtII w x.1.1 s.ins
  outs : AtII w x.2.1.1 s.outs
  back : AtBo w x.2.2.1.1 s.back
  order : AtI w x.2.2.2.1.1 (natI s.order)
  sources : AtI w x.2.2.2.2.1.1 (natI s.sources)
  sinks : AtI w x.2.2.2.2.2.1.1 (natI s.sinks)
  mate : AtI w x.2.2.2.2.2.2.1.1 s.mate
  depth : AtI w x.2.2.2.2.2.2.2.1.1 s.depth
theorem blk_atI {w : World} {b : Nat} {l : List Int} {t : TypeId} (h : Blk w b (l.map intC) t) : AtI w (some ⟨b, 0, none⟩) l := fun j x hx => ⟨_, rfl, by rw [addr_add, Nat.zero_add, h.cell, List.getElem?_map, hx]; rfl⟩
theorem blk_atBo {w : World} {b : Nat} {l : List Bool} {t : TypeId} (h : Blk w b (l.map Value.bool) t) : AtBo w (some ⟨b, 0, none⟩) l := fun j x hx => ⟨_, rfl, by rw [addr_add, Nat.zero_add, h.cell, List.getElem?_map, hx]; rfl⟩
/-! ### What the rows hold -/
structure Cont (n : Nat) (c0 c1 : Nat → List Int) (cs ck : List Int) (d : Nat → RowD) : Prop where
  ins : ∀ t, t < n → (d (2 * t + 0)).2 = c0 t
  outs : ∀ t, t < n → (d (2 * t + 1)).2 = c1 t
  src : (d 100).2 = cs
  snk : (d 101).2 = ck
section
variable {n : Nat} {c0 c1 c0' c1' : Nat → List Int} {cs ck : List Int} {d : Nat → RowD}
theorem Cont.upd0 (h : Cont n c0 c1 cs ck d) (hn : 2 * n ≤ 100) {t : Nat} (ht : t < n) {r : RowD} (h1 : r.2 = c0' t) (h2 : ∀ u, u ≠ t → c0' u = c0 u) : Cont n c0' c1 cs ck (updD d (2 * t + 0) r) := by
  refine ⟨fun u hu => ?_, fun u hu => by rw [updD_ne (by omega)]; exact h.outs u hu, by rw [updD_ne (by omega)]; exact h.src, by rw [updD_ne (by omega)]; exact h.snk⟩
  by_cases e : u = t
  · subst e; rw [updD_self]; exact h1
  · rw [updD_ne (by omega), h2 u e]; exact h.ins u hu
theorem Cont.upd1 (h : Cont n c0 c1 cs ck d) (hn : 2 * n ≤ 100) {t : Nat} (ht : t < n) {r : RowD} (h1 : r.2 = c1' t) (h2 : ∀ u, u ≠ t → c1' u = c1 u) : Cont n c0 c1' cs ck (updD d (2 * t + 1) r) := by
  refine ⟨fun u hu => by rw [updD_ne (by omega)]; exact h.ins u hu, fun u hu => ?_, by rw [updD_ne (by omega)]; exact h.src, by rw [updD_ne (by omega)]; exact h.snk⟩
  by_cases e : u = t
  · subst e; rw [updD_self]; exact h1
  · rw [updD_ne (by omega), h2 u e]; exact h.outs u hu
theorem Cont.updS (h : Cont n c0 c1 cs ck d) (hn : 2 * n ≤ 100) (r : RowD) : Cont n c0 c1 r.2 ck (updD d (100 + 0) r) :=
  ⟨fun u hu => by rw [updD_ne (by omega)]; exact h.ins u hu, fun u hu => by rw [updD_ne (by omega)]; exact h.outs u hu, by rw [updD_self], by rw [updD_ne (by omega)]; exact h.snk⟩
theorem Cont.updK (h : Cont n c0 c1 cs ck d) (hn : 2 * n ≤ 100) (r : RowD) : Cont n c0 c1 cs r.2 (updD d (100 + 1) r) :=
  ⟨fun u hu => by rw [updD_ne (by omega)]; exact h.ins u hu, fun u hu => by rw [updD_ne (by omega)]; exact h.outs u hu, by rw [updD_ne (by omega)]; exact h.src, by rw [updD_self]⟩
theorem Cont.congr (h : Cont n c0 c1 cs ck d) (h0 : ∀ t, t < n → c0' t = c0 t) (h1 : ∀ t, t < n → c1' t = c1 t) : Cont n c0' c1' cs ck d := ⟨fun t ht => by rw [h0 t ht]; exact h.ins t ht, fun t ht => by rw [h1 t ht]; exact h.outs t ht, h.src, h.snk⟩
end
/-- So many places. -/
def cnt0 (p : PM) (i t : Nat) : List Int := List.replicate (cntQ p (inTo t) i) 0
def cnt1 (p : PM) (i t : Nat) : List Int := List.replicate (cntQ p (outOf t) i) 0
def row0 (p : PM) (i t : Nat) : List Int := portRow p.edges (inTo t) (·.inn) (insP p t).length i
def row1 (p : PM) (i t : Nat) : List Int := portRow p.edges (outOf t) (·.out) (outsP p t).length i
theorem inTo_iff {t : Nat} {e : EM} : inTo t e = true ↔ e.to = ((t : Nat) : Int) := decide_eq_true_iff
theorem cnt0_step {p : PM} {i : Nat} {e : EM} (h : p.edges[i]? = some e) (h0 : 0 ≤ e.to) : cnt0 p (i + 1) e.to.toNat = cnt0 p i e.to.toNat ++ [0] ∧ ∀ u, u ≠ e.to.toNat → cnt0 p (i + 1) u = cnt0 p i u := by
  unfold cnt0
  refine ⟨?_, fun u hu => ?_⟩
  · rw [cntQ_step h, if_pos (show inTo e.to.toNat e = true from decide_eq_true (by omega)), List.replicate_succ']
  · rw [cntQ_step h, if_neg (by rw [inTo_iff]; omega), Nat.add_zero]
theorem cnt1_step {p : PM} {i : Nat} {e : EM} (h : p.edges[i]? = some e) (h0 : 0 ≤ e.frm) : cnt1 p (i + 1) e.frm.toNat = cnt1 p i e.frm.toNat ++ [0] ∧ ∀ u, u ≠ e.frm.toNat → cnt1 p (i + 1) u = cnt1 p i u := by
  unfold cnt1
  refine ⟨?_, fun u hu => ?_⟩
  · rw [cntQ_step h, if_pos (show outOf e.frm.toNat e = true from decide_eq_true (by omega)), List.replicate_succ']
  · rw [cntQ_step h, if_neg (by rw [show outOf u e = decide (e.frm = ((u : Nat) : Int)) from rfl, decide_eq_true_eq]; omega), Nat.add_zero]
theorem row0_zero (p : PM) (t : Nat) : row0 p 0 t = cnt0 p p.edges.length t := by
  unfold row0 cnt0
  rw [portRow_zero, cntQ_all]
  unfold insP
  rw [List.length_map]
theorem row1_zero (p : PM) (t : Nat) : row1 p 0 t = cnt1 p p.edges.length t := by
  unfold row1 cnt1
  rw [portRow_zero, cntQ_all]
  unfold outsP
  rw [List.length_map]
theorem row0_step {p : PM} (h : Good p) {i : Nat} {e : EM} (he : p.edges[i]? = some e) : row0 p (i + 1) e.to.toNat = (row0 p i e.to.toNat).set e.inn.toNat ((i : Nat) : Int) ∧ ∀ u, u ≠ e.to.toNat → row0 p (i + 1) u = row0 p i u := by
  obtain ⟨-, ⟨t0, t1⟩, -, i0, -⟩ := h.edges e (List.mem_of_getElem? he)
  unfold row0
  refine ⟨portRow_set (q := inTo e.to.toNat) (g := (·.inn)) (h.ports e.to.toNat (by omega)).1 he (decide_eq_true (by omega)) i0, fun u hu => portRow_same he ?_⟩
  exact decide_eq_false (by omega)
theorem row1_step {p : PM} (h : Good p) {i : Nat} {e : EM} (he : p.edges[i]? = some e) : row1 p (i + 1) e.frm.toNat = (row1 p i e.frm.toNat).set e.out.toNat ((i : Nat) : Int) ∧ ∀ u, u ≠ e.frm.toNat → row1 p (i + 1) u = row1 p i u := by
  obtain ⟨⟨t0, t1⟩, -, ⟨i0, -⟩, -⟩ := h.edges e (List.mem_of_getElem? he)
  unfold row1
  refine ⟨portRow_set (q := outOf e.frm.toNat) (g := (·.out)) (h.ports e.frm.toNat (by omega)).2 he (decide_eq_true (by omega)) i0, fun u hu => portRow_same he ?_⟩
  exact decide_eq_false (by omega)
theorem row0_all (p : PM) (t : Nat) : row0 p p.edges.length t = natI (insM p t) := portRow_all _ _ _ _
theorem row1_all (p : PM) (t : Nat) : row1 p p.edges.length t = natI (outsM p t) := portRow_all _ _ _ _
def kindsTo (p : PM) (k : Int) (i : Nat) : List Nat := (List.range i).filter fun i => kindAt p i == k
theorem kindsTo_step (p : PM) (k : Int) (i : Nat) : kindsTo p k (i + 1) = kindsTo p k i ++ (if kindAt p i == k then [i] else []) := by
  unfold kindsTo
  rw [List.range_succ, List.filter_append]
  congr 1
  cases h : kindAt p i == k <;> simp [List.filter, h]
theorem kindsTo_len (p : PM) (k : Int) (i : Nat) : (kindsTo p k i).length ≤ i := by
  unfold kindsTo
  exact Nat.le_trans (List.length_filter_le _ _) (by simp)
theorem natI_app (a b : List Nat) : natI (a ++ b) = natI a ++ natI b := List.map_append
/-! ### lay -/
theorem lay_any (w : World) (p : PM) (tp ep : Option Addr) (tc ec : Nat) (h : IsP w tp ep p) (hg : Good p) (hn : p.tasks.length ≤ 12) (hen : p.edges.length ≤ 24) :
    Calls Tryz.prog 24 #[planV p tp tc ep ec] w fun r w' => ∃ x, r = .returned (shV x) ∧ Ch No w w' ∧ ∀ W', Ch (fun k => k < w.heap.size) w' W' → IsS W' x (shapeM p) := by
  refine calls_of_fnT mixed Tryz.func24 (s := s24) ?_
  rw [t24]
  refine nw (cs := planC p tp tc ep ec) fun w1 c1 s1 b1 => nw (cs := List.replicate 8 nilS) fun w2 c2 s2 b2 => ?_
  have c02 := c1.trans c2
  have b1' := b1.ch c2 (fun h => h)
  generalize hn1 : w.heap.size = n1 at *
  generalize hn2 : w1.heap.size = n2 at *
  refine ld_sl (b1'.cell 1) ?_
  refine lay_cut (n := p.tasks.length) (m := p.edges.length) (n1 := n1) (ep := ep) (ec := ec) (cs1 := planC p tp tc ep ec) hn hen rfl rfl (by kernel_rfl) b1' rfl fun ns bi bo bb bm bd g w3 M => ?_
  obtain ⟨cM, ⟨m1, m2, m3, m4, m5, m6⟩, hs, hi, ho, hb, hm, hd, ne1, ne2⟩ := M
  dsimp only
  obtain ⟨bx, hbx⟩ : ∃ bx : Nat → Nat, bx = fun f => if f = 0 then bi else bo := ⟨_, rfl⟩
  have bx0 : bx 0 = bi := by rw [hbx]; rfl
  have bx1 : bx 1 = bo := by rw [hbx]; rfl
  generalize hB : w3.heap.size = B at *
  have L : Lies B ns bx bb bm bd := ⟨⟨by have := hs.lt; omega, by rw [bx0]; have := hi.lt; omega, by rw [bx1]; have := ho.lt; omega, by have := hb.lt; omega, by have := hm.lt; omega, by have := hd.lt; omega⟩, by rw [bx0, bx1]; exact ne1, ne2⟩
  have hz2 : w2.heap.size ≤ B := by rw [← hB]; exact cM.size
  have newX : ∀ f, f < 2 → w2.heap.size ≤ bx f := fun f hf => by
    have : f = 0 ∨ f = 1 := by omega
    rcases this with rfl | rfl
    · rw [bx0]; exact m2
    · rw [bx1]; exact m3
  have L0 : Lay B p.tasks.length p.edges.length ns bx bb bm bd (List.replicate p.edges.length false) (List.replicate p.tasks.length 0) (fun _ => ((none, 0, 0), [])) w3 := by
    have hc : ∀ f, outC p.tasks.length f (fun _ => ((none, 0, 0), [])) = List.replicate p.tasks.length nilS := fun f => by
      apply List.ext_getElem?
      intro k
      rw [List.getElem?_replicate]
      by_cases hk : k < p.tasks.length
      · rw [outC_at _ hk, if_pos hk]; rfl
      · rw [List.getElem?_eq_none (by simpa using hk), if_neg hk]
    refine ⟨by rw [bx0, bx1]; exact hs, fun f hf => ?_, by rw [List.map_replicate]; exact hb, by rw [List.map_replicate]; exact hm, hd, Fam.nil _ _⟩
    rw [hc]
    have : f = 0 ∨ f = 1 := by omega
    rcases this with rfl | rfl
    · rw [bx0]; exact hi
    · rw [bx1]; exact ho
  clear hs hi ho hb hm hd
  have h2 := h.ch c02
  have h2n : 2 * p.tasks.length ≤ 100 := by omega
  refine ld_sl ((b1'.ch cM (fun h => h)).cell 2) ?_
  -- a place for each edge at its two ports
  refine loop_i mixed m24_7 s24_7 (by kernel_rfl) (by kernel_rfl) (fun v W => ∃ i d, v.1 = ((i : Nat) : Int) ∧ i ≤ p.edges.length ∧ Lay B p.tasks.length p.edges.length ns bx bb bm bd (List.replicate p.edges.length false) (List.replicate p.tasks.length 0) d W ∧ Ch No w2 W ∧ B ≤ W.heap.size ∧ Cont p.tasks.length (cnt0 p i) (cnt1 p i) [] [] d) (fun v _ => p.edges.length - v.1.toNat) (0, ()) rfl
    ⟨0, _, rfl, Nat.zero_le _, L0, cM, by omega, ⟨fun _ _ => rfl, fun _ _ => rfl, rfl, rfl⟩⟩ ?_
  rintro ⟨_, ⟨⟩⟩ g W ⟨i, d, rfl, hi, LW, cW, hBW, hC⟩
  rw [t24_7]
  dsimp only
  refine br_both (fun e => ?_) fun e => ?_
  · have e := lt_t e
    obtain ⟨ed, hed⟩ := some_at (l := p.edges) (i := i) (by omega)
    obtain ⟨⟨f0, f1⟩, ⟨t0, t1⟩, -⟩ := hg.edges ed (List.mem_of_getElem? hed)
    refine ed_i (h2.ch cW) hed fun ea nb W3 c3 hnb b3 => ?_
    have LW3 := LW.no c3
    have cW3 := cW.trans c3
    have hBW3 : B ≤ W3.heap.size := Nat.le_trans hBW c3.size
    obtain ⟨k0, k0'⟩ := cnt0_step hed t0
    obtain ⟨k1, k1'⟩ := cnt1_step hed f0
    have hlen0 : (d (2 * ed.to.toNat + 0)).1.2.1 ≤ 1000 := by
      rw [(LW.fam.rows _).len, hC.ins _ (by omega)]
      unfold cnt0
      rw [List.length_replicate]
      have := cntQ_le p (inTo ed.to.toNat) i
      omega
    refine cut_i mixed s24_14 (fun _ W4 => ∃ d', Lay B p.tasks.length p.edges.length ns bx bb bm bd (List.replicate p.edges.length false) (List.replicate p.tasks.length 0) d' W4 ∧ Ch No w2 W4 ∧ B ≤ W4.heap.size ∧ Cont p.tasks.length (cnt0 p (i + 1)) (cnt1 p i) [] [] d' ∧ Blk W4 nb (edgeC ed) tEdge) (by kernel_rfl) (fun g => ?_) ?_
    · rw [t24_14]
      refine lay_app (f := 0) (ci := 2) (t := ed.to.toNat) LW3 L hBW3 (by omega) h2n b3 (by show some (intC ed.to) = _; rw [Int.toNat_of_nonneg t0]) (by omega) hlen0 fun q c W4 L4 c4 => ?_
      refine ⟨rfl, (), rfl, _, L4, cW3.then_ c4 (fun k hk hh => ?_), Nat.le_trans hBW3 c4.size, hC.upd0 h2n (by omega) ?_ k0', b3.ch c4 (fun hh => ?_)⟩
      · rcases hh with hh | hh
        · have := newX 0 (by omega); omega
        · have := (LW3.fam.ge hh).1; omega
      · rw [k0, hC.ins _ (by omega)]
      · rcases hh with hh | hh
        · exact blk_ne b3 (LW3.hx 0 (by omega)) (by decide) hh
        · exact Row.ne (LW3.fam.rows _) b3 (by decide) hh
    rintro ⟨⟩ g W4 ⟨d4, L4, c4, hB4, hC4, b4⟩
    have hlen1 : (d4 (2 * ed.frm.toNat + 1)).1.2.1 ≤ 1000 := by
      rw [(L4.fam.rows _).len, hC4.outs _ (by omega)]
      unfold cnt1
      rw [List.length_replicate]
      have := cntQ_le p (outOf ed.frm.toNat) i
      omega
    refine lay_app (f := 1) (ci := 0) (t := ed.frm.toNat) L4 L hB4 (by omega) h2n b4 (by show some (intC ed.frm) = _; rw [Int.toNat_of_nonneg f0]) (by omega) hlen1 fun q c W5 L5 c5 => ?_
    refine ⟨(((i : Nat) : Int) + 1, ()), by rw [wrap_succ (by omega) (by omega)]; rfl, ⟨i + 1, _, rfl, by omega, L5, c4.then_ c5 (fun k hk hh => ?_), Nat.le_trans hB4 c5.size, hC4.upd1 h2n (by omega) ?_ k1'⟩, by show p.edges.length - (((i : Nat) : Int) + 1).toNat < _; omega⟩
    · rcases hh with hh | hh
      · have := newX 1 (by omega); omega
      · have := (L4.fam.ge hh).1; omega
    · rw [k1, hC4.outs _ (by omega)]
  have e := lt_f e
  obtain rfl : i = p.edges.length := by omega
  refine ⟨rfl, (), rfl, fun g => ?_⟩
  clear L0 cM
  have hCi : Cont p.tasks.length (row0 p 0) (row1 p 0) [] [] d := hC.congr (fun t _ => row0_zero p t) (fun t _ => row1_zero p t)
  -- no mates yet; sources and sinks
  refine loop_i mixed m24_43 s24_43 (by kernel_rfl) (by kernel_rfl) (fun v W => ∃ i d, v.1 = ((i : Nat) : Int) ∧ i ≤ p.tasks.length ∧ Lay B p.tasks.length p.edges.length ns bx bb bm bd (List.replicate p.edges.length false) (List.replicate i (-1) ++ List.replicate (p.tasks.length - i) 0) d W ∧ Ch No w2 W ∧ B ≤ W.heap.size ∧ Cont p.tasks.length (row0 p 0) (row1 p 0) (natI (kindsTo p 1 i)) (natI (kindsTo p 13 i)) d) (fun v _ => p.tasks.length - v.1.toNat) (0, ()) rfl
    ⟨0, d, rfl, Nat.zero_le _, by simpa using LW, cW, hBW, hCi⟩ ?_
  clear LW cW hBW hC hCi
  rintro ⟨_, ⟨⟩⟩ g W ⟨i, d, rfl, hi, LW, cW, hBW, hC⟩
  rw [t24_43]
  dsimp only
  refine br_both (fun e2 => ?_) fun e2 => ?_
  · have e2 := lt_t e2
    have hit : i < p.tasks.length := by omega
    obtain ⟨tk, htk⟩ := some_at (l := p.tasks) (i := i) hit
    have hka := kindAt_of htk
    refine ld_sl (LW.hs.cell 6) (ix_i (by omega) (by show ((i : Nat) : Int) < ((p.tasks.length : Nat) : Int); omega) ?_)
    rw [Int.toNat_natCast, addr_add, Nat.zero_add, Nat.mul_one]
    refine st_blk LW.hm (by simp; omega) rfl fun W3 c3 s3 b3 => ?_
    have hset : (List.replicate i (-1 : Int) ++ List.replicate (p.tasks.length - i) 0).set i (-1) = List.replicate (i + 1) (-1) ++ List.replicate (p.tasks.length - (i + 1)) 0 := by
      rw [List.set_append_right _ _ (by simp), List.length_replicate, Nat.sub_self, show p.tasks.length - i = (p.tasks.length - (i + 1)) + 1 by omega, List.replicate_succ, List.set_cons_zero, List.replicate_succ' (n := i), List.append_assoc]
      rfl
    have L3 := LW.mates L (mt' := List.replicate (i + 1) (-1) ++ List.replicate (p.tasks.length - (i + 1)) 0) c3 (by rw [← hset, List.map_set]; exact b3)
    have cW3 : Ch No w2 W3 := cW.then_ c3 (fun k hk (hh : k = bm) => by omega)
    have hB3 : B ≤ W3.heap.size := Nat.le_trans hBW c3.size
    have b13 := b1'.ch cW3 (fun h => h)
    obtain ⟨ta, rfl, -, hkc, -⟩ := (h2.ch cW3).tasks i tk htk
    refine ld_sl (b13.cell 1) (ix_i (by omega) (by show ((i : Nat) : Int) < ((p.tasks.length : Nat) : Int); omega) ?_)
    rw [Int.toNat_natCast]
    have goOn : ∀ (W6 : World) (d6 : Nat → RowD), Lay B p.tasks.length p.edges.length ns bx bb bm bd (List.replicate p.edges.length false) (List.replicate (i + 1) (-1) ++ List.replicate (p.tasks.length - (i + 1)) 0) d6 W6 → Ch No w2 W6 → B ≤ W6.heap.size → Cont p.tasks.length (row0 p 0) (row1 p 0) (natI (kindsTo p 1 (i + 1))) (natI (kindsTo p 13 (i + 1))) d6 →
        ∃ v : MVars m24_43, [((61 : Tmp), Value.int .i64 (IntKind.i64.wrap (((i : Nat) : Int) + 1)))] = mvals m24_43 v ∧ ((∃ i d, v.1 = ((i : Nat) : Int) ∧ i ≤ p.tasks.length ∧ Lay B p.tasks.length p.edges.length ns bx bb bm bd (List.replicate p.edges.length false) (List.replicate i (-1) ++ List.replicate (p.tasks.length - i) 0) d W6 ∧ Ch No w2 W6 ∧ B ≤ W6.heap.size ∧ Cont p.tasks.length (row0 p 0) (row1 p 0) (natI (kindsTo p 1 i)) (natI (kindsTo p 13 i)) d) ∧ p.tasks.length - v.1.toNat < p.tasks.length - ((i : Nat) : Int).toNat) := fun W6 d6 g1 g2 g3 g4 =>
      ⟨(((i : Nat) : Int) + 1, ()), by rw [wrap_succ (by omega) (by omega)]; rfl, ⟨i + 1, d6, rfl, by omega, g1, g2, g3, g4⟩, by show p.tasks.length - (((i : Nat) : Int) + 1).toNat < _; omega⟩
    have hk1 := kindsTo_step p 1 i
    have hk13 := kindsTo_step p 13 i
    rw [hka] at hk1 hk13
    have grow : ∀ (f : Nat) (hf : f < 2) (W4 : World) (q : Option Addr) (c : Nat) (l : List Nat), (d (100 + f)).2 = natI l → Grew B tInt 1 W3 (d (100 + f)).1.1 (d (100 + f)).1.2.1 (d (100 + f)).1.2.2 W4 q ((d (100 + f)).1.2.1 + 1) c ((natI (l ++ [i])).map intC) → ∀ (W5 : World), Ch (· = ns) W4 W5 → Blk W5 ns ((shC p.tasks.length p.edges.length (bx 0) (bx 1) bb bm bd nilS (slV (d 100)) (slV (d 101))).set (4 + f) (.slice q ((d (100 + f)).1.2.1 + 1) c)) tShape →
        Lay B p.tasks.length p.edges.length ns bx bb bm bd (List.replicate p.edges.length false) (List.replicate (i + 1) (-1) ++ List.replicate (p.tasks.length - (i + 1)) 0) (updD d (100 + f) ((q, (d (100 + f)).1.2.1 + 1, c), natI (l ++ [i]))) W5 ∧ Ch No w2 W5 ∧ B ≤ W5.heap.size := fun f hf W4 q c l hl g4 W5 c5 b5 =>
      ⟨L3.grownS L h2n hf g4 c5 b5, (cW3.then_ g4.ch (fun k hk hh => by have := (L3.fam.ge (i := 100 + f) hh).1; omega)).then_ c5 (fun k hk (hh : k = ns) => by omega), Nat.le_trans hB3 (Nat.le_trans g4.ch.size c5.size)⟩
    refine ld_int hkc (br_both (fun e3 => ?_) fun e3 => ?_)
    · have e3 : tk.kind = 1 := eq_of_beq e3
      rw [e3] at hk1 hk13
      rw [if_pos (by decide)] at hk1
      rw [if_neg (by decide), List.append_nil] at hk13
      have hr := L3.fam.rows 100
      have hl100 := hr.len
      rw [hC.src] at hl100 hr
      have := kindsTo_len p 1 i
      unfold natI at hl100
      rw [List.length_map] at hl100
      refine ld_sl (L3.hs.cell 4) (ap_int hr hB3 ((i : Nat) : Int) (by omega) fun k q c W4 g4 => ?_)
      have g4' : Grew B tInt 1 W3 (d (100 + 0)).1.1 (d (100 + 0)).1.2.1 (d (100 + 0)).1.2.2 W4 q ((d (100 + 0)).1.2.1 + 1) c ((natI (kindsTo p 1 i ++ [i])).map intC) := by rw [natI_app]; exact g4
      refine st_blk (L3.hs.ch g4.ch (fun hh => by have := (L3.fam.ge (i := 100) hh).1; have := L.low.1; omega)) (by simp) rfl fun W5 c5 s5 b5 => ?_
      obtain ⟨x1, x2, x3⟩ := grow 0 (by omega) W4 q c (kindsTo p 1 i) hC.src g4' W5 c5 b5
      refine goOn W5 _ x1 x2 x3 ?_
      rw [hk13, hk1]
      exact hC.updS h2n ((q, (d (100 + 0)).1.2.1 + 1, c), natI (kindsTo p 1 i ++ [i]))
    · have e3 : ¬ tk.kind = 1 := fun hh => by rw [hh] at e3; simp at e3
      rw [if_neg (by simpa using e3), List.append_nil] at hk1
      refine br_both (fun e4 => ?_) fun e4 => ?_
      · have e4 : tk.kind = 13 := eq_of_beq e4
        rw [e4] at hk13
        rw [if_pos (by decide)] at hk13
        have hr := L3.fam.rows 101
        have hl101 := hr.len
        rw [hC.snk] at hl101 hr
        have := kindsTo_len p 13 i
        unfold natI at hl101
        rw [List.length_map] at hl101
        refine ld_sl (L3.hs.cell 5) (ap_int hr hB3 ((i : Nat) : Int) (by omega) fun k q c W4 g4 => ?_)
        have g4' : Grew B tInt 1 W3 (d (100 + 1)).1.1 (d (100 + 1)).1.2.1 (d (100 + 1)).1.2.2 W4 q ((d (100 + 1)).1.2.1 + 1) c ((natI (kindsTo p 13 i ++ [i])).map intC) := by rw [natI_app]; exact g4
        refine st_blk (L3.hs.ch g4.ch (fun hh => by have := (L3.fam.ge (i := 101) hh).1; have := L.low.1; omega)) (by simp) rfl fun W5 c5 s5 b5 => ?_
        obtain ⟨x1, x2, x3⟩ := grow 1 (by omega) W4 q c (kindsTo p 13 i) hC.snk g4' W5 c5 b5
        refine goOn W5 _ x1 x2 x3 ?_
        rw [hk13, hk1]
        exact hC.updK h2n ((q, (d (100 + 1)).1.2.1 + 1, c), natI (kindsTo p 13 i ++ [i]))
      · have e4 : ¬ tk.kind = 13 := fun hh => by rw [hh] at e4; simp at e4
        rw [if_neg (by simpa using e4), List.append_nil] at hk13
        exact goOn W3 d L3 cW3 hB3 (by rw [hk1, hk13]; exact hC)
  have e2 := lt_f e2
  obtain rfl : i = p.tasks.length := by omega
  refine ⟨rfl, (), rfl, fun g => ?_⟩
  rw [Nat.sub_self, List.replicate_zero, List.append_nil] at LW
  have b1W := b1'.ch cW (fun h => h)
  refine ld_sl (b1W.cell 2) ?_
  -- each edge at its ports; back edges; mates
  refine loop_i mixed m24_57 s24_57 (by kernel_rfl) (by kernel_rfl) (fun v W => ∃ i d, v.1 = ((i : Nat) : Int) ∧ i ≤ p.edges.length ∧ Lay B p.tasks.length p.edges.length ns bx bb bm bd ((p.edges.take i).map (loopsM p) ++ List.replicate (p.edges.length - i) false) ((p.edges.take i).foldl (mateStep p) (List.replicate p.tasks.length (-1))) d W ∧ Ch No w2 W ∧ B ≤ W.heap.size ∧ Cont p.tasks.length (row0 p i) (row1 p i) (natI (kindsAre p 1)) (natI (kindsAre p 13)) d) (fun v _ => p.edges.length - v.1.toNat) (0, ()) rfl
    ⟨0, d, rfl, Nat.zero_le _, by simpa using LW, cW, hBW, hC⟩ ?_
  clear LW cW hBW hC b1W
  rintro ⟨_, ⟨⟩⟩ g W ⟨i, d, rfl, hi, LW, cW, hBW, hC⟩
  rw [t24_57]
  dsimp only
  generalize hmt : (p.edges.take i).foldl (mateStep p) (List.replicate p.tasks.length (-1)) = mt at *
  have hmtl : mt.length = p.tasks.length := by rw [← hmt, mate_len]; simp
  refine br_both (fun e3 => ?_) fun e3 => ?_
  · have e3 := lt_t e3
    have hil : i < p.edges.length := by omega
    obtain ⟨ed, hed⟩ := some_at hil
    obtain ⟨⟨f0, f1⟩, ⟨t0, t1⟩, ⟨o0, o1⟩, i0, i1⟩ := hg.edges ed (List.mem_of_getElem? hed)
    refine ed_i (h2.ch cW) hed fun ea nb W3 c3 hnb b3 => ?_
    have LW3 := LW.no c3
    have cW3 := cW.trans c3
    have hBW3 : B ≤ W3.heap.size := Nat.le_trans hBW c3.size
    obtain ⟨r0, r0'⟩ := row0_step hg hed
    obtain ⟨r1, r1'⟩ := row1_step hg hed
    have hin := (in_is hg hed).1
    have hout := (out_is hg hed).1
    -- its in port
    refine cut_i mixed s24_64 (fun _ W4 => ∃ d', Lay B p.tasks.length p.edges.length ns bx bb bm bd ((p.edges.take i).map (loopsM p) ++ List.replicate (p.edges.length - i) false) mt d' W4 ∧ Ch No w2 W4 ∧ B ≤ W4.heap.size ∧ Cont p.tasks.length (row0 p (i + 1)) (row1 p i) (natI (kindsAre p 1)) (natI (kindsAre p 13)) d' ∧ Blk W4 nb (edgeC ed) tEdge) (by kernel_rfl) (fun g => ?_) ?_
    · rw [t24_64]
      refine lay_put (f := 0) (ci := 2) (cj := 3) (t := ed.to.toNat) (j := ed.inn.toNat) LW3 L (by omega) b3 (by show some (intC ed.to) = _; rw [Int.toNat_of_nonneg t0]) (by show some (intC ed.inn) = _; rw [Int.toNat_of_nonneg i0]) (by omega) (by rw [hC.ins _ (by omega)]; unfold row0; rw [portRow_len]; exact hin) fun W4 L4 c4 => ?_
      refine ⟨rfl, (), rfl, _, L4, cW3.then_ c4 (fun k hk hh => by have := (LW3.fam.ge hh).1; omega), Nat.le_trans hBW3 c4.size, hC.upd0 h2n (by omega) ?_ r0', b3.ch c4 (fun hh => Row.ne (LW3.fam.rows _) b3 (by decide) hh)⟩
      rw [r0, hC.ins _ (by omega)]
    rintro ⟨⟩ g W4 ⟨d4, L4, c4, hB4, hC4, b4⟩
    -- its out port
    refine cut_i mixed s24_72 (fun _ W5 => ∃ d', Lay B p.tasks.length p.edges.length ns bx bb bm bd ((p.edges.take i).map (loopsM p) ++ List.replicate (p.edges.length - i) false) mt d' W5 ∧ Ch No w2 W5 ∧ B ≤ W5.heap.size ∧ Cont p.tasks.length (row0 p (i + 1)) (row1 p (i + 1)) (natI (kindsAre p 1)) (natI (kindsAre p 13)) d' ∧ Blk W5 nb (edgeC ed) tEdge) (by kernel_rfl) (fun g => ?_) ?_
    · rw [t24_72]
      refine lay_put (f := 1) (ci := 0) (cj := 1) (t := ed.frm.toNat) (j := ed.out.toNat) L4 L (by omega) b4 (by show some (intC ed.frm) = _; rw [Int.toNat_of_nonneg f0]) (by show some (intC ed.out) = _; rw [Int.toNat_of_nonneg o0]) (by omega) (by rw [hC4.outs _ (by omega)]; unfold row1; rw [portRow_len]; exact hout) fun W5 L5 c5 => ?_
      refine ⟨rfl, (), rfl, _, L5, c4.then_ c5 (fun k hk hh => by have := (L4.fam.ge hh).1; omega), Nat.le_trans hB4 c5.size, hC4.upd1 h2n (by omega) ?_ r1', b4.ch c5 (fun hh => Row.ne (L4.fam.rows _) b4 (by decide) hh)⟩
      rw [r1, hC4.outs _ (by omega)]
    rintro ⟨⟩ g W5 ⟨d5, L5, c5, hB5, hC5, b5⟩
    -- is it a back edge
    have hbl : ((p.edges.take i).map (loopsM p) ++ List.replicate (p.edges.length - i) false).set i (loopsM p ed) = (p.edges.take (i + 1)).map (loopsM p) ++ List.replicate (p.edges.length - (i + 1)) false := by
      have hl : ((p.edges.take i).map (loopsM p)).length = i := by rw [List.length_map, List.length_take]; omega
      rw [List.set_append_right _ _ (by omega), hl, Nat.sub_self, show p.edges.length - i = (p.edges.length - (i + 1)) + 1 by omega, List.replicate_succ, List.set_cons_zero, List.take_add_one, hed, Option.toList_some, List.map_append, List.append_assoc]
      rfl
    refine cut_i mixed s24_80 (fun _ W6 => ∃ d', Lay B p.tasks.length p.edges.length ns bx bb bm bd ((p.edges.take (i + 1)).map (loopsM p) ++ List.replicate (p.edges.length - (i + 1)) false) mt d' W6 ∧ Ch No w2 W6 ∧ B ≤ W6.heap.size ∧ Cont p.tasks.length (row0 p (i + 1)) (row1 p (i + 1)) (natI (kindsAre p 1)) (natI (kindsAre p 13)) d' ∧ Blk W6 nb (edgeC ed) tEdge) (by kernel_rfl) (fun g => ?_) ?_
    · rw [t24_80]
      refine lay_back (p := p) (tp := tp) (ep := ep) (tc := tc) (ec := ec) (e := ed) L5 L b5 (b1'.ch c5 (fun h => h)) (fun w' hc => h2.ch (c5.then_ hc (fun k hk (hh : k = bb) => by omega))) t0 t1 (by simp; omega) hil fun W6 L6 c6 => ?_
      rw [hbl] at L6
      exact ⟨rfl, (), rfl, _, L6, c5.then_ c6 (fun k hk (hh : k = bb) => by omega), Nat.le_trans hB5 c6.size, hC5, b5.ch c6 (blk_ne b5 L5.hb (by decide))⟩
    rintro ⟨⟩ g W6 ⟨d6, L6, c6, hB6, hC6, b6⟩
    have hbat : ((p.edges.take (i + 1)).map (loopsM p) ++ List.replicate (p.edges.length - (i + 1)) false)[i]? = some (loopsM p ed) := by
      rw [← hbl, List.getElem?_set_self (by simp; omega)]
    refine ld_sl (L6.hs.cell 2) (ix_i (by omega) (by show ((i : Nat) : Int) < ((p.edges.length : Nat) : Int); omega) ?_)
    rw [Int.toNat_natCast, addr_add, Nat.zero_add, Nat.mul_one]
    have hst : (p.edges.take (i + 1)).foldl (mateStep p) (List.replicate p.tasks.length (-1)) = mateStep p mt ed := by rw [List.take_add_one, hed, List.foldl_append, hmt]; rfl
    have goOn : ∀ (W7 : World), Lay B p.tasks.length p.edges.length ns bx bb bm bd ((p.edges.take (i + 1)).map (loopsM p) ++ List.replicate (p.edges.length - (i + 1)) false) (mateStep p mt ed) d6 W7 → Ch No w2 W7 → B ≤ W7.heap.size →
        ∃ v : MVars m24_57, [((94 : Tmp), Value.int .i64 (IntKind.i64.wrap (((i : Nat) : Int) + 1)))] = mvals m24_57 v ∧ ((∃ i d, v.1 = ((i : Nat) : Int) ∧ i ≤ p.edges.length ∧ Lay B p.tasks.length p.edges.length ns bx bb bm bd ((p.edges.take i).map (loopsM p) ++ List.replicate (p.edges.length - i) false) ((p.edges.take i).foldl (mateStep p) (List.replicate p.tasks.length (-1))) d W7 ∧ Ch No w2 W7 ∧ B ≤ W7.heap.size ∧ Cont p.tasks.length (row0 p i) (row1 p i) (natI (kindsAre p 1)) (natI (kindsAre p 13)) d) ∧ p.edges.length - v.1.toNat < p.edges.length - ((i : Nat) : Int).toNat) := fun W7 g1 g2 g3 =>
      ⟨(((i : Nat) : Int) + 1, ()), by rw [wrap_succ (by omega) (by omega)]; rfl, ⟨i + 1, d6, rfl, by omega, by rw [hst]; exact g1, g2, g3, hC6⟩, by show p.edges.length - (((i : Nat) : Int) + 1).toNat < _; omega⟩
    refine ld_bool (((L6.hb).cell i).trans (by rw [List.getElem?_map, hbat]; rfl)) (br_both (fun e4 => ?_) fun e4 => ?_)
    · have hms : mateStep p mt ed = (mt.set ed.to.toNat ed.frm).set ed.frm.toNat ed.to := by unfold mateStep; rw [if_pos e4]
      refine lay_mate L6 L b6 hmtl f0 (by omega) t0 (by omega) fun W7 L7 c7 => ?_
      rw [← hms] at L7
      exact goOn W7 L7 (c6.then_ c7 (fun k hk (hh : k = bm) => by omega)) (Nat.le_trans hB6 c7.size)
    · have hms : mateStep p mt ed = mt := by unfold mateStep; rw [if_neg (by rw [e4]; decide)]
      exact goOn W6 (by rw [hms]; exact L6) c6 hB6
  have e3 := lt_f e3
  obtain rfl : i = p.edges.length := by omega
  refine ⟨rfl, (), rfl, fun g => ?_⟩
  rw [List.take_length, Nat.sub_self, List.replicate_zero, List.append_nil] at LW
  rw [List.take_length] at hmt
  have hmate : mt = mateM p := hmt.symm
  have b1W := b1'.ch cW (fun h => h)
  -- the order, the depths
  have hrowlen : ∀ t, t < p.tasks.length → (d (2 * t + 0)).1.2.1 = (insM p t).length ∧ (d (2 * t + 0)).2 = natI (insM p t) ∧ (d (2 * t + 1)).1.2.1 = (outsM p t).length ∧ (d (2 * t + 1)).2 = natI (outsM p t) := fun t ht => by
    have e1 := hC.ins t ht
    have e2 := hC.outs t ht
    rw [row0_all] at e1
    rw [row1_all] at e2
    exact ⟨by rw [(LW.fam.rows _).len, e1]; simp [natI], e1, by rw [(LW.fam.rows _).len, e2]; simp [natI], e2⟩
  have keepX : ∀ {W' : World} {f : Nat}, f < 2 → Ch (fun k => k = ns ∨ k = bd) W W' → Blk W' (bx f) (outC p.tasks.length f d) tInts := fun hf hc =>
    (LW.hx _ hf).ch hc (fun hh => by
      rcases hh with hh | hh
      · exact blk_ne (LW.hx _ hf) LW.hs (by decide) hh
      · exact blk_ne (LW.hx _ hf) LW.hd (by decide) hh)
  have keepB : ∀ {W' : World}, Ch (fun k => k = ns ∨ k = bd) W W' → Blk W' bb ((p.edges.map (loopsM p)).map Value.bool) tBool := fun hc =>
    LW.hb.ch hc (fun hh => by
      rcases hh with hh | hh
      · exact blk_ne LW.hb LW.hs (by decide) hh
      · exact blk_ne LW.hb LW.hd (by decide) hh)
  have keepF : ∀ {W' : World}, Ch (fun k => k = ns ∨ k = bd) W W' → Fam W' B d := fun hc => LW.fam.low hc (fun k hh => by
    have := L.low
    rcases hh with hh | hh <;> rw [hh]
    · exact L.low.1
    · exact L.low.2.2.2.2.2)
  have keepN : ∀ {W' : World}, Ch (fun k => k = ns ∨ k = bd) W W' → Ch No w2 W' := fun hc => cW.then_ hc (fun k hk hh => by rcases hh with hh | hh <;> omega)
  have keepM : ∀ {W' : World}, Ch (fun k => k = ns ∨ k = bd) W W' → Blk W' bm (mt.map intC) tInt := fun hc =>
    LW.hm.ch hc (fun hh => by
      rcases hh with hh | hh
      · exact blk_ne LW.hm LW.hs (by decide) hh
      · exact L.ne.2 hh)
  refine ld_int (b1W.cell 0) (ld_sl (b1W.cell 1) (ld_sl (b1W.cell 2) (cl_i (order_any W p tp ep tc ec ns bd _ (some ⟨bx 0, 0, none⟩) (some ⟨bb, 0, none⟩) p.tasks.length p.edges.length LW.hs rfl rfl rfl rfl rfl (by rw [List.map_replicate]; exact LW.hd) (fun t => ((d (2 * t + 0)).1.1, (d (2 * t + 0)).1.2.2)) ?_ hg hn hen) ?_)))
  · intro W' hc
    refine ⟨h2.ch (keepN hc), fun t ht => ⟨_, rfl, ?_, ?_⟩, fun i e he => ⟨_, rfl, ?_⟩⟩
    · rw [addr_add, Nat.zero_add, (keepX (by omega) hc).cell, outC_at _ ht]
      show some (Value.slice _ _ _) = _
      rw [(hrowlen t ht).1]
    · have := IRow.atI ((keepF hc).rows (2 * t + 0))
      rw [(hrowlen t ht).2.1] at this
      exact this
    · rw [addr_add, Nat.zero_add, (keepB hc).cell, List.getElem?_map, List.getElem?_map, he]
      rfl
  rintro r W7 ⟨rfl, c7, q, c, b7, hq, hdep, hqn⟩
  refine ⟨(), rfl, ?_⟩
  have cW7 := keepN c7
  have b27 := b2.ch cW7 (fun h => h)
  refine ld_sl (b7.cell 0) (ld_sl (b7.cell 1) (ld_sl (b7.cell 2) (ld_sl (b7.cell 3) (ld_sl (b7.cell 4) (ld_sl (b7.cell 5) (ld_sl (b7.cell 6) (ld_sl (b7.cell 7) ?_)))))))
  refine st_blk b27 (by simp) rfl fun w8 c8 s8 b8 => st_blk b8 (by simp) rfl fun w9 c9 s9 b9 => st_blk b9 (by simp) rfl fun w10 c10 s10 b10 => st_blk b10 (by simp) rfl fun w11 c11 s11 b11 => st_blk b11 (by simp) rfl fun w12 c12 s12 b12 => st_blk b12 (by simp) rfl fun w13 c13 s13 b13 => st_blk b13 (by simp) rfl fun w14 c14 s14 b14 => st_blk b14 (by simp) rfl fun w15 c15 s15 b15 => ?_
  have c715 : Ch (· = n2) W7 w15 := c8.trans (c9.trans (c10.trans (c11.trans (c12.trans (c13.trans (c14.trans c15))))))
  refine ld_sl (b15.cell 0) (ld_sl (b15.cell 1) (ld_sl (b15.cell 2) (ld_sl (b15.cell 3) (ld_sl (b15.cell 4) (ld_sl (b15.cell 5) (ld_sl (b15.cell 6) (ld_sl (b15.cell 7) ?_)))))))
  have hn2l := b2.lt
  refine ⟨((some ⟨bx 0, 0, none⟩, p.tasks.length, p.tasks.length), (some ⟨bx 1, 0, none⟩, p.tasks.length, p.tasks.length), (some ⟨bb, 0, none⟩, p.edges.length, p.edges.length), (q, p.tasks.length, c), (d 100).1, (d 101).1, (some ⟨bm, 0, none⟩, p.tasks.length, p.tasks.length), (some ⟨bd, 0, none⟩, p.tasks.length, p.tasks.length), ()), rfl, ?_, ?_⟩
  · exact (c02.trans cW7).then_ c715 (fun k hk (hh : k = n2) => by omega)
  · -- what stands behind w2's heap stands as it stood
    intro W' cW'
    have hz2' := c02.size
    have hkeep : ∀ a v, w2.heap.size ≤ a.block → W7.cell? a = some v → W'.cell? a = some v := fun a v hb ha => cW'.cellv (c715.cellv ha (fun (hh : a.block = n2) => by omega)) (fun hh => by omega)
    have FW := keepF c7
    have famI : ∀ i, AtI W' (d i).1.1 (d i).2 := fun i j x hx => by
      obtain ⟨ad, h1, h3⟩ := IRow.atI (FW.rows i) j x hx
      have hl := (FW.rows i).len
      have hjl := (List.getElem?_eq_some_iff.1 hx).1
      obtain ⟨gb, hgb, hgs, -⟩ := Row.get (FW.rows i) (by omega)
      have hge := (FW.ge (i := i) hgs).1
      rw [hgb] at h1
      cases h1
      refine ⟨_, hgb, hkeep _ _ ?_ h3⟩
      rw [addr_add]
      show w2.heap.size ≤ gb
      omega
    have hordl : (ordM p).length = p.tasks.length := (order_laid (hg.gr false) hg.cycle p.tasks.length (Nat.le_refl _)).2
    have hdl : (depthM p).length = p.tasks.length := by
      unfold depthM
      have : ∀ (l : List Nat) (x : List Int), (l.foldl (depthStep p) x).length = x.length := by
        have h1 : ∀ (t : Nat) (l : List Nat) (x : List Int), (l.foldl (depthEdge p t) x).length = x.length := fun t l => by
          induction l with
          | nil => intro x; rfl
          | cons a l ih => intro x; rw [List.foldl_cons, ih]; unfold depthEdge; split <;> (try split) <;> simp
        intro l
        induction l with
        | nil => intro x; rfl
        | cons a l ih => intro x; rw [List.foldl_cons, ih]; exact h1 a _ x
      rw [this]
      simp
    refine ⟨by simp [shapeM], by simp [shapeM], by simp [shapeM], hordl.symm, ?_, ?_, ?_, hdl.symm, ?_, ?_, ?_, ?_, ?_, ?_, ?_, ?_⟩
    · show (d 100).1.2.1 = (kindsAre p 1).length
      rw [(LW.fam.rows 100).len, hC.src]; simp [natI]
    · show (d 101).1.2.1 = (kindsAre p 13).length
      rw [(LW.fam.rows 101).len, hC.snk]; simp [natI]
    · show p.tasks.length = (mateM p).length
      rw [← hmate, hmtl]
    · intro t r hr
      have hr' : ((List.range p.tasks.length).map (insM p))[t]? = some r := hr
      have ht : t < p.tasks.length := by have := (List.getElem?_eq_some_iff.1 hr').1; simpa using this
      rw [List.getElem?_map, List.getElem?_range ht] at hr'
      cases hr'
      obtain ⟨x1, x2, -, -⟩ := hrowlen t ht
      refine ⟨_, (d (2 * t + 0)).1.1, (d (2 * t + 0)).1.2.2, rfl, hkeep _ _ (by rw [addr_add]; exact newX 0 (by omega)) ?_, ?_⟩
      · rw [addr_add, Nat.zero_add, (keepX (by omega) c7).cell, outC_at _ ht]
        show some (Value.slice _ _ _) = _
        rw [x1]
      · have := famI (2 * t + 0)
        rw [x2] at this
        exact this
    · intro t r hr
      have hr' : ((List.range p.tasks.length).map (outsM p))[t]? = some r := hr
      have ht : t < p.tasks.length := by have := (List.getElem?_eq_some_iff.1 hr').1; simpa using this
      rw [List.getElem?_map, List.getElem?_range ht] at hr'
      cases hr'
      obtain ⟨-, -, x1, x2⟩ := hrowlen t ht
      refine ⟨_, (d (2 * t + 1)).1.1, (d (2 * t + 1)).1.2.2, rfl, hkeep _ _ (by rw [addr_add]; exact newX 1 (by omega)) ?_, ?_⟩
      · rw [addr_add, Nat.zero_add, (keepX (by omega) c7).cell, outC_at _ ht]
        show some (Value.slice _ _ _) = _
        rw [x1]
      · have := famI (2 * t + 1)
        rw [x2] at this
        exact this
    · exact blk_atBo (((keepB c7).ch c715 (fun (hh : bb = n2) => by omega)).ch cW' (fun hh => by omega))
    · intro j x hx
      obtain ⟨ad, h1, h3⟩ := hq j x hx
      have := hqn ad h1
      refine ⟨ad, h1, hkeep _ _ ?_ h3⟩
      have hb : (ad.add j).block = ad.block := by unfold Addr.add; split <;> rfl
      rw [hb]
      omega
    · have := famI 100
      rw [hC.src] at this
      exact this
    · have := famI 101
      rw [hC.snk] at this
      exact this
    · have := blk_atI (((keepM c7).ch c715 (fun (hh : bm = n2) => by omega)).ch cW' (fun hh => by omega))
      rw [hmate] at this
      exact this
    · exact blk_atI ((hdep.ch c715 (fun (hh : bd = n2) => by omega)).ch cW' (fun hh => by omega))
end Go.Proofs.YtkebljkdkaagfaaGreatDoor.S
namespace Go.Proofs.YtkebljkdkaagfaaGreatDoor.S
open Go Tr
set_option maxRecDepth 100000
set_option maxHeartbeats 8000000
/-! the tree of function 23 -/
def s23 : Script := .ld (.int .i64) (.ld .any (.ld (.int .i64) (.ld .any (.ld (.int .i64) (.ld .any (.ld (.int .i64) (.ld .any (.ld (.int .i64) (.ld .any (.ld (.int .i64) (.ld .any (.ld (.int .i64) (.ld .any .nil)))))))))))))
theorem t23 : fnT Tryz.prog Tryz.f23 #[] s23 = .new (.cells #[.int .i64 0, .nilFunc, .int .i64 0, .nilFunc, .int .i64 0, .nilFunc, .int .i64 0, .nilFunc, .int .i64 0, .nilFunc, .int .i64 0, .nilFunc, .int .i64 0, .nilFunc] 62 (0, 0)) (fun n1 => .store ⟨n1, 0, none⟩ (.int .i64 71) (.store ⟨n1, 1, none⟩ (.func (.func 31) #[] #[]) (.store ⟨n1, 2, none⟩ (.int .i64 72) (.store ⟨n1, 3, none⟩ (.func (.func 32) #[] #[]) (.store ⟨n1, 4, none⟩ (.int .i64 73) (.store ⟨n1, 5, none⟩ (.func (.func 33) #[] #[]) (.store ⟨n1, 6, none⟩ (.int .i64 74) (.store ⟨n1, 7, none⟩ (.func (.func 34) #[] #[]) (.store ⟨n1, 8, none⟩ (.int .i64 75) (.store ⟨n1, 9, none⟩ (.func (.func 35) #[] #[]) (.store ⟨n1, 10, none⟩ (.int .i64 76) (.store ⟨n1, 11, none⟩ (.func (.func 36) #[] #[]) (.store ⟨n1, 12, none⟩ (.int .i64 77) (.store ⟨n1, 13, none⟩ (.func (.func 37) #[] #[]) (.load ⟨n1, 0, none⟩ (.int .i64) (fun x2 => .load ⟨n1, 1, none⟩ .any (fun v3 => .load ⟨n1, 2, none⟩ (.int .i64) (fun x4 => .load ⟨n1, 3, none⟩ .any (fun v5 => .load ⟨n1, 4, none⟩ (.int .i64) (fun x6 => .load ⟨n1, 5, none⟩ .any (fun v7 => .load ⟨n1, 6, none⟩ (.int .i64) (fun x8 => .load ⟨n1, 7, none⟩ .any (fun v9 => .load ⟨n1, 8, none⟩ (.int .i64) (fun x10 => .load ⟨n1, 9, none⟩ .any (fun v11 => .load ⟨n1, 10, none⟩ (.int .i64) (fun x12 => .load ⟨n1, 11, none⟩ .any (fun v13 => .load ⟨n1, 12, none⟩ (.int .i64) (fun x14 => .load ⟨n1, 13, none⟩ .any (fun v15 => .done (.returned (.agg #[.int .i64 x2, v3, .int .i64 x4, v5, .int .i64 x6, v7, .int .i64 x8, v9, .int .i64 x10, v11, .int .i64 x12, v13, .int .i64 x14, v15]))))))))))))))))))))))))))))))) := by kernel_rfl
/-! the tree of function 9 -/
abbrev fx9_3 (n1 : Nat) (n2 : Nat) : List (Tmp × Value) := [(1, .pointer (some ⟨n1, 0, none⟩)), (2, .pointer (some ⟨n2, 0, none⟩))]
abbrev mx9_3 : List (Tmp × Comp) := [(33, .leaf .bool)]
def s9_3 : Script := .ld .sl (.sym (.lit (.lit (.lit (.lit (.lit (.lit (.lit (.lit (.lit (.lit (.lit (.lit (.lit (.lit (.lit (.lit (.lit .nil))))))))))))))))) (.lit (.ld .sl (.lit (.lit (.lit (.sym (.lit (.lit (.lit (.lit (.lit (.lit (.lit (.lit (.lit (.lit (.lit (.lit .nil)))))))))))) (.lit (.ld .sl (.lit (.lit (.lit (.sym (.lit (.lit (.lit (.lit (.lit (.lit (.lit .nil))))))) (.lit (.ld (.int .i64) (.lit (.lit (.sym (.lit (.lit (.lit .nil))) (.lit (.ld (.int .i64) (.lit (.lit .nil))))))))))))))))))))))
theorem t9_3 (n1 : Nat) (n2 : Nat) (gg3 : Nat → Value) : pieceT Tryz.prog (at_ Tryz.f9 [1, 0, 0]) 52 (fx9_3 n1 n2) gg3 (mx9_3.map (·.1)) [] [] s9_3 = .load ⟨n1, 1, none⟩ .sl (fun l4 => .br (Decidable.decide ((↑l4.snd.fst : Int) < 1)) (.fin .normal [(33, .bool true)]) (.load ⟨n1, 1, none⟩ .sl (fun l5 => .br (Decidable.decide ((↑l5.snd.fst : Int) > 12)) (.fin .normal [(33, .bool true)]) (.load ⟨n1, 2, none⟩ .sl (fun l6 => .br (Decidable.decide ((↑l6.snd.fst : Int) > 24)) (.fin .normal [(33, .bool true)]) (.load ⟨n1, 0, none⟩ (.int .i64) (fun x7 => .br (Decidable.decide (x7 < 1)) (.fin .normal [(33, .bool true)]) (.load ⟨n1, 0, none⟩ (.int .i64) (fun x8 => .fin .normal [(33, .bool (Decidable.decide (x8 > 8)))]))))))))) := by kernel_rfl
abbrev fx9_19 (n1 : Nat) (n2 : Nat) (r18 : Int × FuncId × Int × FuncId × Int × FuncId × Int × FuncId × Int × FuncId × Int × FuncId × Int × FuncId × Unit) : List (Tmp × Value) := [(1, .pointer (some ⟨n1, 0, none⟩)), (2, .pointer (some ⟨n2, 0, none⟩)), (35, .agg #[.int .i64 r18.1, .func (.func r18.2.1) #[] #[], .int .i64 r18.2.2.1, .func (.func r18.2.2.2.1) #[] #[], .int .i64 r18.2.2.2.2.1, .func (.func r18.2.2.2.2.2.1) #[] #[], .int .i64 r18.2.2.2.2.2.2.1, .func (.func r18.2.2.2.2.2.2.2.1) #[] #[], .int .i64 r18.2.2.2.2.2.2.2.2.1, .func (.func r18.2.2.2.2.2.2.2.2.2.1) #[] #[], .int .i64 r18.2.2.2.2.2.2.2.2.2.2.1, .func (.func r18.2.2.2.2.2.2.2.2.2.2.2.1) #[] #[], .int .i64 r18.2.2.2.2.2.2.2.2.2.2.2.2.1, .func (.func r18.2.2.2.2.2.2.2.2.2.2.2.2.2.1) #[] #[]])]
abbrev m9_19 : List (Tmp × Comp) := [(36, .leaf (.int .i64))]
abbrev mx9_19 : List (Tmp × Comp) := []
abbrev mr9_19 : List (Tmp × Comp) := [(3, .leaf (.int .i64)), (4, .leaf (.int .i64))]
def s9_19 : Script := .sym (.rn (.one (.agg [.int .i64, .pfn])) (.ld .pfn (.ld (.int .i64) (.ld .sl (.ld .sl (.iv (.one (.leaf (.int .i64))) (.sym (.hd0 (.hq 0 (.hq 1 (.hq 2 (.hq 3 (.ld (.int .i64) (.he 4 (.hq 5 (.hq 6 .nil))))))))) .nil))))))) .nil
theorem t9_19 (n1 : Nat) (n2 : Nat) (r18 : Int × FuncId × Int × FuncId × Int × FuncId × Int × FuncId × Int × FuncId × Int × FuncId × Int × FuncId × Unit) (x_36 : Int) (gg19 : Nat → Value) : pieceT Tryz.prog (at_ Tryz.f9 [1, 1, 0, 1, 0, 0]) 52 (fx9_19 n1 n2 r18 ++ mvals m9_19 (x_36, ())) gg19 (m9_19.map (·.1)) (mx9_19.map (·.1)) (mr9_19.map (·.1)) s9_19 = .br (Decidable.decide (x_36 < 7)) (.run (vNext (Go.Instr.index 62 (Go.Value.agg #[Go.Value.int IntKind.i64 r18.fst, Go.Value.func (Go.Fn.func r18.snd.fst) #[] #[], Go.Value.int IntKind.i64 r18.snd.snd.fst, Go.Value.func (Go.Fn.func r18.snd.snd.snd.fst) #[] #[], Go.Value.int IntKind.i64 r18.snd.snd.snd.snd.fst, Go.Value.func (Go.Fn.func r18.snd.snd.snd.snd.snd.fst) #[] #[], Go.Value.int IntKind.i64 r18.snd.snd.snd.snd.snd.snd.fst, Go.Value.func (Go.Fn.func r18.snd.snd.snd.snd.snd.snd.snd.fst) #[] #[], Go.Value.int IntKind.i64 r18.snd.snd.snd.snd.snd.snd.snd.snd.fst, Go.Value.func (Go.Fn.func r18.snd.snd.snd.snd.snd.snd.snd.snd.snd.fst) #[] #[], Go.Value.int IntKind.i64 r18.snd.snd.snd.snd.snd.snd.snd.snd.snd.snd.fst, Go.Value.func (Go.Fn.func r18.snd.snd.snd.snd.snd.snd.snd.snd.snd.snd.snd.fst) #[] #[], Go.Value.int IntKind.i64 r18.snd.snd.snd.snd.snd.snd.snd.snd.snd.snd.snd.snd.fst, Go.Value.func (Go.Fn.func r18.snd.snd.snd.snd.snd.snd.snd.snd.snd.snd.snd.snd.snd.fst) #[] #[]]) (Go.Value.int IntKind.i64 x_36))) (.one (.agg [.int .i64, .pfn])) (fun r20 => .new (.cells #[.int .i64 0, .nilFunc] 61 (0, 0)) (fun n21 => .store ⟨n21, 0, none⟩ (.int .i64 r20.1) (.store ⟨n21, 1, none⟩ (.func (.func r20.2.1) #[] #[]) (.load ⟨n21, 1, none⟩ .pfn (fun f22 => .load ⟨n1, 0, none⟩ (.int .i64) (fun x23 => .load ⟨n1, 1, none⟩ .sl (fun l24 => .load ⟨n1, 2, none⟩ .sl (fun l25 => .inv f22 #[.agg #[.int .i64 x23, .slice l24.1 l24.2.1 l24.2.2, .slice l25.1 l25.2.1 l25.2.2]] (.one (.leaf (.int .i64))) (fun x26 => .br (Decidable.decide (x26 ≥ 0)) (.hdrawn (.load ⟨n21, 0, none⟩ (.int .i64) (fun x27 => .eff (.store ⟨n2, 0, none⟩ (.slice none 0 0) (.store ⟨n2, 1, none⟩ (.slice none 0 0) (.store ⟨n2, 2, none⟩ (.slice none 0 0) (.store ⟨n2, 3, none⟩ (.slice none 0 0) (.store ⟨n2, 4, none⟩ (.slice none 0 0) (.store ⟨n2, 5, none⟩ (.slice none 0 0) (.store ⟨n2, 6, none⟩ (.slice none 0 0) (.store ⟨n2, 7, none⟩ (.slice none 0 0) (.back (.undrawn (.fin .ret [(3, .int .i64 x26), (4, .int .i64 x27)])))))))))))))) (.fin .normal [(36, .int .i64 (IntKind.i64.wrap (x_36 + 1)))]))))))))))) (.fin (.exit 0) []) := by kernel_rfl
def s9 : Script := .ct 2 [1, 2] mx9_3 (.sym (.ld .sl (.ld .sl (.ld .sl (.ld .sl (.ld .sl (.ld .sl (.ld .sl (.ld .sl .nil)))))))) (.cl (.one (.agg [.int .i64, .pfn, .int .i64, .pfn, .int .i64, .pfn, .int .i64, .pfn, .int .i64, .pfn, .int .i64, .pfn, .int .i64, .pfn])) (.lp 0 [1, 2, 35] [36] mx9_19 mr9_19 (.ld (.int .i64) (.ld .sl (.ld .sl (.cl (.one (.agg [.sl, .sl, .sl, .sl, .sl, .sl, .sl, .sl])) (.ld .sl (.ld .sl (.ld .sl (.ld .sl (.ld .sl (.ld .sl (.ld .sl (.ld .sl .nil)))))))))))) (.ld .sl (.ld .sl (.ld .sl (.ld .sl (.ld .sl (.ld .sl (.ld .sl (.ld .sl .nil)))))))))))
theorem t9 (qx0_0 : Int) (qa0_1 : Option Addr) (qn0_1 : Nat) (qc0_1 : Nat) (qa0_2 : Option Addr) (qn0_2 : Nat) (qc0_2 : Nat) : fnT Tryz.prog Tryz.f9 #[.agg #[.int .i64 qx0_0, .slice qa0_1 qn0_1 qc0_1, .slice qa0_2 qn0_2 qc0_2]] s9 = .new (.cells #[.int .i64 qx0_0, .slice qa0_1 qn0_1 qc0_1, .slice qa0_2 qn0_2 qc0_2] 25 (0, 0)) (fun n1 => .new (.cells #[.slice none 0 0, .slice none 0 0, .slice none 0 0, .slice none 0 0, .slice none 0 0, .slice none 0 0, .slice none 0 0, .slice none 0 0] 31 (0, 0)) (fun n2 => .cut (at_ Tryz.f9 [1, 0, 0]) 52 (fx9_3 n1 n2) mx9_3 (fun u9 g9 => .br u9.1 (.store ⟨n2, 0, none⟩ (.slice none 0 0) (.store ⟨n2, 1, none⟩ (.slice none 0 0) (.store ⟨n2, 2, none⟩ (.slice none 0 0) (.store ⟨n2, 3, none⟩ (.slice none 0 0) (.store ⟨n2, 4, none⟩ (.slice none 0 0) (.store ⟨n2, 5, none⟩ (.slice none 0 0) (.store ⟨n2, 6, none⟩ (.slice none 0 0) (.store ⟨n2, 7, none⟩ (.slice none 0 0) (.load ⟨n2, 0, none⟩ .sl (fun l10 => .load ⟨n2, 1, none⟩ .sl (fun l11 => .load ⟨n2, 2, none⟩ .sl (fun l12 => .load ⟨n2, 3, none⟩ .sl (fun l13 => .load ⟨n2, 4, none⟩ .sl (fun l14 => .load ⟨n2, 5, none⟩ .sl (fun l15 => .load ⟨n2, 6, none⟩ .sl (fun l16 => .load ⟨n2, 7, none⟩ .sl (fun l17 => .done (.returned (.tuple #[.agg #[.slice l10.1 l10.2.1 l10.2.2, .slice l11.1 l11.2.1 l11.2.2, .slice l12.1 l12.2.1 l12.2.2, .slice l13.1 l13.2.1 l13.2.2, .slice l14.1 l14.2.1 l14.2.2, .slice l15.1 l15.2.1 l15.2.2, .slice l16.1 l16.2.1 l16.2.2, .slice l17.1 l17.2.1 l17.2.2], .int .i64 0, .int .i64 70]))))))))))))))))))) (.call 23 #[] (.one (.agg [.int .i64, .pfn, .int .i64, .pfn, .int .i64, .pfn, .int .i64, .pfn, .int .i64, .pfn, .int .i64, .pfn, .int .i64, .pfn])) (fun r18 => .loop (at_ Tryz.f9 [1, 1, 0, 1, 0, 0]) 52 (fx9_19 n1 n2 r18) [(36, .int .i64 0)] mx9_19 mr9_19 0 (fun u28 g28 => .load ⟨n1, 0, none⟩ (.int .i64) (fun x29 => .load ⟨n1, 1, none⟩ .sl (fun l30 => .load ⟨n1, 2, none⟩ .sl (fun l31 => .call 24 #[.agg #[.int .i64 x29, .slice l30.1 l30.2.1 l30.2.2, .slice l31.1 l31.2.1 l31.2.2]] (.one (.agg [.sl, .sl, .sl, .sl, .sl, .sl, .sl, .sl])) (fun r32 => .store ⟨n2, 0, none⟩ (.slice r32.1.1 r32.1.2.1 r32.1.2.2) (.store ⟨n2, 1, none⟩ (.slice r32.2.1.1 r32.2.1.2.1 r32.2.1.2.2) (.store ⟨n2, 2, none⟩ (.slice r32.2.2.1.1 r32.2.2.1.2.1 r32.2.2.1.2.2) (.store ⟨n2, 3, none⟩ (.slice r32.2.2.2.1.1 r32.2.2.2.1.2.1 r32.2.2.2.1.2.2) (.store ⟨n2, 4, none⟩ (.slice r32.2.2.2.2.1.1 r32.2.2.2.2.1.2.1 r32.2.2.2.2.1.2.2) (.store ⟨n2, 5, none⟩ (.slice r32.2.2.2.2.2.1.1 r32.2.2.2.2.2.1.2.1 r32.2.2.2.2.2.1.2.2) (.store ⟨n2, 6, none⟩ (.slice r32.2.2.2.2.2.2.1.1 r32.2.2.2.2.2.2.1.2.1 r32.2.2.2.2.2.2.1.2.2) (.store ⟨n2, 7, none⟩ (.slice r32.2.2.2.2.2.2.2.1.1 r32.2.2.2.2.2.2.2.1.2.1 r32.2.2.2.2.2.2.2.1.2.2) (.load ⟨n2, 0, none⟩ .sl (fun l33 => .load ⟨n2, 1, none⟩ .sl (fun l34 => .load ⟨n2, 2, none⟩ .sl (fun l35 => .load ⟨n2, 3, none⟩ .sl (fun l36 => .load ⟨n2, 4, none⟩ .sl (fun l37 => .load ⟨n2, 5, none⟩ .sl (fun l38 => .load ⟨n2, 6, none⟩ .sl (fun l39 => .load ⟨n2, 7, none⟩ .sl (fun l40 => .done (.returned (.tuple #[.agg #[.slice l33.1 l33.2.1 l33.2.2, .slice l34.1 l34.2.1 l34.2.2, .slice l35.1 l35.2.1 l35.2.2, .slice l36.1 l36.2.1 l36.2.2, .slice l37.1 l37.2.1 l37.2.2, .slice l38.1 l38.2.1 l38.2.2, .slice l39.1 l39.2.1 l39.2.2, .slice l40.1 l40.2.1 l40.2.2], .int .i64 0, .int .i64 0]))))))))))))))))))))))) (fun u41 g41 => .load ⟨n2, 0, none⟩ .sl (fun l42 => .load ⟨n2, 1, none⟩ .sl (fun l43 => .load ⟨n2, 2, none⟩ .sl (fun l44 => .load ⟨n2, 3, none⟩ .sl (fun l45 => .load ⟨n2, 4, none⟩ .sl (fun l46 => .load ⟨n2, 5, none⟩ .sl (fun l47 => .load ⟨n2, 6, none⟩ .sl (fun l48 => .load ⟨n2, 7, none⟩ .sl (fun l49 => .done (.returned (.tuple #[.agg #[.slice l42.1 l42.2.1 l42.2.2, .slice l43.1 l43.2.1 l43.2.2, .slice l44.1 l44.2.1 l44.2.2, .slice l45.1 l45.2.1 l45.2.2, .slice l46.1 l46.2.1 l46.2.2, .slice l47.1 l47.2.1 l47.2.2, .slice l48.1 l48.2.1 l48.2.2, .slice l49.1 l49.2.1 l49.2.2], .int .i64 u41.1, .int .i64 u41.2.1])))))))))))))))) := by kernel_rfl
abbrev fnV (f : FuncId) : Value := .func (.func f) #[] #[]
abbrev chksV : Value := .agg #[.int .i64 71, fnV 31, .int .i64 72, fnV 32, .int .i64 73, fnV 33, .int .i64 74, fnV 34, .int .i64 75, fnV 35, .int .i64 76, fnV 36, .int .i64 77, fnV 37]
theorem checks_any (w : World) : Calls Tryz.prog 23 #[] w fun r w' => r = .returned chksV ∧ Ch No w w' := by
  refine calls_of_fnT mixed Tryz.func23 (s := s23) ?_
  rw [t23]
  refine nw (cs := [_, _, _, _, _, _, _, _, _, _, _, _, _, _]) fun w1 c1 s1 b1 => ?_
  refine st_blk b1 (by simp) rfl fun w2 c2 s2 b2 => st_blk b2 (by simp) rfl fun w3 c3 s3 b3 => st_blk b3 (by simp) rfl fun w4 c4 s4 b4 => st_blk b4 (by simp) rfl fun w5 c5 s5 b5 => st_blk b5 (by simp) rfl fun w6 c6 s6 b6 => st_blk b6 (by simp) rfl fun w7 c7 s7 b7 => st_blk b7 (by simp) rfl fun w8 c8 s8 b8 => ?_
  refine st_blk b8 (by simp) rfl fun w9 c9 s9 b9 => st_blk b9 (by simp) rfl fun w10 c10 s10 b10 => st_blk b10 (by simp) rfl fun w11 c11 s11 b11 => st_blk b11 (by simp) rfl fun w12 c12 s12 b12 => st_blk b12 (by simp) rfl fun w13 c13 s13 b13 => st_blk b13 (by simp) rfl fun w14 c14 s14 b14 => st_blk b14 (by simp) rfl fun w15 c15 s15 b15 => ?_
  refine ld_int (b15.cell 0) (ld_any (b15.cell 1) (ld_int (b15.cell 2) (ld_any (b15.cell 3) (ld_int (b15.cell 4) (ld_any (b15.cell 5) (ld_int (b15.cell 6) (ld_any (b15.cell 7) (ld_int (b15.cell 8) (ld_any (b15.cell 9) (ld_int (b15.cell 10) (ld_any (b15.cell 11) (ld_int (b15.cell 12) (ld_any (b15.cell 13) ⟨rfl, ?_⟩)))))))))))))
  exact c1.then_ (c2.trans (c3.trans (c4.trans (c5.trans (c6.trans (c7.trans (c8.trans (c9.trans (c10.trans (c11.trans (c12.trans (c13.trans (c14.trans c15))))))))))))) (fun i hi (e : i = w.heap.size) => by omega)
/-! ### The checks, one by one -/
def chkFn : List FuncId := [31, 32, 33, 34, 35, 36, 37]
theorem idx_run {i : Nat} (hi : i < 7) (w : World) : ∃ f c, chkFn[i]? = some f ∧ c = 71 + i ∧ (vNext (Instr.index 62 chksV (.int .i64 (i : Nat)))).run Tryz.prog w = .ok (.value (.agg #[.int .i64 ((c : Nat) : Int), fnV f])) w := by
  have : i = 0 ∨ i = 1 ∨ i = 2 ∨ i = 3 ∨ i = 4 ∨ i = 5 ∨ i = 6 := by omega
  rcases this with rfl | rfl | rfl | rfl | rfl | rfl | rfl
  · exact ⟨_, 71, rfl, rfl, by kernel_rfl⟩
  · exact ⟨_, 72, rfl, rfl, by kernel_rfl⟩
  · exact ⟨_, 73, rfl, rfl, by kernel_rfl⟩
  · exact ⟨_, 74, rfl, rfl, by kernel_rfl⟩
  · exact ⟨_, 75, rfl, rfl, by kernel_rfl⟩
  · exact ⟨_, 76, rfl, rfl, by kernel_rfl⟩
  · exact ⟨_, 77, rfl, rfl, by kernel_rfl⟩
/-- What i checks have told. -/
def passed (p : PM) (i : Nat) : Prop := ∀ j, j < i → ((checkList p)[j]?.bind (·.2)) = none
theorem passed_step {p : PM} {i : Nat} (h : passed p i) (hi : ((checkList p)[i]?.bind (·.2)) = none) : passed p (i + 1) := fun j hj => by
  by_cases e : j = i
  · rw [e]; exact hi
  · exact h j (by omega)
theorem chk_call {i : Nat} (hi : i < 7) {f : FuncId} (hf : chkFn[i]? = some f) (w : World) (p : PM) (tp ep : Option Addr) (tc ec : Nat) (h : IsP w tp ep p) (hG : GlS w) (hs : sizeBad p = false) (hp : passed p i) :
    (∀ args w, (callFunc f args).run Tryz.prog w = .ok (.enter f args) w) ∧ ∃ r, (checkList p)[i]? = some (71 + i, r) ∧ Calls Tryz.prog f #[planV p tp tc ep ec] w fun e w' => e = .returned (.int .i64 (atI r)) ∧ Ch No w w' := by
  unfold sizeBad at hs
  simp only [Bool.or_eq_false_iff, decide_eq_false_iff_not] at hs
  obtain ⟨⟨⟨⟨s1, s2⟩, s3⟩, s4⟩, s5⟩ := hs
  have this : i = 0 ∨ i = 1 ∨ i = 2 ∨ i = 3 ∨ i = 4 ∨ i = 5 ∨ i = 6 := by omega
  have p1 : 2 ≤ i → firstM p.tasks.length (kindBad p) = none := fun h2 => hp 1 (by omega)
  have p3 : 4 ≤ i → firstM p.edges.length (edgeBad p) = none := fun h2 => hp 3 (by omega)
  rcases this with rfl | rfl | rfl | rfl | rfl | rfl | rfl
  · obtain rfl : _ = f := Option.some.inj hf
    exact ⟨enters_of Tryz.func31 (by kernel_rfl) rfl, _, rfl, badName_any w p tp ep tc ec h⟩
  · obtain rfl : _ = f := Option.some.inj hf
    exact ⟨enters_of Tryz.func32 (by kernel_rfl) rfl, _, rfl, badKind_any w p tp ep tc ec h hG⟩
  · obtain rfl : _ = f := Option.some.inj hf
    exact ⟨enters_of Tryz.func33 (by kernel_rfl) rfl, _, rfl, badExpr_any w p tp ep tc ec h hG (kind_ok (p1 (by omega)))⟩
  · obtain rfl : _ = f := Option.some.inj hf
    exact ⟨enters_of Tryz.func34 (by kernel_rfl) rfl, _, rfl, badEdge_any w p tp ep tc ec h⟩
  · obtain rfl : _ = f := Option.some.inj hf
    exact ⟨enters_of Tryz.func35 (by kernel_rfl) rfl, _, rfl, badPort_any w p tp ep tc ec h hG (kind_ok (p1 (by omega))) (edge_ok (p3 (by omega))) (by omega)⟩
  · obtain rfl : _ = f := Option.some.inj hf
    exact ⟨enters_of Tryz.func36 (by kernel_rfl) rfl, _, rfl, badPair_any w p tp ep tc ec h (edge_ok (p3 (by omega)))⟩
  · obtain rfl : _ = f := Option.some.inj hf
    exact ⟨enters_of Tryz.func37 (by kernel_rfl) rfl, _, rfl, badCycle_any w p tp ep tc ec h (edge_ok (p3 (by omega))) (by omega)⟩
theorem fault_at {p : PM} (hs : sizeBad p = false) {i k : Nat} (hi : i < 7) (hp : passed p i) (hr : (checkList p)[i]? = some (71 + i, some k)) : faultM p = some (k, 71 + i) := by
  unfold faultM
  rw [if_neg (by rw [hs]; decide)]
  have hl : checkList p = (checkList p).take i ++ (71 + i, some k) :: (checkList p).drop (i + 1) := by
    obtain ⟨hil, he⟩ := List.getElem?_eq_some_iff.1 hr
    rw [← he, ← List.drop_eq_getElem_cons hil, List.take_append_drop]
  rw [hl, List.findSome?_append, List.findSome?_cons]
  have hn : ((checkList p).take i).findSome? (fun c => c.2.map fun i => (i, c.1)) = none := by
    rw [List.findSome?_eq_none_iff]
    intro x hx
    obtain ⟨j, hj, rfl⟩ := List.getElem_of_mem hx
    have hjl : j < i := by rw [List.length_take] at hj; omega
    have := hp j hjl
    rw [List.getElem_take]
    rw [List.getElem?_eq_getElem (by rw [List.length_take] at hj; omega)] at this
    simp only [Option.bind_some] at this
    rw [this]
    rfl
  rw [hn]
  rfl
theorem no_fault {p : PM} (hs : sizeBad p = false) (hp : passed p 7) : faultM p = none := by
  unfold faultM
  rw [if_neg (by rw [hs]; decide), List.findSome?_eq_none_iff]
  intro x hx
  obtain ⟨j, hj, rfl⟩ := List.getElem_of_mem hx
  have hj7 : j < 7 := hj
  have := hp j hj7
  rw [List.getElem?_eq_getElem hj] at this
  simp only [Option.bind_some] at this
  rw [this]
  rfl
/-! ### Build -/
abbrev nilSh : ShV := ((none, 0, 0), (none, 0, 0), (none, 0, 0), (none, 0, 0), (none, 0, 0), (none, 0, 0), (none, 0, 0), (none, 0, 0), ())
theorem nilSh_is (w : World) : IsS w nilSh noShape := ⟨rfl, rfl, rfl, rfl, rfl, rfl, rfl, rfl, fun t r h => by simp [noShape] at h, fun t r h => by simp [noShape] at h, fun t r h => by simp [noShape] at h, fun t r h => by simp [noShape, natI] at h, fun t r h => by simp [noShape, natI] at h, fun t r h => by simp [noShape, natI] at h, fun t r h => by simp [noShape] at h, fun t r h => by simp [noShape] at h⟩
/-- Build's answer: shape, place, number. -/
def buildM (p : PM) : SM × Nat × Nat := match faultM p with
  | some (i, c) => (noShape, i, c)
  | none => (shapeM p, 0, 0)
def BuildR (w : World) (p : PM) (r : Ending) (w' : World) : Prop := ∃ x, r = .returned (.tuple #[shV x, .int .i64 ((buildM p).2.1 : Nat), .int .i64 ((buildM p).2.2 : Nat)]) ∧ Ch No w w' ∧ ∀ W', Ch (fun k => k < w.heap.size) w' W' → IsS W' x (buildM p).1
theorem build_any (w : World) (p : PM) (tp ep : Option Addr) (tc ec : Nat) (h : IsP w tp ep p) (hG : GlS w) : Calls Tryz.prog 9 #[planV p tp tc ep ec] w (BuildR w p) := by
  refine calls_of_fnT mixed Tryz.func9 (s := s9) ?_
  rw [t9]
  refine nw (cs := planC p tp tc ep ec) fun w1 c1 s1 b1 => nw (cs := List.replicate 8 nilS) fun w2 c2 s2 b2 => ?_
  have c02 := c1.trans c2
  replace b1 := b1.ch c2 (fun h => h)
  generalize hn1 : w.heap.size = n1 at *
  generalize hn2 : w1.heap.size = n2 at *
  refine cut_i mixed s9_3 (fun v w' => Ch No w2 w' ∧ v.1 = sizeBad p) (by kernel_rfl) (fun g => ?_) ?_
  · rw [t9_3]
    unfold sizeBad
    refine ld_sl (b1.cell 1) (br_both (fun e => ⟨rfl, (true, ()), rfl, Ch.refl _ _, ?_⟩) fun e => ld_sl (b1.cell 1) (br_both (fun e2 => ⟨rfl, (true, ()), rfl, Ch.refl _ _, ?_⟩) fun e2 => ld_sl (b1.cell 2) (br_both (fun e3 => ⟨rfl, (true, ()), rfl, Ch.refl _ _, ?_⟩) fun e3 => ld_int (b1.cell 0) (br_both (fun e4 => ⟨rfl, (true, ()), rfl, Ch.refl _ _, ?_⟩) fun e4 => ld_int (b1.cell 0) ⟨rfl, (_, ()), rfl, Ch.refl _ _, ?_⟩))))
    · have e : ((p.tasks.length : Nat) : Int) < 1 := lt_t e
      rw [decide_eq_true (show p.tasks.length < 1 by omega)]; rfl
    · have e2 : (12 : Int) < ((p.tasks.length : Nat) : Int) := gt_t e2
      rw [decide_eq_true (show p.tasks.length > 12 by omega), Bool.or_true]; rfl
    · have e3 : (24 : Int) < ((p.edges.length : Nat) : Int) := gt_t e3
      rw [decide_eq_true (show p.edges.length > 24 by omega), Bool.or_true]; rfl
    · rw [e4, Bool.or_true]; rfl
    · have e : (1 : Int) ≤ ((p.tasks.length : Nat) : Int) := lt_f e
      have e2 : ((p.tasks.length : Nat) : Int) ≤ 12 := gt_f e2
      have e3 : ((p.edges.length : Nat) : Int) ≤ 24 := gt_f e3
      rw [decide_eq_false (show ¬ p.tasks.length < 1 by omega), decide_eq_false (show ¬ p.tasks.length > 12 by omega), decide_eq_false (show ¬ p.edges.length > 24 by omega), e4]
      rfl
  rintro ⟨b, ⟨⟩⟩ g w3 ⟨c3, hb⟩
  dsimp only at hb ⊢
  subst hb
  have b13 := b1.ch c3 (fun h => h)
  have b23 := b2.ch c3 (fun h => h)
  have c03 := c02.trans c3
  have hz3 := c03.size
  have hz12 := c2.size
  -- an empty shape is stored
  have stores : ∀ {P' : World → Prop} {md : Md} [hmd : md.Runs] {K : T} {R' : Ending → World → Prop} {Q' : Exit → List (Tmp × Value) → World → Prop} {W : World} {cs : List Value}, Blk W n2 cs tShape → cs.length = 8 → (∀ W', Ch (· = n2) W W' → Blk W' n2 (List.replicate 8 nilS) tShape → wpT Tryz.prog R' Q' K md W') →
      wpT Tryz.prog R' Q' (.store ⟨n2, 0, none⟩ (.slice none 0 0) (.store ⟨n2, 1, none⟩ (.slice none 0 0) (.store ⟨n2, 2, none⟩ (.slice none 0 0) (.store ⟨n2, 3, none⟩ (.slice none 0 0) (.store ⟨n2, 4, none⟩ (.slice none 0 0) (.store ⟨n2, 5, none⟩ (.slice none 0 0) (.store ⟨n2, 6, none⟩ (.slice none 0 0) (.store ⟨n2, 7, none⟩ (.slice none 0 0) K)))))))) md W := by
    intro P' md hmd K R' Q' W cs hbk hl hk
    refine st_blk hbk (by omega) rfl fun w2 c2 s2 b2 => st_blk b2 (by simp; omega) rfl fun w3 c3 s3 b3 => st_blk b3 (by simp; omega) rfl fun w4 c4 s4 b4 => st_blk b4 (by simp; omega) rfl fun w5 c5 s5 b5 => st_blk b5 (by simp; omega) rfl fun w6 c6 s6 b6 => st_blk b6 (by simp; omega) rfl fun w7 c7 s7 b7 => st_blk b7 (by simp; omega) rfl fun w8 c8 s8 b8 => st_blk b8 (by simp; omega) rfl fun w9 c9 s9 b9 => ?_
    refine hk w9 (c2.trans (c3.trans (c4.trans (c5.trans (c6.trans (c7.trans (c8.trans c9))))))) ?_
    match cs, hl with
    | [_, _, _, _, _, _, _, _], _ => exact b9
  have leave : ∀ (W : World), Blk W n2 (List.replicate 8 nilS) tShape → Ch No w W → ∀ (x c : Int), faultM p = some (x.toNat, c.toNat) → 0 ≤ x → 0 ≤ c → wpT Tryz.prog (BuildR w p) (fun _ _ _ => False) (.load ⟨n2, 0, none⟩ .sl (fun l42 => .load ⟨n2, 1, none⟩ .sl (fun l43 => .load ⟨n2, 2, none⟩ .sl (fun l44 => .load ⟨n2, 3, none⟩ .sl (fun l45 => .load ⟨n2, 4, none⟩ .sl (fun l46 => .load ⟨n2, 5, none⟩ .sl (fun l47 => .load ⟨n2, 6, none⟩ .sl (fun l48 => .load ⟨n2, 7, none⟩ .sl (fun l49 =>
      .done (.returned (.tuple #[.agg #[.slice l42.1 l42.2.1 l42.2.2, .slice l43.1 l43.2.1 l43.2.2, .slice l44.1 l44.2.1 l44.2.2, .slice l45.1 l45.2.1 l45.2.2, .slice l46.1 l46.2.1 l46.2.2, .slice l47.1 l47.2.1 l47.2.2, .slice l48.1 l48.2.1 l48.2.2, .slice l49.1 l49.2.1 l49.2.2], .int .i64 x, .int .i64 c]))))))))))) .pl W := by
    intro W hbk hc x c hf hx hcc
    refine ld_sl (hbk.cell 0) (ld_sl (hbk.cell 1) (ld_sl (hbk.cell 2) (ld_sl (hbk.cell 3) (ld_sl (hbk.cell 4) (ld_sl (hbk.cell 5) (ld_sl (hbk.cell 6) (ld_sl (hbk.cell 7) ?_)))))))
    refine ⟨nilSh, ?_, hc, ?_⟩
    · unfold buildM
      rw [hf]
      dsimp only
      rw [Int.toNat_of_nonneg hx, Int.toNat_of_nonneg hcc]
    · unfold buildM
      rw [hf]
      exact fun W' _ => nilSh_is W'
  refine br_both (fun e => ?_) fun e => ?_
  · refine stores (P' := fun _ => True) b23 rfl fun W' c4 b4 => leave W' b4 (c03.then_ c4 (fun k hk (hh : k = n2) => by omega)) 0 70 ?_ (by omega) (by omega)
    unfold faultM
    rw [if_pos e]
    rfl
  refine cl_i (checks_any w3) ?_
  rintro r w4 ⟨rfl, c4⟩
  refine ⟨(71, 31, 72, 32, 73, 33, 74, 34, 75, 35, 76, 36, 77, 37, ()), rfl, ?_⟩
  have c24 := c3.trans c4
  refine loop_i mixed m9_19 s9_19 (by kernel_rfl) (by kernel_rfl) (fun v W => ∃ i : Nat, v.1 = (i : Nat) ∧ i ≤ 7 ∧ Ch No w2 W ∧ passed p i) (fun v _ => 7 - v.1.toNat) (0, ()) rfl ⟨0, rfl, by omega, c24, fun j h => by omega⟩ ?_
  rintro ⟨_, ⟨⟩⟩ g W ⟨i, rfl, hi, cW, hp⟩
  rw [t9_19]
  have b1W := b1.ch cW (fun h => h)
  have b2W := b2.ch cW (fun h => h)
  have c0W := c02.trans cW
  refine br_both (fun e2 => ?_) fun e2 => ?_
  · have e2 := lt_t e2
    obtain ⟨f, c, hf, hc, hrun⟩ := idx_run (show i < 7 by omega) W
    refine t_run (x := (((c : Nat) : Int), f, ())) (w' := W) hrun ?_
    refine nw (cs := [_, _]) fun W1 k1 z1 d1 => st_blk d1 (by simp) rfl fun W2 k2 z2 d2 => st_blk d2 (by simp) rfl fun W3 k3 z3 d3 => ?_
    have kk : Ch No W W3 := k1.then_ (k2.trans k3) (fun i hi (e : i = W.heap.size) => by omega)
    have b1W3 := b1W.ch kk (fun h => h)
    obtain ⟨hent, r, hr, hcall⟩ := chk_call (show i < 7 by omega) hf W3 p tp ep tc ec (h.ch (c0W.trans kk)) (hG.no (c0W.trans kk)) e hp
    refine ⟨f, d3.cell 1, ?_⟩
    refine ld_int (b1W3.cell 0) (ld_sl (b1W3.cell 1) (ld_sl (b1W3.cell 2) (inv_i (hent _) hcall ?_)))
    rintro r' W4 ⟨rfl, k4⟩
    refine ⟨atI r, rfl, ?_⟩
    have kW4 := kk.trans k4
    have d4 := d3.ch k4 (fun h => h)
    refine br_both (fun e3 => ?_) fun e3 => ?_
    · have e3 := ge_t e3
      cases r with
      | none => simp [atI] at e3
      | some k =>
        have hfa := fault_at e (show i < 7 by omega) hp hr
        have c24' := cW.trans kW4
        have b24 := b2.ch c24' (fun h => h)
        have hne : W.heap.size ≠ n2 := by have := b2W.lt; omega
        have stab : ∀ W', Ch (· = n2) W4 W' → W'.cell? ⟨W.heap.size, 0, none⟩ = some (.int .i64 ((c : Nat) : Int)) := fun W' hc' => (d4.ch hc' hne).cell 0
        refine hd_i (Ch (· = n2) W4) (Ch.refl _ _).drew (lh_int stab (eff_i (stores (P' := fun _ => True) (md := .ef (Ch (· = n2) W4)) (show Blk W4.drew n2 _ tShape from b24) rfl fun W5 k5 d5 => bk ((Ch.refl (· = n2) W4).drew.trans k5) (un_h ?_))))
        have k45 : Ch (· = n2) W4 W5 := (Ch.refl (· = n2) W4).drew.trans k5
        refine ⟨(atI (some k), ((c : Nat) : Int), ()), rfl, fun g => ?_⟩
        have hz02 := c02.size
        refine leave W5 d5 ((c02.trans c24').then_ k45 (fun j hj (hh : j = n2) => by omega)) _ _ ?_ (by show (0 : Int) ≤ ((k : Nat) : Int); omega) (by show (0 : Int) ≤ ((c : Nat) : Int); omega)
        rw [hfa, hc]
        show some (k, 71 + i) = some ((((k : Nat) : Int)).toNat, (((71 + i : Nat) : Int)).toNat)
        rw [Int.toNat_natCast, Int.toNat_natCast]
    · have e3 := ge_f e3
      cases r with
      | some k => exact absurd e3 (by show ¬ ((k : Nat) : Int) < 0; omega)
      | none => exact ⟨(((i : Nat) : Int) + 1, ()), by rw [wrap_succ (by omega) (by omega)]; rfl, ⟨i + 1, rfl, by omega, cW.trans kW4, passed_step hp (by rw [hr]; rfl)⟩, by show 7 - (((i : Nat) : Int) + 1).toNat < _; omega⟩
  · have e2 := lt_f e2
    obtain rfl : i = 7 := by omega
    refine ⟨rfl, (), rfl, fun g => ?_⟩
    have hnf := no_fault e hp
    have hs := e
    unfold sizeBad at hs
    simp only [Bool.or_eq_false_iff, decide_eq_false_iff_not] at hs
    obtain ⟨⟨⟨⟨q1, q2⟩, q3⟩, q4⟩, q5⟩ := hs
    refine ld_int (b1W.cell 0) (ld_sl (b1W.cell 1) (ld_sl (b1W.cell 2) (cl_i (lay_any W p tp ep tc ec (h.ch c0W) (good_of hnf) (by omega) (by omega)) ?_)))
    rintro r W1 ⟨x, rfl, k1, hS⟩
    refine ⟨x, rfl, ?_⟩
    have b2W1 := b2W.ch k1 (fun h => h)
    refine st_blk b2W1 (by simp) rfl fun w2 c2 s2 b2 => st_blk b2 (by simp) rfl fun w3 c3 s3 b3 => st_blk b3 (by simp) rfl fun w4 c4 s4 b4 => st_blk b4 (by simp) rfl fun w5 c5 s5 b5 => st_blk b5 (by simp) rfl fun w6 c6 s6 b6 => st_blk b6 (by simp) rfl fun w7 c7 s7 b7 => st_blk b7 (by simp) rfl fun w8 c8 s8 b8 => st_blk b8 (by simp) rfl fun w9 c9 s9 b9 => ?_
    have k9 : Ch (· = n2) W1 w9 := c2.trans (c3.trans (c4.trans (c5.trans (c6.trans (c7.trans (c8.trans c9))))))
    refine ld_sl (b9.cell 0) (ld_sl (b9.cell 1) (ld_sl (b9.cell 2) (ld_sl (b9.cell 3) (ld_sl (b9.cell 4) (ld_sl (b9.cell 5) (ld_sl (b9.cell 6) (ld_sl (b9.cell 7) ?_)))))))
    refine ⟨x, ?_, (c0W.trans k1).then_ k9 (fun k hk (hh : k = n2) => by omega), ?_⟩
    · unfold buildM
      rw [hnf]
      rfl
    · intro W' cW'
      unfold buildM
      rw [hnf]
      have hn2l := b2W.lt
      have hzW := c0W.size
      refine hS W' ((k9.mono fun k (hh : k = n2) => by omega).trans (cW'.mono fun k hh => by omega))
end Go.Proofs.YtkebljkdkaagfaaGreatDoor.S
