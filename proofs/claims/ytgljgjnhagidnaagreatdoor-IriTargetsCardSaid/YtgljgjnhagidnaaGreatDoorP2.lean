/- Each function of the program as a denotation, and that its calls come to what the denotation says. -/
import Derived.Test.YtgljgjnhagidnaaGreatDoorProg
import Derived.KernelRfl
import Derived.Test.YtgljgjnhagidnaaGreatDoorDen04
import Derived.Test.YtgljgjnhagidnaaGreatDoorP1
namespace Go.Proofs.YtgljgjnhagidnaaGreatDoor.Den
open Go Go.Dn Go.Dn.M Go.Shelf
set_option maxRecDepth 100000
set_option linter.unusedVariables false

/-! ### strings.Repeat: function 24 -/
noncomputable def C24 (g : FuncId) (xs : List AV) : M AV := bif Nat.beq g 14 then L2 f14 xs else bif Nat.beq g 36 then L2 f36 xs else bif Nat.beq g 37 then L1 f37 xs else bif Nat.beq g 42 then L1 f42 xs else bif Nat.beq g 54 then L2 f54 xs else bif Nat.beq g 55 then L2 f55 xs else fail
noncomputable def E24 : Env := ⟨Go.Proofs.Tryz.prog, 3, C24, fun _ _ => fail, fun _ => [], 24, none⟩
noncomputable def B24 : Code := bodyOf Go.Proofs.Tryz.f24
noncomputable def K24 : KT := dK Go.Proofs.Tryz.prog Go.Proofs.Tryz.f24.results.toList
noncomputable def f24_13 (x9 : AV) : M AV :=
 bd (f37 x9) fun v1 =>
 ret v1
theorem f24_13_eq (t : Tmps) : dcode E24 125 (c2 (c2 (c2 (c2 (c2 (c2 (c2 (c2 (c2 (c2 (c2 (c2 (c2 (c2 B24)))))))))))))) t K24 = f24_13 (t 9) := by kernel_rfl
noncomputable def f24_b14 (L14 : AV → AV → AV → M AV) (x7 x8 x9 : AV) : M AV :=
 bd (f42 x9) fun v1 =>
 bd (bi .lss v1 x7) fun v2 =>
 cnd v2 (
 bd (f42 x9) fun v3 =>
 bd (bi .sub x7 v3) fun v4 =>
 bd (f42 x9) fun v5 =>
 bd (fold2 mn2 v4 [v5, x8]) fun v6 =>
 bd (f37 x9) fun v7 =>
 bd (ss v7 none (some v6)) fun v8 =>
 bd (f36 x9 v8) fun v9 =>
 L14 x7 x8 x9) (
 f24_13 x9)
theorem f24_b14_eq (L14 : AV → AV → AV → M AV) (t : Tmps) : dcode E24 125 (c1 (c1 (c1 (c2 (c2 (c2 (c2 (c2 (c2 (c2 (c2 (c2 (c2 (c2 (c2 (c2 B24)))))))))))))))) t (kJ (fun t => L14 (t 7) (t 8) (t 9)) (kB 3 (kJ (fun t => f24_13 (t 9)) K24))) = f24_b14 L14 (t 7) (t 8) (t 9) := by kernel_rfl
noncomputable def f24_l14 : Nat → AV → AV → AV → M AV
  | 0, _, _, _ => fail
  | n + 1, x7, x8, x9 => f24_b14 (f24_l14 n) x7 x8 x9
theorem f24_l14_eq (t : Tmps) : dcode E24 125 (c1 (c1 (c2 (c2 (c2 (c2 (c2 (c2 (c2 (c2 (c2 (c2 (c2 (c2 (c2 B24))))))))))))))) t (kB 3 (kJ (fun t => f24_13 (t 9)) K24)) = f24_l14 fuel (t 7) (t 8) (t 9) :=
  dloop_eq (c := (c1 (c1 (c1 (c2 (c2 (c2 (c2 (c2 (c2 (c2 (c2 (c2 (c2 (c2 (c2 (c2 B24))))))))))))))))) (g := fun n t => f24_l14 n (t 7) (t 8) (t 9)) (fun _ => rfl) (fun n t => f24_b14_eq (f24_l14 n) t)
noncomputable def f24_12 (x7 x8 x9 : AV) : M AV :=
 f24_l14 fuel x7 x8 x9
theorem f24_12_eq (t : Tmps) : dcode E24 125 (c2 (c2 (c2 (c2 (c2 (c2 (c2 (c2 (c2 (c2 (c2 (c2 (c2 B24))))))))))))) t K24 = f24_12 (t 7) (t 8) (t 9) := (seq_eq (a := (c1 (c2 (c2 (c2 (c2 (c2 (c2 (c2 (c2 (c2 (c2 (c2 (c2 (c2 B24))))))))))))))) (b := (c2 (c2 (c2 (c2 (c2 (c2 (c2 (c2 (c2 (c2 (c2 (c2 (c2 (c2 B24))))))))))))))) (fun t => f24_13_eq t) (f24_l14_eq _))
noncomputable def f24_11 (x0 x7 x8 x9 : AV) : M AV :=
 bd (f36 x9 x0) fun v1 =>
 f24_12 x7 x8 x9
theorem f24_11_eq (t : Tmps) : dcode E24 125 (c2 (c2 (c2 (c2 (c2 (c2 (c2 (c2 (c2 (c2 (c2 (c2 B24)))))))))))) t K24 = f24_11 (t 0) (t 7) (t 8) (t 9) := (seq_eq (a := (c1 (c2 (c2 (c2 (c2 (c2 (c2 (c2 (c2 (c2 (c2 (c2 (c2 B24)))))))))))))) (b := (c2 (c2 (c2 (c2 (c2 (c2 (c2 (c2 (c2 (c2 (c2 (c2 (c2 B24)))))))))))))) (fun t => f24_12_eq t) (by kernel_rfl))
noncomputable def f24_10 (x0 x7 x8 x9 : AV) : M AV :=
 bd (f55 x9 x7) fun v1 =>
 f24_11 x0 x7 x8 x9
theorem f24_10_eq (t : Tmps) : dcode E24 125 (c2 (c2 (c2 (c2 (c2 (c2 (c2 (c2 (c2 (c2 (c2 B24))))))))))) t K24 = f24_10 (t 0) (t 7) (t 8) (t 9) := (seq_eq (a := (c1 (c2 (c2 (c2 (c2 (c2 (c2 (c2 (c2 (c2 (c2 (c2 B24))))))))))))) (b := (c2 (c2 (c2 (c2 (c2 (c2 (c2 (c2 (c2 (c2 (c2 (c2 B24))))))))))))) (fun t => f24_11_eq t) (by kernel_rfl))
noncomputable def f24_9 (x0 x7 x8 : AV) : M AV :=
 bd (bx 61 (.agg [(.ptr none), .slN])) fun v1 =>
 f24_10 x0 x7 x8 v1
theorem f24_9_eq (t : Tmps) : dcode E24 125 (c2 (c2 (c2 (c2 (c2 (c2 (c2 (c2 (c2 (c2 B24)))))))))) t K24 = f24_9 (t 0) (t 7) (t 8) := (seq_eq (a := (c1 (c2 (c2 (c2 (c2 (c2 (c2 (c2 (c2 (c2 (c2 B24)))))))))))) (b := (c2 (c2 (c2 (c2 (c2 (c2 (c2 (c2 (c2 (c2 (c2 B24)))))))))))) (fun t => f24_10_eq t) (by kernel_rfl))
noncomputable def f24_8 (x0 x7 x8 : AV) : M AV :=
 bd (bi .gtr x7 (.int .i64 8192)) fun v1 =>
 cnd v1 (
 bd (lnS x0) fun v2 =>
 bd (bi .quo (.int .i64 8192) v2) fun v3 =>
 bd (lnS x0) fun v4 =>
 bd (bi .mul v3 v4) fun v5 =>
 bd (bi .eql v5 (.int .i64 0)) fun v6 =>
 cnd v6 (
 bd (lnS x0) fun v7 =>
 f24_9 x0 x7 v7) (
 f24_9 x0 x7 v5)) (
 f24_9 x0 x7 x8)
theorem f24_8_eq (t : Tmps) : dcode E24 125 (c2 (c2 (c2 (c2 (c2 (c2 (c2 (c2 (c2 B24))))))))) t K24 = f24_8 (t 0) (t 7) (t 8) := (seq_eq (a := (c1 (c2 (c2 (c2 (c2 (c2 (c2 (c2 (c2 (c2 B24))))))))))) (b := (c2 (c2 (c2 (c2 (c2 (c2 (c2 (c2 (c2 (c2 B24))))))))))) (fun t => f24_9_eq t) (by kernel_rfl))
noncomputable def f24_7 (x0 x7 : AV) : M AV :=
 f24_8 x0 x7 x7
theorem f24_7_eq (t : Tmps) : dcode E24 125 (c2 (c2 (c2 (c2 (c2 (c2 (c2 (c2 B24)))))))) t K24 = f24_7 (t 0) (t 7) := (seq_eq (a := (c1 (c2 (c2 (c2 (c2 (c2 (c2 (c2 (c2 B24)))))))))) (b := (c2 (c2 (c2 (c2 (c2 (c2 (c2 (c2 (c2 B24)))))))))) (fun t => f24_8_eq t) (by kernel_rfl))
noncomputable def f24_16 (x0 x7 x43 : AV) : M AV :=
 cnd x43 (
 bd (bi .leq x7 (.int .i64 128)) fun v1 =>
 bd (gd v1 true (ret x0)) fun v2 =>
 bd (gd v1 true (f14 (.str [32, 32, 32, 32, 32, 32, 32, 32, 32, 32, 32, 32, 32, 32, 32, 32, 32, 32, 32, 32, 32, 32, 32, 32, 32, 32, 32, 32, 32, 32, 32, 32, 32, 32, 32, 32, 32, 32, 32, 32, 32, 32, 32, 32, 32, 32, 32, 32, 32, 32, 32, 32, 32, 32, 32, 32, 32, 32, 32, 32, 32, 32, 32, 32, 32, 32, 32, 32, 32, 32, 32, 32, 32, 32, 32, 32, 32, 32, 32, 32, 32, 32, 32, 32, 32, 32, 32, 32, 32, 32, 32, 32, 32, 32, 32, 32, 32, 32, 32, 32, 32, 32, 32, 32, 32, 32, 32, 32, 32, 32, 32, 32, 32, 32, 32, 32, 32, 32, 32, 32, 32, 32, 32, 32, 32, 32, 32, 32]) v2)) fun v3 =>
 bd (pk v1 v3 (.bool false)) fun v4 =>
 cnd v4 (
 bd (ss (.str [32, 32, 32, 32, 32, 32, 32, 32, 32, 32, 32, 32, 32, 32, 32, 32, 32, 32, 32, 32, 32, 32, 32, 32, 32, 32, 32, 32, 32, 32, 32, 32, 32, 32, 32, 32, 32, 32, 32, 32, 32, 32, 32, 32, 32, 32, 32, 32, 32, 32, 32, 32, 32, 32, 32, 32, 32, 32, 32, 32, 32, 32, 32, 32, 32, 32, 32, 32, 32, 32, 32, 32, 32, 32, 32, 32, 32, 32, 32, 32, 32, 32, 32, 32, 32, 32, 32, 32, 32, 32, 32, 32, 32, 32, 32, 32, 32, 32, 32, 32, 32, 32, 32, 32, 32, 32, 32, 32, 32, 32, 32, 32, 32, 32, 32, 32, 32, 32, 32, 32, 32, 32, 32, 32, 32, 32, 32, 32]) none (some x7)) fun v5 =>
 ret v5) (
 bd (bi .leq x7 (.int .i64 128)) fun v6 =>
 bd (gd v6 true (ret x0)) fun v7 =>
 bd (gd v6 true (f14 (.str [45, 45, 45, 45, 45, 45, 45, 45, 45, 45, 45, 45, 45, 45, 45, 45, 45, 45, 45, 45, 45, 45, 45, 45, 45, 45, 45, 45, 45, 45, 45, 45, 45, 45, 45, 45, 45, 45, 45, 45, 45, 45, 45, 45, 45, 45, 45, 45, 45, 45, 45, 45, 45, 45, 45, 45, 45, 45, 45, 45, 45, 45, 45, 45, 45, 45, 45, 45, 45, 45, 45, 45, 45, 45, 45, 45, 45, 45, 45, 45, 45, 45, 45, 45, 45, 45, 45, 45, 45, 45, 45, 45, 45, 45, 45, 45, 45, 45, 45, 45, 45, 45, 45, 45, 45, 45, 45, 45, 45, 45, 45, 45, 45, 45, 45, 45, 45, 45, 45, 45, 45, 45, 45, 45, 45, 45, 45, 45]) v7)) fun v8 =>
 bd (pk v6 v8 (.bool false)) fun v9 =>
 cnd v9 (
 bd (ss (.str [45, 45, 45, 45, 45, 45, 45, 45, 45, 45, 45, 45, 45, 45, 45, 45, 45, 45, 45, 45, 45, 45, 45, 45, 45, 45, 45, 45, 45, 45, 45, 45, 45, 45, 45, 45, 45, 45, 45, 45, 45, 45, 45, 45, 45, 45, 45, 45, 45, 45, 45, 45, 45, 45, 45, 45, 45, 45, 45, 45, 45, 45, 45, 45, 45, 45, 45, 45, 45, 45, 45, 45, 45, 45, 45, 45, 45, 45, 45, 45, 45, 45, 45, 45, 45, 45, 45, 45, 45, 45, 45, 45, 45, 45, 45, 45, 45, 45, 45, 45, 45, 45, 45, 45, 45, 45, 45, 45, 45, 45, 45, 45, 45, 45, 45, 45, 45, 45, 45, 45, 45, 45, 45, 45, 45, 45, 45, 45]) none (some x7)) fun v10 =>
 ret v10) (
 bd (bi .leq x7 (.int .i64 64)) fun v11 =>
 bd (gd v11 true (ret x0)) fun v12 =>
 bd (gd v11 true (f14 (.str [48, 48, 48, 48, 48, 48, 48, 48, 48, 48, 48, 48, 48, 48, 48, 48, 48, 48, 48, 48, 48, 48, 48, 48, 48, 48, 48, 48, 48, 48, 48, 48, 48, 48, 48, 48, 48, 48, 48, 48, 48, 48, 48, 48, 48, 48, 48, 48, 48, 48, 48, 48, 48, 48, 48, 48, 48, 48, 48, 48, 48, 48, 48, 48]) v12)) fun v13 =>
 bd (pk v11 v13 (.bool false)) fun v14 =>
 cnd v14 (
 bd (ss (.str [48, 48, 48, 48, 48, 48, 48, 48, 48, 48, 48, 48, 48, 48, 48, 48, 48, 48, 48, 48, 48, 48, 48, 48, 48, 48, 48, 48, 48, 48, 48, 48, 48, 48, 48, 48, 48, 48, 48, 48, 48, 48, 48, 48, 48, 48, 48, 48, 48, 48, 48, 48, 48, 48, 48, 48, 48, 48, 48, 48, 48, 48, 48, 48]) none (some x7)) fun v15 =>
 ret v15) (
 bd (bi .leq x7 (.int .i64 128)) fun v16 =>
 bd (gd v16 true (ret x0)) fun v17 =>
 bd (gd v16 true (f14 (.str [61, 61, 61, 61, 61, 61, 61, 61, 61, 61, 61, 61, 61, 61, 61, 61, 61, 61, 61, 61, 61, 61, 61, 61, 61, 61, 61, 61, 61, 61, 61, 61, 61, 61, 61, 61, 61, 61, 61, 61, 61, 61, 61, 61, 61, 61, 61, 61, 61, 61, 61, 61, 61, 61, 61, 61, 61, 61, 61, 61, 61, 61, 61, 61, 61, 61, 61, 61, 61, 61, 61, 61, 61, 61, 61, 61, 61, 61, 61, 61, 61, 61, 61, 61, 61, 61, 61, 61, 61, 61, 61, 61, 61, 61, 61, 61, 61, 61, 61, 61, 61, 61, 61, 61, 61, 61, 61, 61, 61, 61, 61, 61, 61, 61, 61, 61, 61, 61, 61, 61, 61, 61, 61, 61, 61, 61, 61, 61]) v17)) fun v18 =>
 bd (pk v16 v18 (.bool false)) fun v19 =>
 cnd v19 (
 bd (ss (.str [61, 61, 61, 61, 61, 61, 61, 61, 61, 61, 61, 61, 61, 61, 61, 61, 61, 61, 61, 61, 61, 61, 61, 61, 61, 61, 61, 61, 61, 61, 61, 61, 61, 61, 61, 61, 61, 61, 61, 61, 61, 61, 61, 61, 61, 61, 61, 61, 61, 61, 61, 61, 61, 61, 61, 61, 61, 61, 61, 61, 61, 61, 61, 61, 61, 61, 61, 61, 61, 61, 61, 61, 61, 61, 61, 61, 61, 61, 61, 61, 61, 61, 61, 61, 61, 61, 61, 61, 61, 61, 61, 61, 61, 61, 61, 61, 61, 61, 61, 61, 61, 61, 61, 61, 61, 61, 61, 61, 61, 61, 61, 61, 61, 61, 61, 61, 61, 61, 61, 61, 61, 61, 61, 61, 61, 61, 61, 61]) none (some x7)) fun v20 =>
 ret v20) (
 bd (bi .leq x7 (.int .i64 64)) fun v21 =>
 bd (gd v21 true (ret x0)) fun v22 =>
 bd (gd v21 true (f14 (.str [9, 9, 9, 9, 9, 9, 9, 9, 9, 9, 9, 9, 9, 9, 9, 9, 9, 9, 9, 9, 9, 9, 9, 9, 9, 9, 9, 9, 9, 9, 9, 9, 9, 9, 9, 9, 9, 9, 9, 9, 9, 9, 9, 9, 9, 9, 9, 9, 9, 9, 9, 9, 9, 9, 9, 9, 9, 9, 9, 9, 9, 9, 9, 9]) v22)) fun v23 =>
 bd (pk v21 v23 (.bool false)) fun v24 =>
 cnd v24 (
 bd (ss (.str [9, 9, 9, 9, 9, 9, 9, 9, 9, 9, 9, 9, 9, 9, 9, 9, 9, 9, 9, 9, 9, 9, 9, 9, 9, 9, 9, 9, 9, 9, 9, 9, 9, 9, 9, 9, 9, 9, 9, 9, 9, 9, 9, 9, 9, 9, 9, 9, 9, 9, 9, 9, 9, 9, 9, 9, 9, 9, 9, 9, 9, 9, 9, 9]) none (some x7)) fun v25 =>
 ret v25) (
 f24_7 x0 x7)))))) (
 f24_7 x0 x7)
theorem f24_16_eq (t : Tmps) : dcode E24 125 (c2 (c1 (c2 (c1 (c2 (c2 (c2 (c2 (c2 (c2 (c2 B24))))))))))) t (kB 1 (kJ (fun t => f24_7 (t 0) (t 7)) K24)) = f24_16 (t 0) (t 7) (t 43) := by kernel_rfl
noncomputable def f24_15 (x0 x7 x42 : AV) : M AV :=
 bd (bi .eql x42 (.int .u8 32)) fun v1 =>
 cnd v1 (
 f24_16 x0 x7 v1) (
 bd (bi .eql x42 (.int .u8 45)) fun v2 =>
 cnd v2 (
 f24_16 x0 x7 v2) (
 bd (bi .eql x42 (.int .u8 48)) fun v3 =>
 cnd v3 (
 f24_16 x0 x7 v3) (
 bd (bi .eql x42 (.int .u8 61)) fun v4 =>
 cnd v4 (
 f24_16 x0 x7 v4) (
 bd (bi .eql x42 (.int .u8 9)) fun v5 =>
 f24_16 x0 x7 v5))))
theorem f24_15_eq (t : Tmps) : dcode E24 125 (c2 (c1 (c2 (c2 (c2 (c2 (c2 (c2 (c2 B24))))))))) t (kJ (fun t => f24_7 (t 0) (t 7)) K24) = f24_15 (t 0) (t 7) (t 42) := (seq_eq (a := (c1 (c1 (c2 (c1 (c2 (c2 (c2 (c2 (c2 (c2 (c2 B24)))))))))))) (b := (c2 (c1 (c2 (c1 (c2 (c2 (c2 (c2 (c2 (c2 (c2 B24)))))))))))) (fun t => f24_16_eq t) (by kernel_rfl))
noncomputable def f24_6 (x0 x7 : AV) : M AV :=
 bd (ixs x0 (.int .i64 0)) fun v1 =>
 f24_15 x0 x7 v1
theorem f24_6_eq (t : Tmps) : dcode E24 125 (c2 (c2 (c2 (c2 (c2 (c2 (c2 B24))))))) t K24 = f24_6 (t 0) (t 7) := (seq_eq (a := (c1 (c2 (c2 (c2 (c2 (c2 (c2 (c2 B24))))))))) (b := (c2 (c2 (c2 (c2 (c2 (c2 (c2 (c2 B24))))))))) (fun t => f24_7_eq t) (seq_eq (a := (c1 (c1 (c2 (c2 (c2 (c2 (c2 (c2 (c2 B24)))))))))) (b := (c2 (c1 (c2 (c2 (c2 (c2 (c2 (c2 (c2 B24)))))))))) (fun t => f24_15_eq t) (by kernel_rfl)))
noncomputable def f24_5 (x0 x7 : AV) : M AV :=
 bd (lnS x0) fun v1 =>
 bd (bi .eql v1 (.int .i64 0)) fun v2 =>
 cnd v2 (
 ret (.str [])) (
 f24_6 x0 x7)
theorem f24_5_eq (t : Tmps) : dcode E24 125 (c2 (c2 (c2 (c2 (c2 (c2 B24)))))) t K24 = f24_5 (t 0) (t 7) := (seq_eq (a := (c1 (c2 (c2 (c2 (c2 (c2 (c2 B24)))))))) (b := (c2 (c2 (c2 (c2 (c2 (c2 (c2 B24)))))))) (fun t => f24_6_eq t) (by kernel_rfl))
noncomputable def f24_4 (x0 x6 : AV) : M AV :=
 bd (ci .i64 x6) fun v1 =>
 f24_5 x0 v1
theorem f24_4_eq (t : Tmps) : dcode E24 125 (c2 (c2 (c2 (c2 (c2 B24))))) t K24 = f24_4 (t 0) (t 6) := (seq_eq (a := (c1 (c2 (c2 (c2 (c2 (c2 B24))))))) (b := (c2 (c2 (c2 (c2 (c2 (c2 B24))))))) (fun t => f24_5_eq t) (by kernel_rfl))
noncomputable def f24_3 (x0 x5 x6 : AV) : M AV :=
 bd (bi .gtr x5 (.int .u64 0)) fun v1 =>
 bd (gd v1 false (ret x6)) fun v2 =>
 bd (gd v1 false (bi .gtr v2 (.int .u64 9223372036854775807))) fun v3 =>
 bd (pk v1 (.bool true) v3) fun v4 =>
 cnd v4 (
 bd (fail : M AV) fun v5 =>
 bd (fail : M AV) fun _ =>
 f24_4 x0 x6) (
 f24_4 x0 x6)
theorem f24_3_eq (t : Tmps) : dcode E24 125 (c2 (c2 (c2 (c2 B24)))) t K24 = f24_3 (t 0) (t 5) (t 6) := (seq_eq (a := (c1 (c2 (c2 (c2 (c2 B24)))))) (b := (c2 (c2 (c2 (c2 (c2 B24)))))) (fun t => f24_4_eq t) (by kernel_rfl))
noncomputable def f24_2 (x0 x1 : AV) : M AV :=
 bd (lnS x0) fun v1 =>
 bd (ci .u64 v1) fun v2 =>
 bd (ci .u64 x1) fun v3 =>
 bd (f54 v2 v3) fun v4 =>
 bd (ex v4 0) fun v5 =>
 bd (ex v4 1) fun v6 =>
 f24_3 x0 v5 v6
theorem f24_2_eq (t : Tmps) : dcode E24 125 (c2 (c2 (c2 B24))) t K24 = f24_2 (t 0) (t 1) := (seq_eq (a := (c1 (c2 (c2 (c2 B24))))) (b := (c2 (c2 (c2 (c2 B24))))) (fun t => f24_3_eq t) (by kernel_rfl))
noncomputable def f24_1 (x0 x1 : AV) : M AV :=
 bd (bi .lss x1 (.int .i64 0)) fun v1 =>
 cnd v1 (
 bd (fail : M AV) fun v2 =>
 bd (fail : M AV) fun _ =>
 f24_2 x0 x1) (
 f24_2 x0 x1)
theorem f24_1_eq (t : Tmps) : dcode E24 125 (c2 (c2 B24)) t K24 = f24_1 (t 0) (t 1) := (seq_eq (a := (c1 (c2 (c2 B24)))) (b := (c2 (c2 (c2 B24)))) (fun t => f24_2_eq t) (by kernel_rfl))
noncomputable def f24_0 (x0 x1 : AV) : M AV :=
 bd (bi .eql x1 (.int .i64 0)) fun v1 =>
 cnd v1 (
 ret (.str [])) (
 bd (bi .eql x1 (.int .i64 1)) fun v2 =>
 cnd v2 (
 ret x0) (
 f24_1 x0 x1))
theorem f24_0_eq (t : Tmps) : dcode E24 125 (c2 B24) t K24 = f24_0 (t 0) (t 1) := (seq_eq (a := (c1 (c2 B24))) (b := (c2 (c2 B24))) (fun t => f24_1_eq t) (by kernel_rfl))
noncomputable def f24 (x0 x1 : AV) : M AV :=
 f24_0 x0 x1
theorem f24_top (t : Tmps) : dcode E24 125 B24 t K24 = f24 (t 0) (t 1) := (seq_eq (a := (c1 B24)) (b := (c2 B24)) (fun t => f24_0_eq t) (by kernel_rfl))
theorem f24_eq (x0 x1 : AV) : dfn E24 Go.Proofs.Tryz.f24 [x0, x1] = f24 x0 x1 := dfn_eq (c := B24) (nt := 125) (K := K24) (by kernel_rfl) (by kernel_rfl) rfl (by kernel_rfl) (f24_top (argT [x0, x1]))
theorem O24 : EnvOK E24 := ⟨fun g xs => (ok_if (S14 xs) (ok_if (S36 xs) (ok_if (S37 xs) (ok_if (S42 xs) (ok_if (S54 xs) (ok_if (S55 xs) ok_fail)))))), ap_fail⟩
theorem S24 (xs : List AV) : CallOK Go.Proofs.Tryz.prog 3 24 xs (L2 f24 xs) := ok_L2 (fun x0 x1 => ok_fn (E := E24) (fn := Go.Proofs.Tryz.f24) O24 rfl rfl (by kernel_rfl) (by kernel_rfl) (f24_eq x0 x1)) xs

/-! ### strings.Contains: function 27 -/
noncomputable def C27 (g : FuncId) (xs : List AV) : M AV := bif Nat.beq g 57 then L2 f57 xs else fail
noncomputable def E27 : Env := ⟨Go.Proofs.Tryz.prog, 3, C27, fun _ _ => fail, fun _ => [], 27, none⟩
noncomputable def B27 : Code := bodyOf Go.Proofs.Tryz.f27
noncomputable def K27 : KT := dK Go.Proofs.Tryz.prog Go.Proofs.Tryz.f27.results.toList
noncomputable def f27 (x0 x1 : AV) : M AV :=
 bd (f57 x0 x1) fun v1 =>
 bd (bi .geq v1 (.int .i64 0)) fun v2 =>
 ret v2
theorem f27_eq (x0 x1 : AV) : dfn E27 Go.Proofs.Tryz.f27 [x0, x1] = f27 x0 x1 := dfn_eq (c := B27) (nt := 9) (K := K27) (by kernel_rfl) (by kernel_rfl) rfl (by kernel_rfl) (by kernel_rfl)
theorem O27 : EnvOK E27 := ⟨fun g xs => (ok_if (S57 xs) ok_fail), ap_fail⟩
theorem S27 (xs : List AV) : CallOK Go.Proofs.Tryz.prog 3 27 xs (L2 f27 xs) := ok_L2 (fun x0 x1 => ok_fn (E := E27) (fn := Go.Proofs.Tryz.f27) O27 rfl rfl (by kernel_rfl) (by kernel_rfl) (f27_eq x0 x1)) xs

/-! ### etui/iri.Relative: function 10 -/
noncomputable def C10 (ap : FuncId → List AV → M AV) (g : FuncId) (xs : List AV) : M AV := bif Nat.beq g 22 then L1 (f22 ap) xs else bif Nat.beq g 23 then L2 f23 xs else bif Nat.beq g 24 then L2 f24 xs else bif Nat.beq g 25 then L2 f25 xs else bif Nat.beq g 26 then L2 f26 xs else bif Nat.beq g 27 then L2 f27 xs else fail
noncomputable def E10 (ap : FuncId → List AV → M AV) : Env := ⟨Go.Proofs.Tryz.prog, 3, C10 ap, ap, fun i => bif Nat.beq i 3 then [0, 1, 3, 4, 2, 5, 6, 7] else bif Nat.beq i 4 then [0, 1, 2, 3, 4, 5, 6, 7, 8, 9, 10, 11, 12, 13, 14, 15, 16] else bif Nat.beq i 5 then [0, 1, 2, 3, 4, 5] else [], 10, none⟩
noncomputable def B10 : Code := bodyOf Go.Proofs.Tryz.f10
noncomputable def K10 : KT := dK Go.Proofs.Tryz.prog Go.Proofs.Tryz.f10.results.toList
noncomputable def f10_3 (ap : FuncId → List AV → M AV) (x5 x6 : AV) : M AV :=
 bd (lnL x5) fun v1 =>
 bd (bi .sub v1 (.int .i64 1)) fun v2 =>
 bd (f24 (.str [46, 46, 47]) v2) fun v3 =>
 bd (f25 x6 (.str [47])) fun v4 =>
 bd (bi .add v3 v4) fun v5 =>
 bd (f26 v5 (.str [47])) fun v6 =>
 bd (ex v6 0) fun v7 =>
 bd (ex v6 1) fun v8 =>
 bd (ex v6 2) fun v9 =>
 bd (f27 v7 (.str [58])) fun v10 =>
 cnd v10 (
 bd (bi .add (.str [46, 47]) v5) fun v11 =>
 ret v11) (
 ret v5)
theorem f10_3_eq (ap : FuncId → List AV → M AV) (t : Tmps) : dcode (E10 ap) 68 (c2 (c2 (c2 (c2 B10)))) t K10 = f10_3 ap (t 5) (t 6) := by kernel_rfl
noncomputable def f10_b4 (ap : FuncId → List AV → M AV) (L4 : AV → AV → M AV) (x5 x6 : AV) : M AV :=
 bd (ret x5) fun v1 =>
 bd (lnL v1) fun v2 =>
 bd (bi .gtr v2 (.int .i64 1)) fun v3 =>
 bd (ret v3) fun v4 =>
 bd (gd v4 true (ret x6)) fun v5 =>
 bd (gd v4 true (lnL v5)) fun v6 =>
 bd (gd v4 true (bi .gtr v6 (.int .i64 1))) fun v7 =>
 bd (pk v4 v7 (.bool false)) fun v8 =>
 bd (ret v8) fun v9 =>
 bd (gd v9 true (ret x5)) fun v10 =>
 bd (gd v9 true (ixp 1 v10 (.int .i64 0))) fun v11 =>
 bd (gd v9 true (ld v11)) fun v12 =>
 bd (gd v9 true (ret x6)) fun v13 =>
 bd (gd v9 true (ixp 1 v13 (.int .i64 0))) fun v14 =>
 bd (gd v9 true (ld v14)) fun v15 =>
 bd (gd v9 true (bi .eql v12 v15)) fun v16 =>
 bd (pk v9 v16 (.bool false)) fun v17 =>
 cnd v17 (
 bd (ret x5) fun v18 =>
 bd (sls 1 v18 (some (.int .i64 1)) none) fun v19 =>
 bd (ret x6) fun v20 =>
 bd (sls 1 v20 (some (.int .i64 1)) none) fun v21 =>
 bd (ret v19) fun v22 =>
 bd (ret v21) fun v23 =>
 L4 v22 v23) (
 f10_3 ap x5 x6)
theorem f10_b4_eq (ap : FuncId → List AV → M AV) (L4 : AV → AV → M AV) (t : Tmps) : dcode (E10 ap) 68 (c1 (c1 (c1 (c2 (c2 (c2 B10)))))) t (kJ (fun t => L4 (t 5) (t 6)) (kB 0 (kJ (fun t => f10_3 ap (t 5) (t 6)) K10))) = f10_b4 ap L4 (t 5) (t 6) := by kernel_rfl
noncomputable def f10_l4 (ap : FuncId → List AV → M AV) : Nat → AV → AV → M AV
  | 0, _, _ => fail
  | n + 1, x5, x6 => f10_b4 ap (f10_l4 ap n) x5 x6
theorem f10_l4_eq (ap : FuncId → List AV → M AV) (t : Tmps) : dcode (E10 ap) 68 (c1 (c1 (c2 (c2 (c2 B10))))) t (kB 0 (kJ (fun t => f10_3 ap (t 5) (t 6)) K10)) = f10_l4 ap fuel (t 5) (t 6) :=
  dloop_eq (c := (c1 (c1 (c1 (c2 (c2 (c2 B10))))))) (g := fun n t => f10_l4 ap n (t 5) (t 6)) (fun _ => rfl) (fun n t => f10_b4_eq ap (f10_l4 ap n) t)
noncomputable def f10_2 (ap : FuncId → List AV → M AV) (x5 x6 : AV) : M AV :=
 f10_l4 ap fuel x5 x6
theorem f10_2_eq (ap : FuncId → List AV → M AV) (t : Tmps) : dcode (E10 ap) 68 (c2 (c2 (c2 B10))) t K10 = f10_2 ap (t 5) (t 6) := (seq_eq (a := (c1 (c2 (c2 (c2 B10))))) (b := (c2 (c2 (c2 (c2 B10))))) (fun t => f10_3_eq ap t) (f10_l4_eq ap _))
noncomputable def f10_1 (ap : FuncId → List AV → M AV) (x0 x1 : AV) : M AV :=
 bd (ret x0) fun v1 =>
 bd (ss v1 (some (.int .i64 1)) none) fun v2 =>
 bd (ret x1) fun v3 =>
 bd (ss v3 (some (.int .i64 1)) none) fun v4 =>
 bd (f23 v2 (.str [47])) fun v5 =>
 bd (f23 v4 (.str [47])) fun v6 =>
 bd (ret v5) fun v7 =>
 bd (ret v6) fun v8 =>
 f10_2 ap v7 v8
theorem f10_1_eq (ap : FuncId → List AV → M AV) (t : Tmps) : dcode (E10 ap) 68 (c2 (c2 B10)) t K10 = f10_1 ap (t 0) (t 1) := (seq_eq (a := (c1 (c2 (c2 B10)))) (b := (c2 (c2 (c2 B10)))) (fun t => f10_2_eq ap t) (by kernel_rfl))
noncomputable def f10_0 (ap : FuncId → List AV → M AV) (x0 x1 : AV) : M AV :=
 bd (bi .neq x0 (.str [47])) fun v1 =>
 bd (gd v1 true (ret x0)) fun v2 =>
 bd (gd v1 true (f22 ap v2)) fun v3 =>
 bd (gd v1 true (un .not v3)) fun v4 =>
 bd (pk v1 v4 (.bool false)) fun v5 =>
 bd (gd v5 false (ret x1)) fun v6 =>
 bd (gd v5 false (f22 ap v6)) fun v7 =>
 bd (gd v5 false (un .not v7)) fun v8 =>
 bd (pk v5 (.bool true) v8) fun v9 =>
 cnd v9 (
 ret (.str [])) (
 f10_1 ap x0 x1)
theorem f10_0_eq (ap : FuncId → List AV → M AV) (t : Tmps) : dcode (E10 ap) 68 (c2 B10) t K10 = f10_0 ap (t 0) (t 1) := (seq_eq (a := (c1 (c2 B10))) (b := (c2 (c2 B10))) (fun t => f10_1_eq ap t) (by kernel_rfl))
noncomputable def f10 (ap : FuncId → List AV → M AV) (x0 x1 : AV) : M AV :=
 f10_0 ap x0 x1
theorem f10_top (ap : FuncId → List AV → M AV) (t : Tmps) : dcode (E10 ap) 68 B10 t K10 = f10 ap (t 0) (t 1) := (seq_eq (a := (c1 B10)) (b := (c2 B10)) (fun t => f10_0_eq ap t) (by kernel_rfl))
theorem f10_eq (ap : FuncId → List AV → M AV) (x0 x1 : AV) : dfn (E10 ap) Go.Proofs.Tryz.f10 [x0, x1] = f10 ap x0 x1 := dfn_eq (c := B10) (nt := 68) (K := K10) (by kernel_rfl) (by kernel_rfl) rfl (by kernel_rfl) (f10_top ap (argT [x0, x1]))
theorem O10 (ap : FuncId → List AV → M AV) (hap : ApOK Go.Proofs.Tryz.prog 3 ap) : EnvOK (E10 ap) := ⟨fun g xs => (ok_if (S22 ap hap xs) (ok_if (S23 xs) (ok_if (S24 xs) (ok_if (S25 xs) (ok_if (S26 xs) (ok_if (S27 xs) ok_fail)))))), hap⟩
theorem S10 (ap : FuncId → List AV → M AV) (hap : ApOK Go.Proofs.Tryz.prog 3 ap) (xs : List AV) : CallOK Go.Proofs.Tryz.prog 3 10 xs (L2 (f10 ap) xs) := ok_L2 (fun x0 x1 => ok_fn (E := (E10 ap)) (fn := Go.Proofs.Tryz.f10) (O10 ap hap) rfl rfl (by kernel_rfl) (by kernel_rfl) (f10_eq ap x0 x1)) xs

/-! ### etui/iri.Join: function 13 -/
noncomputable def C13 (ap : FuncId → List AV → M AV) (g : FuncId) (xs : List AV) : M AV := bif Nat.beq g 37 then L1 f37 xs else fail
noncomputable def E13 (ap : FuncId → List AV → M AV) : Env := ⟨Go.Proofs.Tryz.prog, 3, C13 ap, ap, fun _ => [], 13, none⟩
noncomputable def B13 : Code := bodyOf Go.Proofs.Tryz.f13
noncomputable def K13 : KT := dK Go.Proofs.Tryz.prog Go.Proofs.Tryz.f13.results.toList
noncomputable def f13 (ap : FuncId → List AV → M AV) (x0 : AV) : M AV :=
 bd (bx 24 x0) fun v1 =>
 bd (bx 61 (.agg [(.ptr none), .slN])) fun v2 =>
 bd (ret (.func 35 [] [v2])) fun v3 =>
 bd (fa v1 5) fun v4 =>
 bd (ld v4) fun v5 =>
 bd (fa v1 0) fun v6 =>
 bd (ld v6) fun v7 =>
 bd (bsl 9 1 2 [(.str []), (.str [])] [(0, 1, v7), (1, 1, (.str [58]))]) fun v8 =>
 bd (apv ap v3 [v5, v8]) fun v9 =>
 bd (fa v1 6) fun v10 =>
 bd (ld v10) fun v11 =>
 bd (fa v1 1) fun v12 =>
 bd (ld v12) fun v13 =>
 bd (bsl 9 1 2 [(.str []), (.str [])] [(0, 1, (.str [47, 47])), (1, 1, v13)]) fun v14 =>
 bd (apv ap v3 [v11, v14]) fun v15 =>
 bd (fa v1 2) fun v16 =>
 bd (ld v16) fun v17 =>
 bd (bsl 9 1 1 [(.str [])] [(0, 1, v17)]) fun v18 =>
 bd (apv ap v3 [(.bool true), v18]) fun v19 =>
 bd (fa v1 7) fun v20 =>
 bd (ld v20) fun v21 =>
 bd (fa v1 3) fun v22 =>
 bd (ld v22) fun v23 =>
 bd (bsl 9 1 2 [(.str []), (.str [])] [(0, 1, (.str [63])), (1, 1, v23)]) fun v24 =>
 bd (apv ap v3 [v21, v24]) fun v25 =>
 bd (fa v1 8) fun v26 =>
 bd (ld v26) fun v27 =>
 bd (fa v1 4) fun v28 =>
 bd (ld v28) fun v29 =>
 bd (bsl 9 1 2 [(.str []), (.str [])] [(0, 1, (.str [35])), (1, 1, v29)]) fun v30 =>
 bd (apv ap v3 [v27, v30]) fun v31 =>
 bd (f37 v2) fun v32 =>
 ret v32
theorem f13_eq (ap : FuncId → List AV → M AV) (x0 : AV) : dfn (E13 ap) Go.Proofs.Tryz.f13 [x0] = f13 ap x0 := dfn_eq (c := B13) (nt := 40) (K := K13) (by kernel_rfl) (by kernel_rfl) rfl (by kernel_rfl) (by kernel_rfl)
theorem O13 (ap : FuncId → List AV → M AV) (hap : ApOK Go.Proofs.Tryz.prog 3 ap) : EnvOK (E13 ap) := ⟨fun g xs => (ok_if (S37 xs) ok_fail), hap⟩
theorem S13 (ap : FuncId → List AV → M AV) (hap : ApOK Go.Proofs.Tryz.prog 3 ap) (xs : List AV) : CallOK Go.Proofs.Tryz.prog 3 13 xs (L1 (f13 ap) xs) := ok_L1 (fun x0 => ok_fn (E := (E13 ap)) (fn := Go.Proofs.Tryz.f13) (O13 ap hap) rfl rfl (by kernel_rfl) (by kernel_rfl) (f13_eq ap x0)) xs

/-! ### etui/etuilaw16.alive: function 4 -/
noncomputable def C4 (ap : FuncId → List AV → M AV) (g : FuncId) (xs : List AV) : M AV := bif Nat.beq g 7 then L2 (f7 ap) xs else bif Nat.beq g 10 then L2 (f10 ap) xs else bif Nat.beq g 12 then L1 (f12 ap) xs else bif Nat.beq g 13 then L1 (f13 ap) xs else fail
noncomputable def E4 (ap : FuncId → List AV → M AV) : Env := ⟨Go.Proofs.Tryz.prog, 3, C4 ap, ap, fun _ => [], 4, none⟩
noncomputable def B4 : Code := bodyOf Go.Proofs.Tryz.f4
noncomputable def K4 : KT := dK Go.Proofs.Tryz.prog Go.Proofs.Tryz.f4.results.toList
noncomputable def f4 (ap : FuncId → List AV → M AV) : M AV :=
 bd (f7 ap (.str [47, 119, 111, 114, 100, 47, 100, 111, 99, 117, 109, 101, 110, 116, 46, 120, 109, 108]) (.str [46, 46, 47, 109, 101, 100, 105, 97, 47, 97, 37, 54, 50, 46, 112, 110, 103, 35, 120])) fun v1 =>
 bd (ex v1 0) fun v2 =>
 bd (ex v1 1) fun v3 =>
 bd (ex v1 2) fun v4 =>
 bd (f7 ap (.str [47, 97]) (.str [104, 116, 116, 112, 58, 47, 47, 98, 47, 99])) fun v5 =>
 bd (ex v5 0) fun v6 =>
 bd (ex v5 1) fun v7 =>
 bd (ex v5 2) fun v8 =>
 bd (f12 ap (.str [97, 58, 98, 63, 99, 35, 100])) fun v9 =>
 bd (ex v9 0) fun v10 =>
 bd (ex v9 1) fun v11 =>
 bd (bx 24 (.agg [(.str []), (.str []), (.str []), (.str []), (.str []), (.bool false), (.bool false), (.bool false), (.bool false)])) fun v12 =>
 bd (sta 9 v12 v10) fun _ =>
 bd (bi .eql v4 (.int .i64 0)) fun v13 =>
 bd (gd v13 true (ret v2)) fun v14 =>
 bd (gd v13 true (bi .eql v14 (.str [47, 109, 101, 100, 105, 97, 47, 97, 98, 46, 112, 110, 103]))) fun v15 =>
 bd (pk v13 v15 (.bool false)) fun v16 =>
 bd (gd v16 true (ret v3)) fun v17 =>
 bd (gd v16 true (bi .eql v17 (.str [120]))) fun v18 =>
 bd (pk v16 v18 (.bool false)) fun v19 =>
 bd (gd v19 true (ret v8)) fun v20 =>
 bd (gd v19 true (bi .eql v20 (.int .i64 21))) fun v21 =>
 bd (pk v19 v21 (.bool false)) fun v22 =>
 bd (gd v22 true (ret v11)) fun v23 =>
 bd (pk v22 v23 (.bool false)) fun v24 =>
 bd (gd v24 true (lda 9 v12)) fun v25 =>
 bd (gd v24 true (bu [(.str []), (.str []), (.str []), (.str []), (.str []), (.bool false), (.bool false), (.bool false), (.bool false)] [(0, 1, (.str [97])), (2, 1, (.str [98])), (3, 1, (.str [99])), (4, 1, (.str [100])), (5, 1, (.bool true)), (7, 1, (.bool true)), (8, 1, (.bool true))])) fun v26 =>
 bd (gd v24 true (bis [.s, .s, .s, .s, .s, .b, .b, .b, .b] .eql v25 v26)) fun v27 =>
 bd (pk v24 v27 (.bool false)) fun v28 =>
 bd (gd v28 true (lda 9 v12)) fun v29 =>
 bd (gd v28 true (f13 ap v29)) fun v30 =>
 bd (gd v28 true (bi .eql v30 (.str [97, 58, 98, 63, 99, 35, 100]))) fun v31 =>
 bd (pk v28 v31 (.bool false)) fun v32 =>
 bd (gd v32 true (f10 ap (.str [47, 119, 111, 114, 100, 47, 100, 111, 99, 117, 109, 101, 110, 116, 46, 120, 109, 108]) (.str [47, 109, 101, 100, 105, 97, 47, 97, 46, 112, 110, 103]))) fun v33 =>
 bd (gd v32 true (bi .eql v33 (.str [46, 46, 47, 109, 101, 100, 105, 97, 47, 97, 46, 112, 110, 103]))) fun v34 =>
 bd (pk v32 v34 (.bool false)) fun v35 =>
 ret v35
theorem f4_eq (ap : FuncId → List AV → M AV) : dfn (E4 ap) Go.Proofs.Tryz.f4 [] = f4 ap := dfn_eq (c := B4) (nt := 54) (K := K4) (by kernel_rfl) (by kernel_rfl) rfl (by kernel_rfl) (by kernel_rfl)
theorem O4 (ap : FuncId → List AV → M AV) (hap : ApOK Go.Proofs.Tryz.prog 3 ap) : EnvOK (E4 ap) := ⟨fun g xs => (ok_if (S7 ap hap xs) (ok_if (S10 ap hap xs) (ok_if (S12 ap hap xs) (ok_if (S13 ap hap xs) ok_fail)))), hap⟩
theorem S4 (ap : FuncId → List AV → M AV) (hap : ApOK Go.Proofs.Tryz.prog 3 ap) (xs : List AV) : CallOK Go.Proofs.Tryz.prog 3 4 xs (L0 (f4 ap) xs) := ok_L0 (ok_fn (E := (E4 ap)) (fn := Go.Proofs.Tryz.f4) (O4 ap hap) rfl rfl (by kernel_rfl) (by kernel_rfl) (f4_eq ap)) xs

/-! ### etui/etuiref16.until: function 30 -/
noncomputable def C30 (g : FuncId) (xs : List AV) : M AV := fail
noncomputable def E30 : Env := ⟨Go.Proofs.Tryz.prog, 3, C30, fun _ _ => fail, fun i => bif Nat.beq i 7 then [0, 1, 2, 3, 4, 5, 6] else [], 30, none⟩
noncomputable def B30 : Code := bodyOf Go.Proofs.Tryz.f30
noncomputable def K30 : KT := dK Go.Proofs.Tryz.prog Go.Proofs.Tryz.f30.results.toList
noncomputable def f30_1 (x0 : AV) : M AV :=
 bd (lnS x0) fun v1 =>
 ret v1
theorem f30_1_eq (t : Tmps) : dcode E30 29 (c2 (c2 B30)) t K30 = f30_1 (t 0) := by kernel_rfl
noncomputable def f30_5 (L3 : AV → AV → AV → M AV) (x0 x1 x5 : AV) : M AV :=
 bd (bi .add x5 (.int .i64 1)) fun v1 =>
 L3 x0 x1 v1
theorem f30_5_eq (L3 : AV → AV → AV → M AV) (t : Tmps) : dcode E30 29 (c2 (c2 (c1 (c1 (c2 (c1 (c2 B30))))))) t (kJ (fun t => L3 (t 0) (t 1) (t 5)) (kB 0 (kJ (fun t => f30_1 (t 0)) K30))) = f30_5 L3 (t 0) (t 1) (t 5) := by kernel_rfl
noncomputable def f30_b7 (L3 : AV → AV → AV → M AV) (L7 : AV → AV → AV → AV → M AV) (x0 x1 x5 x6 : AV) : M AV :=
 bd (lnS x1) fun v1 =>
 bd (bi .lss x6 v1) fun v2 =>
 cnd v2 (
 bd (ret x0) fun v3 =>
 bd (ret x5) fun v4 =>
 bd (ixs v3 v4) fun v5 =>
 bd (ret x1) fun v6 =>
 bd (ret x6) fun v7 =>
 bd (ixs v6 v7) fun v8 =>
 bd (bi .eql v5 v8) fun v9 =>
 cnd v9 (
 ret x5) (
 bd (bi .add x6 (.int .i64 1)) fun v10 =>
 L7 x0 x1 x5 v10)) (
 f30_5 L3 x0 x1 x5)
theorem f30_b7_eq (L3 : AV → AV → AV → M AV) (L7 : AV → AV → AV → AV → M AV) (t : Tmps) : dcode E30 29 (c1 (c1 (c2 (c1 (c1 (c2 (c1 (c1 (c2 (c1 (c2 B30))))))))))) t (kJ (fun t => L7 (t 0) (t 1) (t 5) (t 6)) (kB 2 (kB 1 (kJ (fun t => f30_5 L3 (t 0) (t 1) (t 5)) (kJ (fun t => L3 (t 0) (t 1) (t 5)) (kB 0 (kJ (fun t => f30_1 (t 0)) K30))))))) = f30_b7 L3 L7 (t 0) (t 1) (t 5) (t 6) := by kernel_rfl
noncomputable def f30_l7 (L3 : AV → AV → AV → M AV) : Nat → AV → AV → AV → AV → M AV
  | 0, _, _, _, _ => fail
  | n + 1, x0, x1, x5, x6 => f30_b7 L3 (f30_l7 L3 n) x0 x1 x5 x6
theorem f30_l7_eq (L3 : AV → AV → AV → M AV) (t : Tmps) : dcode E30 29 (c1 (c2 (c1 (c1 (c2 (c1 (c1 (c2 (c1 (c2 B30)))))))))) t (kB 2 (kB 1 (kJ (fun t => f30_5 L3 (t 0) (t 1) (t 5)) (kJ (fun t => L3 (t 0) (t 1) (t 5)) (kB 0 (kJ (fun t => f30_1 (t 0)) K30)))))) = f30_l7 L3 fuel (t 0) (t 1) (t 5) (t 6) :=
  dloop_eq (c := (c1 (c1 (c2 (c1 (c1 (c2 (c1 (c1 (c2 (c1 (c2 B30)))))))))))) (g := fun n t => f30_l7 L3 n (t 0) (t 1) (t 5) (t 6)) (fun _ => rfl) (fun n t => f30_b7_eq L3 (f30_l7 L3 n) t)
noncomputable def f30_6 (L3 : AV → AV → AV → M AV) (x0 x1 x5 x6 : AV) : M AV :=
 f30_l7 L3 fuel x0 x1 x5 x6
theorem f30_6_eq (L3 : AV → AV → AV → M AV) (t : Tmps) : dcode E30 29 (c2 (c1 (c1 (c2 (c1 (c1 (c2 (c1 (c2 B30))))))))) t (kB 1 (kJ (fun t => f30_5 L3 (t 0) (t 1) (t 5)) (kJ (fun t => L3 (t 0) (t 1) (t 5)) (kB 0 (kJ (fun t => f30_1 (t 0)) K30))))) = f30_6 L3 (t 0) (t 1) (t 5) (t 6) := (f30_l7_eq L3 _)
noncomputable def f30_4 (L3 : AV → AV → AV → M AV) (x0 x1 x5 : AV) : M AV :=
 f30_6 L3 x0 x1 x5 (.int .i64 0)
theorem f30_4_eq (L3 : AV → AV → AV → M AV) (t : Tmps) : dcode E30 29 (c2 (c1 (c1 (c2 (c1 (c2 B30)))))) t (kJ (fun t => L3 (t 0) (t 1) (t 5)) (kB 0 (kJ (fun t => f30_1 (t 0)) K30))) = f30_4 L3 (t 0) (t 1) (t 5) := (seq_eq (a := (c1 (c2 (c1 (c1 (c2 (c1 (c2 B30)))))))) (b := (c2 (c2 (c1 (c1 (c2 (c1 (c2 B30)))))))) (fun t => f30_5_eq L3 t) (seq_eq (a := (c1 (c1 (c1 (c2 (c1 (c1 (c2 (c1 (c2 B30)))))))))) (b := (c2 (c1 (c1 (c2 (c1 (c1 (c2 (c1 (c2 B30)))))))))) (fun t => f30_6_eq L3 t) (by kernel_rfl)))
noncomputable def f30_b3 (L3 : AV → AV → AV → M AV) (x0 x1 x5 : AV) : M AV :=
 bd (lnS x0) fun v1 =>
 bd (bi .lss x5 v1) fun v2 =>
 cnd v2 (
 f30_4 L3 x0 x1 x5) (
 f30_1 x0)
theorem f30_b3_eq (L3 : AV → AV → AV → M AV) (t : Tmps) : dcode E30 29 (c1 (c1 (c2 (c1 (c2 B30))))) t (kJ (fun t => L3 (t 0) (t 1) (t 5)) (kB 0 (kJ (fun t => f30_1 (t 0)) K30))) = f30_b3 L3 (t 0) (t 1) (t 5) := (seq_eq (a := (c1 (c1 (c1 (c2 (c1 (c2 B30))))))) (b := (c2 (c1 (c1 (c2 (c1 (c2 B30))))))) (fun t => f30_4_eq L3 t) (by kernel_rfl))
noncomputable def f30_l3 : Nat → AV → AV → AV → M AV
  | 0, _, _, _ => fail
  | n + 1, x0, x1, x5 => f30_b3 (f30_l3 n) x0 x1 x5
theorem f30_l3_eq (t : Tmps) : dcode E30 29 (c1 (c2 (c1 (c2 B30)))) t (kB 0 (kJ (fun t => f30_1 (t 0)) K30)) = f30_l3 fuel (t 0) (t 1) (t 5) :=
  dloop_eq (c := (c1 (c1 (c2 (c1 (c2 B30)))))) (g := fun n t => f30_l3 n (t 0) (t 1) (t 5)) (fun _ => rfl) (fun n t => f30_b3_eq (f30_l3 n) t)
noncomputable def f30_2 (x0 x1 x5 : AV) : M AV :=
 f30_l3 fuel x0 x1 x5
theorem f30_2_eq (t : Tmps) : dcode E30 29 (c2 (c1 (c2 B30))) t (kJ (fun t => f30_1 (t 0)) K30) = f30_2 (t 0) (t 1) (t 5) := (f30_l3_eq _)
noncomputable def f30_0 (x0 x1 : AV) : M AV :=
 f30_2 x0 x1 (.int .i64 0)
theorem f30_0_eq (t : Tmps) : dcode E30 29 (c2 B30) t K30 = f30_0 (t 0) (t 1) := (seq_eq (a := (c1 (c2 B30))) (b := (c2 (c2 B30))) (fun t => f30_1_eq t) (seq_eq (a := (c1 (c1 (c2 B30)))) (b := (c2 (c1 (c2 B30)))) (fun t => f30_2_eq t) (by kernel_rfl)))
noncomputable def f30 (x0 x1 : AV) : M AV :=
 f30_0 x0 x1
theorem f30_top (t : Tmps) : dcode E30 29 B30 t K30 = f30 (t 0) (t 1) := (seq_eq (a := (c1 B30)) (b := (c2 B30)) (fun t => f30_0_eq t) (by kernel_rfl))
theorem f30_eq (x0 x1 : AV) : dfn E30 Go.Proofs.Tryz.f30 [x0, x1] = f30 x0 x1 := dfn_eq (c := B30) (nt := 29) (K := K30) (by kernel_rfl) (by kernel_rfl) rfl (by kernel_rfl) (f30_top (argT [x0, x1]))
theorem O30 : EnvOK E30 := ⟨fun g xs => ok_fail, ap_fail⟩
theorem S30 (xs : List AV) : CallOK Go.Proofs.Tryz.prog 3 30 xs (L2 f30 xs) := ok_L2 (fun x0 x1 => ok_fn (E := E30) (fn := Go.Proofs.Tryz.f30) O30 rfl rfl (by kernel_rfl) (by kernel_rfl) (f30_eq x0 x1)) xs

/-! ### etui/etuiref16.hex: function 67 -/
noncomputable def C67 (g : FuncId) (xs : List AV) : M AV := fail
noncomputable def E67 : Env := ⟨Go.Proofs.Tryz.prog, 3, C67, fun _ _ => fail, fun _ => [], 67, none⟩
noncomputable def B67 : Code := bodyOf Go.Proofs.Tryz.f67
noncomputable def K67 : KT := dK Go.Proofs.Tryz.prog Go.Proofs.Tryz.f67.results.toList
noncomputable def f67 (x0 : AV) : M AV :=
 bd (bi .geq x0 (.int .u8 48)) fun v1 =>
 bd (gd v1 true (ret x0)) fun v2 =>
 bd (gd v1 true (bi .leq v2 (.int .u8 57))) fun v3 =>
 bd (pk v1 v3 (.bool false)) fun v4 =>
 bd (gd v4 false (ret x0)) fun v5 =>
 bd (gd v4 false (bi .geq v5 (.int .u8 97))) fun v6 =>
 bd (gd v4 false (ret v6)) fun v7 =>
 bd (gd v7 true (ret x0)) fun v8 =>
 bd (gd v7 true (bi .leq v8 (.int .u8 102))) fun v9 =>
 bd (gd v4 false (pk v7 v9 (.bool false))) fun v10 =>
 bd (pk v4 (.bool true) v10) fun v11 =>
 bd (gd v11 false (ret x0)) fun v12 =>
 bd (gd v11 false (bi .geq v12 (.int .u8 65))) fun v13 =>
 bd (gd v11 false (ret v13)) fun v14 =>
 bd (gd v14 true (ret x0)) fun v15 =>
 bd (gd v14 true (bi .leq v15 (.int .u8 70))) fun v16 =>
 bd (gd v11 false (pk v14 v16 (.bool false))) fun v17 =>
 bd (pk v11 (.bool true) v17) fun v18 =>
 ret v18
theorem f67_eq (x0 : AV) : dfn E67 Go.Proofs.Tryz.f67 [x0] = f67 x0 := dfn_eq (c := B67) (nt := 25) (K := K67) (by kernel_rfl) (by kernel_rfl) rfl (by kernel_rfl) (by kernel_rfl)
theorem O67 : EnvOK E67 := ⟨fun g xs => ok_fail, ap_fail⟩
theorem S67 (xs : List AV) : CallOK Go.Proofs.Tryz.prog 3 67 xs (L1 f67 xs) := ok_L1 (fun x0 => ok_fn (E := E67) (fn := Go.Proofs.Tryz.f67) O67 rfl rfl (by kernel_rfl) (by kernel_rfl) (f67_eq x0)) xs

/-! ### etui/etuiref16.Right: function 40 -/
noncomputable def C40 (g : FuncId) (xs : List AV) : M AV := bif Nat.beq g 67 then L1 f67 xs else fail
noncomputable def E40 : Env := ⟨Go.Proofs.Tryz.prog, 3, C40, fun _ _ => fail, fun _ => [], 40, none⟩
noncomputable def B40 : Code := bodyOf Go.Proofs.Tryz.f40
noncomputable def K40 : KT := dK Go.Proofs.Tryz.prog Go.Proofs.Tryz.f40.results.toList
noncomputable def f40_2 : M AV :=
 ret (.bool true)
theorem f40_2_eq (t : Tmps) : dcode E40 80 (c2 (c2 (c2 B40))) t K40 = f40_2 := by kernel_rfl
noncomputable def f40_b4 (L4 : AV → AV → M AV) (x0 x3 : AV) : M AV :=
 bd (lnS x0) fun v1 =>
 bd (bi .lss x3 v1) fun v2 =>
 cnd v2 (
 bd (ixs x0 x3) fun v3 =>
 bd (bi .lss v3 (.int .u8 33)) fun v4 =>
 bd (gd v4 false (ret v3)) fun v5 =>
 bd (gd v4 false (bi .eql v5 (.int .u8 127))) fun v6 =>
 bd (pk v4 (.bool true) v6) fun v7 =>
 bd (gd v7 false (ret v3)) fun v8 =>
 bd (gd v7 false (bi .eql v8 (.int .u8 34))) fun v9 =>
 bd (pk v7 (.bool true) v9) fun v10 =>
 bd (gd v10 false (ret v3)) fun v11 =>
 bd (gd v10 false (bi .eql v11 (.int .u8 60))) fun v12 =>
 bd (pk v10 (.bool true) v12) fun v13 =>
 bd (gd v13 false (ret v3)) fun v14 =>
 bd (gd v13 false (bi .eql v14 (.int .u8 62))) fun v15 =>
 bd (pk v13 (.bool true) v15) fun v16 =>
 bd (gd v16 false (ret v3)) fun v17 =>
 bd (gd v16 false (bi .eql v17 (.int .u8 92))) fun v18 =>
 bd (pk v16 (.bool true) v18) fun v19 =>
 bd (gd v19 false (ret v3)) fun v20 =>
 bd (gd v19 false (bi .eql v20 (.int .u8 94))) fun v21 =>
 bd (pk v19 (.bool true) v21) fun v22 =>
 bd (gd v22 false (ret v3)) fun v23 =>
 bd (gd v22 false (bi .eql v23 (.int .u8 96))) fun v24 =>
 bd (pk v22 (.bool true) v24) fun v25 =>
 bd (gd v25 false (ret v3)) fun v26 =>
 bd (gd v25 false (bi .geq v26 (.int .u8 123))) fun v27 =>
 bd (gd v25 false (ret v27)) fun v28 =>
 bd (gd v28 true (ret v3)) fun v29 =>
 bd (gd v28 true (bi .leq v29 (.int .u8 125))) fun v30 =>
 bd (gd v25 false (pk v28 v30 (.bool false))) fun v31 =>
 bd (pk v25 (.bool true) v31) fun v32 =>
 cnd v32 (
 ret (.bool false)) (
 bd (bi .eql v3 (.int .u8 37)) fun v33 =>
 bd (gd v33 true (ret x3)) fun v34 =>
 bd (gd v33 true (bi .add v34 (.int .i64 2))) fun v35 =>
 bd (gd v33 true (ret x0)) fun v36 =>
 bd (gd v33 true (lnS v36)) fun v37 =>
 bd (gd v33 true (bi .geq v35 v37)) fun v38 =>
 bd (gd v33 true (ret v38)) fun v39 =>
 bd (gd v39 false (ret x0)) fun v40 =>
 bd (gd v39 false (ret x3)) fun v41 =>
 bd (gd v39 false (bi .add v41 (.int .i64 1))) fun v42 =>
 bd (gd v39 false (ixs v40 v42)) fun v43 =>
 bd (gd v39 false (f67 v43)) fun v44 =>
 bd (gd v39 false (un .not v44)) fun v45 =>
 bd (gd v33 true (pk v39 (.bool true) v45)) fun v46 =>
 bd (gd v33 true (ret v46)) fun v47 =>
 bd (gd v47 false (ret x0)) fun v48 =>
 bd (gd v47 false (ret x3)) fun v49 =>
 bd (gd v47 false (bi .add v49 (.int .i64 2))) fun v50 =>
 bd (gd v47 false (ixs v48 v50)) fun v51 =>
 bd (gd v47 false (f67 v51)) fun v52 =>
 bd (gd v47 false (un .not v52)) fun v53 =>
 bd (gd v33 true (pk v47 (.bool true) v53)) fun v54 =>
 bd (pk v33 v54 (.bool false)) fun v55 =>
 cnd v55 (
 ret (.bool false)) (
 bd (bi .add x3 (.int .i64 1)) fun v56 =>
 L4 x0 v56))) (
 f40_2)
theorem f40_b4_eq (L4 : AV → AV → M AV) (t : Tmps) : dcode E40 80 (c1 (c1 (c2 (c1 (c2 (c2 B40)))))) t (kJ (fun t => L4 (t 0) (t 3)) (kB 0 (kJ (fun t => f40_2) K40))) = f40_b4 L4 (t 0) (t 3) := by kernel_rfl
noncomputable def f40_l4 : Nat → AV → AV → M AV
  | 0, _, _ => fail
  | n + 1, x0, x3 => f40_b4 (f40_l4 n) x0 x3
theorem f40_l4_eq (t : Tmps) : dcode E40 80 (c1 (c2 (c1 (c2 (c2 B40))))) t (kB 0 (kJ (fun t => f40_2) K40)) = f40_l4 fuel (t 0) (t 3) :=
  dloop_eq (c := (c1 (c1 (c2 (c1 (c2 (c2 B40))))))) (g := fun n t => f40_l4 n (t 0) (t 3)) (fun _ => rfl) (fun n t => f40_b4_eq (f40_l4 n) t)
noncomputable def f40_3 (x0 x3 : AV) : M AV :=
 f40_l4 fuel x0 x3
theorem f40_3_eq (t : Tmps) : dcode E40 80 (c2 (c1 (c2 (c2 B40)))) t (kJ (fun t => f40_2) K40) = f40_3 (t 0) (t 3) := (f40_l4_eq _)
noncomputable def f40_1 (x0 : AV) : M AV :=
 f40_3 x0 (.int .i64 0)
theorem f40_1_eq (t : Tmps) : dcode E40 80 (c2 (c2 B40)) t K40 = f40_1 (t 0) := (seq_eq (a := (c1 (c2 (c2 B40)))) (b := (c2 (c2 (c2 B40)))) (fun t => f40_2_eq t) (seq_eq (a := (c1 (c1 (c2 (c2 B40))))) (b := (c2 (c1 (c2 (c2 B40))))) (fun t => f40_3_eq t) (by kernel_rfl)))
noncomputable def f40_0 (x0 : AV) : M AV :=
 bd (lnS x0) fun v1 =>
 bd (bi .gtr v1 (.int .i64 1000)) fun v2 =>
 cnd v2 (
 ret (.bool false)) (
 f40_1 x0)
theorem f40_0_eq (t : Tmps) : dcode E40 80 (c2 B40) t K40 = f40_0 (t 0) := (seq_eq (a := (c1 (c2 B40))) (b := (c2 (c2 B40))) (fun t => f40_1_eq t) (by kernel_rfl))
noncomputable def f40 (x0 : AV) : M AV :=
 f40_0 x0
theorem f40_top (t : Tmps) : dcode E40 80 B40 t K40 = f40 (t 0) := (seq_eq (a := (c1 B40)) (b := (c2 B40)) (fun t => f40_0_eq t) (by kernel_rfl))
theorem f40_eq (x0 : AV) : dfn E40 Go.Proofs.Tryz.f40 [x0] = f40 x0 := dfn_eq (c := B40) (nt := 80) (K := K40) (by kernel_rfl) (by kernel_rfl) rfl (by kernel_rfl) (f40_top (argT [x0]))
theorem O40 : EnvOK E40 := ⟨fun g xs => (ok_if (S67 xs) ok_fail), ap_fail⟩
theorem S40 (xs : List AV) : CallOK Go.Proofs.Tryz.prog 3 40 xs (L1 f40 xs) := ok_L1 (fun x0 => ok_fn (E := E40) (fn := Go.Proofs.Tryz.f40) O40 rfl rfl (by kernel_rfl) (by kernel_rfl) (f40_eq x0)) xs

/-! ### etui/etuiref16.scheme: function 41 -/
noncomputable def C41 (g : FuncId) (xs : List AV) : M AV := fail
noncomputable def E41 : Env := ⟨Go.Proofs.Tryz.prog, 3, C41, fun _ _ => fail, fun _ => [], 41, none⟩
noncomputable def B41 : Code := bodyOf Go.Proofs.Tryz.f41
noncomputable def K41 : KT := dK Go.Proofs.Tryz.prog Go.Proofs.Tryz.f41.results.toList
noncomputable def f41_1 (x0 : AV) : M AV :=
 bd (bi .neq x0 (.str [])) fun v1 =>
 ret v1
theorem f41_1_eq (t : Tmps) : dcode E41 58 (c2 (c2 B41)) t K41 = f41_1 (t 0) := by kernel_rfl
noncomputable def f41_b3 (L3 : AV → AV → M AV) (x0 x3 : AV) : M AV :=
 bd (lnS x0) fun v1 =>
 bd (bi .lss x3 v1) fun v2 =>
 cnd v2 (
 bd (ixs x0 x3) fun v3 =>
 bd (bi .geq v3 (.int .u8 97)) fun v4 =>
 bd (gd v4 true (ret v3)) fun v5 =>
 bd (gd v4 true (bi .leq v5 (.int .u8 122))) fun v6 =>
 bd (pk v4 v6 (.bool false)) fun v7 =>
 bd (gd v7 false (ret v3)) fun v8 =>
 bd (gd v7 false (bi .geq v8 (.int .u8 65))) fun v9 =>
 bd (gd v7 false (ret v9)) fun v10 =>
 bd (gd v10 true (ret v3)) fun v11 =>
 bd (gd v10 true (bi .leq v11 (.int .u8 90))) fun v12 =>
 bd (gd v7 false (pk v10 v12 (.bool false))) fun v13 =>
 bd (pk v7 (.bool true) v13) fun v14 =>
 bd (un .not v14) fun v15 =>
 bd (gd v15 true (ret x3)) fun v16 =>
 bd (gd v15 true (bi .eql v16 (.int .i64 0))) fun v17 =>
 bd (gd v15 true (ret v17)) fun v18 =>
 bd (gd v18 false (ret v3)) fun v19 =>
 bd (gd v18 false (bi .geq v19 (.int .u8 48))) fun v20 =>
 bd (gd v18 false (ret v20)) fun v21 =>
 bd (gd v21 true (ret v3)) fun v22 =>
 bd (gd v21 true (bi .leq v22 (.int .u8 57))) fun v23 =>
 bd (gd v18 false (pk v21 v23 (.bool false))) fun v24 =>
 bd (gd v18 false (ret v24)) fun v25 =>
 bd (gd v25 false (ret v3)) fun v26 =>
 bd (gd v25 false (bi .eql v26 (.int .u8 43))) fun v27 =>
 bd (gd v18 false (pk v25 (.bool true) v27)) fun v28 =>
 bd (gd v18 false (ret v28)) fun v29 =>
 bd (gd v29 false (ret v3)) fun v30 =>
 bd (gd v29 false (bi .eql v30 (.int .u8 45))) fun v31 =>
 bd (gd v18 false (pk v29 (.bool true) v31)) fun v32 =>
 bd (gd v18 false (ret v32)) fun v33 =>
 bd (gd v33 false (ret v3)) fun v34 =>
 bd (gd v33 false (bi .eql v34 (.int .u8 46))) fun v35 =>
 bd (gd v18 false (pk v33 (.bool true) v35)) fun v36 =>
 bd (gd v18 false (un .not v36)) fun v37 =>
 bd (gd v15 true (pk v18 (.bool true) v37)) fun v38 =>
 bd (pk v15 v38 (.bool false)) fun v39 =>
 cnd v39 (
 ret (.bool false)) (
 bd (bi .add x3 (.int .i64 1)) fun v40 =>
 L3 x0 v40)) (
 f41_1 x0)
theorem f41_b3_eq (L3 : AV → AV → M AV) (t : Tmps) : dcode E41 58 (c1 (c1 (c2 (c1 (c2 B41))))) t (kJ (fun t => L3 (t 0) (t 3)) (kB 0 (kJ (fun t => f41_1 (t 0)) K41))) = f41_b3 L3 (t 0) (t 3) := by kernel_rfl
noncomputable def f41_l3 : Nat → AV → AV → M AV
  | 0, _, _ => fail
  | n + 1, x0, x3 => f41_b3 (f41_l3 n) x0 x3
theorem f41_l3_eq (t : Tmps) : dcode E41 58 (c1 (c2 (c1 (c2 B41)))) t (kB 0 (kJ (fun t => f41_1 (t 0)) K41)) = f41_l3 fuel (t 0) (t 3) :=
  dloop_eq (c := (c1 (c1 (c2 (c1 (c2 B41)))))) (g := fun n t => f41_l3 n (t 0) (t 3)) (fun _ => rfl) (fun n t => f41_b3_eq (f41_l3 n) t)
noncomputable def f41_2 (x0 x3 : AV) : M AV :=
 f41_l3 fuel x0 x3
theorem f41_2_eq (t : Tmps) : dcode E41 58 (c2 (c1 (c2 B41))) t (kJ (fun t => f41_1 (t 0)) K41) = f41_2 (t 0) (t 3) := (f41_l3_eq _)
noncomputable def f41_0 (x0 : AV) : M AV :=
 f41_2 x0 (.int .i64 0)
theorem f41_0_eq (t : Tmps) : dcode E41 58 (c2 B41) t K41 = f41_0 (t 0) := (seq_eq (a := (c1 (c2 B41))) (b := (c2 (c2 B41))) (fun t => f41_1_eq t) (seq_eq (a := (c1 (c1 (c2 B41)))) (b := (c2 (c1 (c2 B41)))) (fun t => f41_2_eq t) (by kernel_rfl)))
noncomputable def f41 (x0 : AV) : M AV :=
 f41_0 x0
theorem f41_top (t : Tmps) : dcode E41 58 B41 t K41 = f41 (t 0) := (seq_eq (a := (c1 B41)) (b := (c2 B41)) (fun t => f41_0_eq t) (by kernel_rfl))
theorem f41_eq (x0 : AV) : dfn E41 Go.Proofs.Tryz.f41 [x0] = f41 x0 := dfn_eq (c := B41) (nt := 58) (K := K41) (by kernel_rfl) (by kernel_rfl) rfl (by kernel_rfl) (f41_top (argT [x0]))
theorem O41 : EnvOK E41 := ⟨fun g xs => ok_fail, ap_fail⟩
theorem S41 (xs : List AV) : CallOK Go.Proofs.Tryz.prog 3 41 xs (L1 f41 xs) := ok_L1 (fun x0 => ok_fn (E := E41) (fn := Go.Proofs.Tryz.f41) O41 rfl rfl (by kernel_rfl) (by kernel_rfl) (f41_eq x0)) xs

/-! ### etui/etuiref16.Cut: function 17 -/
noncomputable def C17 (g : FuncId) (xs : List AV) : M AV := bif Nat.beq g 30 then L2 f30 xs else bif Nat.beq g 40 then L1 f40 xs else bif Nat.beq g 41 then L1 f41 xs else fail
noncomputable def E17 : Env := ⟨Go.Proofs.Tryz.prog, 3, C17, fun _ _ => fail, fun _ => [], 17, none⟩
noncomputable def B17 : Code := bodyOf Go.Proofs.Tryz.f17
noncomputable def K17 : KT := dK Go.Proofs.Tryz.prog Go.Proofs.Tryz.f17.results.toList
noncomputable def f17_10 (x2 x4 : AV) : M AV :=
 bd (lda 9 x4) fun v1 =>
 bd (sta 9 x2 v1) fun _ =>
 bd (lda 9 x2) fun v2 => ret (.tuple [v2, (.bool true)])
theorem f17_10_eq (t : Tmps) : dcode E17 96 (c2 (c2 (c2 (c2 (c2 (c2 (c2 (c2 (c2 (c2 (c2 B17))))))))))) t K17 = f17_10 (t 2) (t 4) := by kernel_rfl
noncomputable def f17_9 (x0 x2 x4 : AV) : M AV :=
 bd (bi .neq x0 (.str [])) fun v1 =>
 cnd v1 (
 bd (fa x4 8) fun v2 =>
 bd (st v2 (.bool true)) fun _ =>
 bd (ss x0 (some (.int .i64 1)) none) fun v3 =>
 bd (fa x4 4) fun v4 =>
 bd (st v4 v3) fun _ =>
 f17_10 x2 x4) (
 f17_10 x2 x4)
theorem f17_9_eq (t : Tmps) : dcode E17 96 (c2 (c2 (c2 (c2 (c2 (c2 (c2 (c2 (c2 (c2 B17)))))))))) t K17 = f17_9 (t 0) (t 2) (t 4) := (seq_eq (a := (c1 (c2 (c2 (c2 (c2 (c2 (c2 (c2 (c2 (c2 (c2 B17)))))))))))) (b := (c2 (c2 (c2 (c2 (c2 (c2 (c2 (c2 (c2 (c2 (c2 B17)))))))))))) (fun t => f17_10_eq t) (by kernel_rfl))
noncomputable def f17_8 (x0 x2 x4 : AV) : M AV :=
 bd (bi .neq x0 (.str [])) fun v1 =>
 bd (gd v1 true (ret x0)) fun v2 =>
 bd (gd v1 true (ixs v2 (.int .i64 0))) fun v3 =>
 bd (gd v1 true (bi .eql v3 (.int .u8 63))) fun v4 =>
 bd (pk v1 v4 (.bool false)) fun v5 =>
 cnd v5 (
 bd (f30 x0 (.str [35])) fun v6 =>
 bd (fa x4 7) fun v7 =>
 bd (st v7 (.bool true)) fun _ =>
 bd (ss x0 (some (.int .i64 1)) (some v6)) fun v8 =>
 bd (fa x4 3) fun v9 =>
 bd (st v9 v8) fun _ =>
 bd (ss x0 (some v6) none) fun v10 =>
 f17_9 v10 x2 x4) (
 f17_9 x0 x2 x4)
theorem f17_8_eq (t : Tmps) : dcode E17 96 (c2 (c2 (c2 (c2 (c2 (c2 (c2 (c2 (c2 B17))))))))) t K17 = f17_8 (t 0) (t 2) (t 4) := (seq_eq (a := (c1 (c2 (c2 (c2 (c2 (c2 (c2 (c2 (c2 (c2 B17))))))))))) (b := (c2 (c2 (c2 (c2 (c2 (c2 (c2 (c2 (c2 (c2 B17))))))))))) (fun t => f17_9_eq t) (by kernel_rfl))
noncomputable def f17_7 (x0 x2 x4 x5 : AV) : M AV :=
 bd (ss x0 (some x5) none) fun v1 =>
 f17_8 v1 x2 x4
theorem f17_7_eq (t : Tmps) : dcode E17 96 (c2 (c2 (c2 (c2 (c2 (c2 (c2 (c2 B17)))))))) t K17 = f17_7 (t 0) (t 2) (t 4) (t 5) := (seq_eq (a := (c1 (c2 (c2 (c2 (c2 (c2 (c2 (c2 (c2 B17)))))))))) (b := (c2 (c2 (c2 (c2 (c2 (c2 (c2 (c2 (c2 B17)))))))))) (fun t => f17_8_eq t) (by kernel_rfl))
noncomputable def f17_6 (x0 x2 x4 x5 : AV) : M AV :=
 bd (ss x0 none (some x5)) fun v1 =>
 bd (fa x4 2) fun v2 =>
 bd (st v2 v1) fun _ =>
 f17_7 x0 x2 x4 x5
theorem f17_6_eq (t : Tmps) : dcode E17 96 (c2 (c2 (c2 (c2 (c2 (c2 (c2 B17))))))) t K17 = f17_6 (t 0) (t 2) (t 4) (t 5) := (seq_eq (a := (c1 (c2 (c2 (c2 (c2 (c2 (c2 (c2 B17))))))))) (b := (c2 (c2 (c2 (c2 (c2 (c2 (c2 (c2 B17))))))))) (fun t => f17_7_eq t) (by kernel_rfl))
noncomputable def f17_5 (x0 x2 x4 : AV) : M AV :=
 bd (f30 x0 (.str [63, 35])) fun v1 =>
 f17_6 x0 x2 x4 v1
theorem f17_5_eq (t : Tmps) : dcode E17 96 (c2 (c2 (c2 (c2 (c2 (c2 B17)))))) t K17 = f17_5 (t 0) (t 2) (t 4) := (seq_eq (a := (c1 (c2 (c2 (c2 (c2 (c2 (c2 B17)))))))) (b := (c2 (c2 (c2 (c2 (c2 (c2 (c2 B17)))))))) (fun t => f17_6_eq t) (by kernel_rfl))
noncomputable def f17_4 (x0 x2 x4 : AV) : M AV :=
 bd (lnS x0) fun v1 =>
 bd (bi .gtr v1 (.int .i64 1)) fun v2 =>
 bd (gd v2 true (ret x0)) fun v3 =>
 bd (gd v2 true (ixs v3 (.int .i64 0))) fun v4 =>
 bd (gd v2 true (bi .eql v4 (.int .u8 47))) fun v5 =>
 bd (pk v2 v5 (.bool false)) fun v6 =>
 bd (gd v6 true (ret x0)) fun v7 =>
 bd (gd v6 true (ixs v7 (.int .i64 1))) fun v8 =>
 bd (gd v6 true (bi .eql v8 (.int .u8 47))) fun v9 =>
 bd (pk v6 v9 (.bool false)) fun v10 =>
 cnd v10 (
 bd (ss x0 (some (.int .i64 2)) none) fun v11 =>
 bd (f30 v11 (.str [47, 63, 35])) fun v12 =>
 bd (fa x4 6) fun v13 =>
 bd (st v13 (.bool true)) fun _ =>
 bd (ss v11 none (some v12)) fun v14 =>
 bd (fa x4 1) fun v15 =>
 bd (st v15 v14) fun _ =>
 bd (ss v11 (some v12) none) fun v16 =>
 f17_5 v16 x2 x4) (
 f17_5 x0 x2 x4)
theorem f17_4_eq (t : Tmps) : dcode E17 96 (c2 (c2 (c2 (c2 (c2 B17))))) t K17 = f17_4 (t 0) (t 2) (t 4) := (seq_eq (a := (c1 (c2 (c2 (c2 (c2 (c2 B17))))))) (b := (c2 (c2 (c2 (c2 (c2 (c2 B17))))))) (fun t => f17_5_eq t) (by kernel_rfl))
noncomputable def f17_3 (x0 x2 x4 x5 : AV) : M AV :=
 bd (lnS x0) fun v1 =>
 bd (bi .lss x5 v1) fun v2 =>
 bd (gd v2 true (ret x0)) fun v3 =>
 bd (gd v2 true (ret x5)) fun v4 =>
 bd (gd v2 true (ixs v3 v4)) fun v5 =>
 bd (gd v2 true (bi .eql v5 (.int .u8 58))) fun v6 =>
 bd (pk v2 v6 (.bool false)) fun v7 =>
 bd (gd v7 true (ret x0)) fun v8 =>
 bd (gd v7 true (ret x5)) fun v9 =>
 bd (gd v7 true (ss v8 none (some v9))) fun v10 =>
 bd (gd v7 true (f41 v10)) fun v11 =>
 bd (pk v7 v11 (.bool false)) fun v12 =>
 cnd v12 (
 bd (fa x4 5) fun v13 =>
 bd (st v13 (.bool true)) fun _ =>
 bd (ss x0 none (some x5)) fun v14 =>
 bd (fa x4 0) fun v15 =>
 bd (st v15 v14) fun _ =>
 bd (bi .add x5 (.int .i64 1)) fun v16 =>
 bd (ss x0 (some v16) none) fun v17 =>
 f17_4 v17 x2 x4) (
 f17_4 x0 x2 x4)
theorem f17_3_eq (t : Tmps) : dcode E17 96 (c2 (c2 (c2 (c2 B17)))) t K17 = f17_3 (t 0) (t 2) (t 4) (t 5) := (seq_eq (a := (c1 (c2 (c2 (c2 (c2 B17)))))) (b := (c2 (c2 (c2 (c2 (c2 B17)))))) (fun t => f17_4_eq t) (by kernel_rfl))
noncomputable def f17_2 (x0 x2 x4 : AV) : M AV :=
 bd (f30 x0 (.str [58, 47, 63, 35])) fun v1 =>
 f17_3 x0 x2 x4 v1
theorem f17_2_eq (t : Tmps) : dcode E17 96 (c2 (c2 (c2 B17))) t K17 = f17_2 (t 0) (t 2) (t 4) := (seq_eq (a := (c1 (c2 (c2 (c2 B17))))) (b := (c2 (c2 (c2 (c2 B17))))) (fun t => f17_3_eq t) (by kernel_rfl))
noncomputable def f17_1 (x0 x2 x4 : AV) : M AV :=
 bd (f40 x0) fun v1 =>
 bd (un .not v1) fun v2 =>
 cnd v2 (
 bd (lda 9 x4) fun v3 =>
 bd (sta 9 x2 v3) fun _ =>
 bd (lda 9 x2) fun v4 => ret (.tuple [v4, (.bool false)])) (
 f17_2 x0 x2 x4)
theorem f17_1_eq (t : Tmps) : dcode E17 96 (c2 (c2 B17)) t K17 = f17_1 (t 0) (t 2) (t 4) := (seq_eq (a := (c1 (c2 (c2 B17)))) (b := (c2 (c2 (c2 B17)))) (fun t => f17_2_eq t) (by kernel_rfl))
noncomputable def f17_0 (x0 x2 : AV) : M AV :=
 bd (bu [(.str []), (.str []), (.str []), (.str []), (.str []), (.bool false), (.bool false), (.bool false), (.bool false)] []) fun v1 =>
 bd (bx 28 (.agg [(.str []), (.str []), (.str []), (.str []), (.str []), (.bool false), (.bool false), (.bool false), (.bool false)])) fun v2 =>
 bd (sta 9 v2 v1) fun _ =>
 f17_1 x0 x2 v2
theorem f17_0_eq (t : Tmps) : dcode E17 96 (c2 B17) t K17 = f17_0 (t 0) (t 2) := (seq_eq (a := (c1 (c2 B17))) (b := (c2 (c2 B17))) (fun t => f17_1_eq t) (by kernel_rfl))
noncomputable def f17 (x0 : AV) : M AV :=
 bd (bx 28 (.agg [(.str []), (.str []), (.str []), (.str []), (.str []), (.bool false), (.bool false), (.bool false), (.bool false)])) fun v1 =>
 f17_0 x0 v1
theorem f17_top (t : Tmps) : dcode E17 96 B17 t K17 = f17 (t 0) := (seq_eq (a := (c1 B17)) (b := (c2 B17)) (fun t => f17_0_eq t) (by kernel_rfl))
theorem f17_eq (x0 : AV) : dfn E17 Go.Proofs.Tryz.f17 [x0] = f17 x0 := dfn_eq (c := B17) (nt := 96) (K := K17) (by kernel_rfl) (by kernel_rfl) rfl (by kernel_rfl) (f17_top (argT [x0]))
theorem O17 : EnvOK E17 := ⟨fun g xs => (ok_if (S30 xs) (ok_if (S40 xs) (ok_if (S41 xs) ok_fail))), ap_fail⟩
theorem S17 (xs : List AV) : CallOK Go.Proofs.Tryz.prog 3 17 xs (L1 f17 xs) := ok_L1 (fun x0 => ok_fn (E := E17) (fn := Go.Proofs.Tryz.f17) O17 rfl rfl (by kernel_rfl) (by kernel_rfl) (f17_eq x0)) xs

/-! ### etui/etuiref15.Slash: function 18 -/
noncomputable def C18 (g : FuncId) (xs : List AV) : M AV := fail
noncomputable def E18 : Env := ⟨Go.Proofs.Tryz.prog, 3, C18, fun _ _ => fail, fun _ => [], 18, none⟩
noncomputable def B18 : Code := bodyOf Go.Proofs.Tryz.f18
noncomputable def K18 : KT := dK Go.Proofs.Tryz.prog Go.Proofs.Tryz.f18.results.toList
noncomputable def f18_2 (x3 : AV) : M AV :=
 ret x3
theorem f18_2_eq (t : Tmps) : dcode E18 17 (c2 (c2 (c2 B18))) t K18 = f18_2 (t 3) := by kernel_rfl
noncomputable def f18_6 (L4 : AV → AV → AV → M AV) (x0 x3 x4 : AV) : M AV :=
 bd (bi .add x4 (.int .i64 1)) fun v1 =>
 L4 x0 x3 v1
theorem f18_6_eq (L4 : AV → AV → AV → M AV) (t : Tmps) : dcode E18 17 (c2 (c2 (c1 (c1 (c2 (c1 (c2 (c2 B18)))))))) t (kJ (fun t => L4 (t 0) (t 3) (t 4)) (kB 0 (kJ (fun t => f18_2 (t 3)) K18))) = f18_6 L4 (t 0) (t 3) (t 4) := by kernel_rfl
noncomputable def f18_5 (L4 : AV → AV → AV → M AV) (x0 x3 x4 : AV) : M AV :=
 bd (ixs x0 x4) fun v1 =>
 bd (bi .eql v1 (.int .u8 47)) fun v2 =>
 cnd v2 (
 f18_6 L4 x0 x4 x4) (
 f18_6 L4 x0 x3 x4)
theorem f18_5_eq (L4 : AV → AV → AV → M AV) (t : Tmps) : dcode E18 17 (c2 (c1 (c1 (c2 (c1 (c2 (c2 B18))))))) t (kJ (fun t => L4 (t 0) (t 3) (t 4)) (kB 0 (kJ (fun t => f18_2 (t 3)) K18))) = f18_5 L4 (t 0) (t 3) (t 4) := (seq_eq (a := (c1 (c2 (c1 (c1 (c2 (c1 (c2 (c2 B18))))))))) (b := (c2 (c2 (c1 (c1 (c2 (c1 (c2 (c2 B18))))))))) (fun t => f18_6_eq L4 t) (by kernel_rfl))
noncomputable def f18_b4 (L4 : AV → AV → AV → M AV) (x0 x3 x4 : AV) : M AV :=
 bd (lnS x0) fun v1 =>
 bd (bi .lss x4 v1) fun v2 =>
 cnd v2 (
 f18_5 L4 x0 x3 x4) (
 f18_2 x3)
theorem f18_b4_eq (L4 : AV → AV → AV → M AV) (t : Tmps) : dcode E18 17 (c1 (c1 (c2 (c1 (c2 (c2 B18)))))) t (kJ (fun t => L4 (t 0) (t 3) (t 4)) (kB 0 (kJ (fun t => f18_2 (t 3)) K18))) = f18_b4 L4 (t 0) (t 3) (t 4) := (seq_eq (a := (c1 (c1 (c1 (c2 (c1 (c2 (c2 B18)))))))) (b := (c2 (c1 (c1 (c2 (c1 (c2 (c2 B18)))))))) (fun t => f18_5_eq L4 t) (by kernel_rfl))
noncomputable def f18_l4 : Nat → AV → AV → AV → M AV
  | 0, _, _, _ => fail
  | n + 1, x0, x3, x4 => f18_b4 (f18_l4 n) x0 x3 x4
theorem f18_l4_eq (t : Tmps) : dcode E18 17 (c1 (c2 (c1 (c2 (c2 B18))))) t (kB 0 (kJ (fun t => f18_2 (t 3)) K18)) = f18_l4 fuel (t 0) (t 3) (t 4) :=
  dloop_eq (c := (c1 (c1 (c2 (c1 (c2 (c2 B18))))))) (g := fun n t => f18_l4 n (t 0) (t 3) (t 4)) (fun _ => rfl) (fun n t => f18_b4_eq (f18_l4 n) t)
noncomputable def f18_3 (x0 x3 x4 : AV) : M AV :=
 f18_l4 fuel x0 x3 x4
theorem f18_3_eq (t : Tmps) : dcode E18 17 (c2 (c1 (c2 (c2 B18)))) t (kJ (fun t => f18_2 (t 3)) K18) = f18_3 (t 0) (t 3) (t 4) := (f18_l4_eq _)
noncomputable def f18_1 (x0 x3 : AV) : M AV :=
 f18_3 x0 x3 (.int .i64 0)
theorem f18_1_eq (t : Tmps) : dcode E18 17 (c2 (c2 B18)) t K18 = f18_1 (t 0) (t 3) := (seq_eq (a := (c1 (c2 (c2 B18)))) (b := (c2 (c2 (c2 B18)))) (fun t => f18_2_eq t) (seq_eq (a := (c1 (c1 (c2 (c2 B18))))) (b := (c2 (c1 (c2 (c2 B18))))) (fun t => f18_3_eq t) (by kernel_rfl)))
noncomputable def f18_0 (x0 : AV) : M AV :=
 f18_1 x0 (.int .i64 (-1))
theorem f18_0_eq (t : Tmps) : dcode E18 17 (c2 B18) t K18 = f18_0 (t 0) := (seq_eq (a := (c1 (c2 B18))) (b := (c2 (c2 B18))) (fun t => f18_1_eq t) (by kernel_rfl))
noncomputable def f18 (x0 : AV) : M AV :=
 f18_0 x0
theorem f18_top (t : Tmps) : dcode E18 17 B18 t K18 = f18 (t 0) := (seq_eq (a := (c1 B18)) (b := (c2 B18)) (fun t => f18_0_eq t) (by kernel_rfl))
theorem f18_eq (x0 : AV) : dfn E18 Go.Proofs.Tryz.f18 [x0] = f18 x0 := dfn_eq (c := B18) (nt := 17) (K := K18) (by kernel_rfl) (by kernel_rfl) rfl (by kernel_rfl) (f18_top (argT [x0]))
theorem O18 : EnvOK E18 := ⟨fun g xs => ok_fail, ap_fail⟩
theorem S18 (xs : List AV) : CallOK Go.Proofs.Tryz.prog 3 18 xs (L1 f18 xs) := ok_L1 (fun x0 => ok_fn (E := E18) (fn := Go.Proofs.Tryz.f18) O18 rfl rfl (by kernel_rfl) (by kernel_rfl) (f18_eq x0)) xs

/-! ### etui/etuiref16.Parts: function 29 -/
noncomputable def C29 (g : FuncId) (xs : List AV) : M AV := fail
noncomputable def E29 : Env := ⟨Go.Proofs.Tryz.prog, 3, C29, fun _ _ => fail, fun i => bif Nat.beq i 7 then [0, 1, 2, 3, 4, 5, 6, 7, 8, 9, 10, 11, 12, 13] else [], 29, none⟩
noncomputable def B29 : Code := bodyOf Go.Proofs.Tryz.f29
noncomputable def K29 : KT := dK Go.Proofs.Tryz.prog Go.Proofs.Tryz.f29.results.toList
noncomputable def f29_2 (x3 : AV) : M AV :=
 ret x3
theorem f29_2_eq (t : Tmps) : dcode E29 33 (c2 (c2 (c2 B29))) t K29 = f29_2 (t 3) := by kernel_rfl
noncomputable def f29_6 (L4 : AV → AV → AV → M AV) (x0 x3 x4 : AV) : M AV :=
 bd (bi .add x4 (.int .i64 1)) fun v1 =>
 L4 x0 x3 v1
theorem f29_6_eq (L4 : AV → AV → AV → M AV) (t : Tmps) : dcode E29 33 (c2 (c2 (c1 (c1 (c2 (c1 (c2 (c2 B29)))))))) t (kJ (fun t => L4 (t 0) (t 3) (t 4)) (kB 0 (kJ (fun t => f29_2 (t 3)) K29))) = f29_6 L4 (t 0) (t 3) (t 4) := by kernel_rfl
noncomputable def f29_5 (L4 : AV → AV → AV → M AV) (x0 x3 x4 : AV) : M AV :=
 bd (ixs x0 x4) fun v1 =>
 bd (bi .eql v1 (.int .u8 47)) fun v2 =>
 cnd v2 (
 bd (bsl 9 1 1 [(.str [])] [(0, 1, (.str []))]) fun v3 =>
 bd (app 9 1 16 x3 v3) fun v4 =>
 f29_6 L4 x0 v4 x4) (
 bd (ret x3) fun v5 =>
 bd (ret x3) fun v6 =>
 bd (lnL v6) fun v7 =>
 bd (bi .sub v7 (.int .i64 1)) fun v8 =>
 bd (ixp 1 v5 v8) fun v9 =>
 bd (ld v9) fun v10 =>
 bd (ret x0) fun v11 =>
 bd (ret x4) fun v12 =>
 bd (ret x4) fun v13 =>
 bd (bi .add v13 (.int .i64 1)) fun v14 =>
 bd (ss v11 (some v12) (some v14)) fun v15 =>
 bd (bi .add v10 v15) fun v16 =>
 bd (ixp 1 v5 v8) fun v17 =>
 bd (st v17 v16) fun v18 =>
 f29_6 L4 x0 x3 x4)
theorem f29_5_eq (L4 : AV → AV → AV → M AV) (t : Tmps) : dcode E29 33 (c2 (c1 (c1 (c2 (c1 (c2 (c2 B29))))))) t (kJ (fun t => L4 (t 0) (t 3) (t 4)) (kB 0 (kJ (fun t => f29_2 (t 3)) K29))) = f29_5 L4 (t 0) (t 3) (t 4) := (seq_eq (a := (c1 (c2 (c1 (c1 (c2 (c1 (c2 (c2 B29))))))))) (b := (c2 (c2 (c1 (c1 (c2 (c1 (c2 (c2 B29))))))))) (fun t => f29_6_eq L4 t) (by kernel_rfl))
noncomputable def f29_b4 (L4 : AV → AV → AV → M AV) (x0 x3 x4 : AV) : M AV :=
 bd (lnS x0) fun v1 =>
 bd (bi .lss x4 v1) fun v2 =>
 cnd v2 (
 f29_5 L4 x0 x3 x4) (
 f29_2 x3)
theorem f29_b4_eq (L4 : AV → AV → AV → M AV) (t : Tmps) : dcode E29 33 (c1 (c1 (c2 (c1 (c2 (c2 B29)))))) t (kJ (fun t => L4 (t 0) (t 3) (t 4)) (kB 0 (kJ (fun t => f29_2 (t 3)) K29))) = f29_b4 L4 (t 0) (t 3) (t 4) := (seq_eq (a := (c1 (c1 (c1 (c2 (c1 (c2 (c2 B29)))))))) (b := (c2 (c1 (c1 (c2 (c1 (c2 (c2 B29)))))))) (fun t => f29_5_eq L4 t) (by kernel_rfl))
noncomputable def f29_l4 : Nat → AV → AV → AV → M AV
  | 0, _, _, _ => fail
  | n + 1, x0, x3, x4 => f29_b4 (f29_l4 n) x0 x3 x4
theorem f29_l4_eq (t : Tmps) : dcode E29 33 (c1 (c2 (c1 (c2 (c2 B29))))) t (kB 0 (kJ (fun t => f29_2 (t 3)) K29)) = f29_l4 fuel (t 0) (t 3) (t 4) :=
  dloop_eq (c := (c1 (c1 (c2 (c1 (c2 (c2 B29))))))) (g := fun n t => f29_l4 n (t 0) (t 3) (t 4)) (fun _ => rfl) (fun n t => f29_b4_eq (f29_l4 n) t)
noncomputable def f29_3 (x0 x3 x4 : AV) : M AV :=
 f29_l4 fuel x0 x3 x4
theorem f29_3_eq (t : Tmps) : dcode E29 33 (c2 (c1 (c2 (c2 B29)))) t (kJ (fun t => f29_2 (t 3)) K29) = f29_3 (t 0) (t 3) (t 4) := (f29_l4_eq _)
noncomputable def f29_1 (x0 x3 : AV) : M AV :=
 f29_3 x0 x3 (.int .i64 0)
theorem f29_1_eq (t : Tmps) : dcode E29 33 (c2 (c2 B29)) t K29 = f29_1 (t 0) (t 3) := (seq_eq (a := (c1 (c2 (c2 B29)))) (b := (c2 (c2 (c2 B29)))) (fun t => f29_2_eq t) (seq_eq (a := (c1 (c1 (c2 (c2 B29))))) (b := (c2 (c1 (c2 (c2 B29))))) (fun t => f29_3_eq t) (by kernel_rfl)))
noncomputable def f29_0 (x0 : AV) : M AV :=
 bd (bsl 9 1 1 [(.str [])] [(0, 1, (.str []))]) fun v1 =>
 f29_1 x0 v1
theorem f29_0_eq (t : Tmps) : dcode E29 33 (c2 B29) t K29 = f29_0 (t 0) := (seq_eq (a := (c1 (c2 B29))) (b := (c2 (c2 B29))) (fun t => f29_1_eq t) (by kernel_rfl))
noncomputable def f29 (x0 : AV) : M AV :=
 f29_0 x0
theorem f29_top (t : Tmps) : dcode E29 33 B29 t K29 = f29 (t 0) := (seq_eq (a := (c1 B29)) (b := (c2 B29)) (fun t => f29_0_eq t) (by kernel_rfl))
theorem f29_eq (x0 : AV) : dfn E29 Go.Proofs.Tryz.f29 [x0] = f29 x0 := dfn_eq (c := B29) (nt := 33) (K := K29) (by kernel_rfl) (by kernel_rfl) rfl (by kernel_rfl) (f29_top (argT [x0]))
theorem O29 : EnvOK E29 := ⟨fun g xs => ok_fail, ap_fail⟩
theorem S29 (xs : List AV) : CallOK Go.Proofs.Tryz.prog 3 29 xs (L1 f29 xs) := ok_L1 (fun x0 => ok_fn (E := E29) (fn := Go.Proofs.Tryz.f29) O29 rfl rfl (by kernel_rfl) (by kernel_rfl) (f29_eq x0)) xs

/-! ### etui/etuiref16.dots: function 19 -/
noncomputable def C19 (g : FuncId) (xs : List AV) : M AV := bif Nat.beq g 29 then L1 f29 xs else fail
noncomputable def E19 : Env := ⟨Go.Proofs.Tryz.prog, 3, C19, fun _ _ => fail, fun _ => [], 19, none⟩
noncomputable def B19 : Code := bodyOf Go.Proofs.Tryz.f19
noncomputable def K19 : KT := dK Go.Proofs.Tryz.prog Go.Proofs.Tryz.f19.results.toList
noncomputable def f19_5 (x7 : AV) : M AV :=
 bd (bi .eql x7 (.str [])) fun v1 =>
 cnd v1 (
 ret (.str [47])) (
 ret x7)
theorem f19_5_eq (t : Tmps) : dcode E19 84 (c2 (c2 (c2 (c2 (c2 (c2 B19)))))) t K19 = f19_5 (t 7) := by kernel_rfl
noncomputable def f19_b7 (L7 : AV → AV → AV → M AV) (x4 x7 x8 : AV) : M AV :=
 bd (lnL x4) fun v1 =>
 bd (bi .lss x8 v1) fun v2 =>
 cnd v2 (
 bd (ixp 1 x4 x8) fun v3 =>
 bd (ld v3) fun v4 =>
 bd (bi .add (.str [47]) v4) fun v5 =>
 bd (bi .add x7 v5) fun v6 =>
 bd (bi .add x8 (.int .i64 1)) fun v7 =>
 L7 x4 v6 v7) (
 f19_5 x7)
theorem f19_b7_eq (L7 : AV → AV → AV → M AV) (t : Tmps) : dcode E19 84 (c1 (c1 (c2 (c1 (c2 (c2 (c2 (c2 (c2 B19))))))))) t (kJ (fun t => L7 (t 4) (t 7) (t 8)) (kB 2 (kJ (fun t => f19_5 (t 7)) K19))) = f19_b7 L7 (t 4) (t 7) (t 8) := by kernel_rfl
noncomputable def f19_l7 : Nat → AV → AV → AV → M AV
  | 0, _, _, _ => fail
  | n + 1, x4, x7, x8 => f19_b7 (f19_l7 n) x4 x7 x8
theorem f19_l7_eq (t : Tmps) : dcode E19 84 (c1 (c2 (c1 (c2 (c2 (c2 (c2 (c2 B19)))))))) t (kB 2 (kJ (fun t => f19_5 (t 7)) K19)) = f19_l7 fuel (t 4) (t 7) (t 8) :=
  dloop_eq (c := (c1 (c1 (c2 (c1 (c2 (c2 (c2 (c2 (c2 B19)))))))))) (g := fun n t => f19_l7 n (t 4) (t 7) (t 8)) (fun _ => rfl) (fun n t => f19_b7_eq (f19_l7 n) t)
noncomputable def f19_6 (x4 x7 x8 : AV) : M AV :=
 f19_l7 fuel x4 x7 x8
theorem f19_6_eq (t : Tmps) : dcode E19 84 (c2 (c1 (c2 (c2 (c2 (c2 (c2 B19))))))) t (kJ (fun t => f19_5 (t 7)) K19) = f19_6 (t 4) (t 7) (t 8) := (f19_l7_eq _)
noncomputable def f19_4 (x4 x7 : AV) : M AV :=
 f19_6 x4 x7 (.int .i64 0)
theorem f19_4_eq (t : Tmps) : dcode E19 84 (c2 (c2 (c2 (c2 (c2 B19))))) t K19 = f19_4 (t 4) (t 7) := (seq_eq (a := (c1 (c2 (c2 (c2 (c2 (c2 B19))))))) (b := (c2 (c2 (c2 (c2 (c2 (c2 B19))))))) (fun t => f19_5_eq t) (seq_eq (a := (c1 (c1 (c2 (c2 (c2 (c2 (c2 B19)))))))) (b := (c2 (c1 (c2 (c2 (c2 (c2 (c2 B19)))))))) (fun t => f19_6_eq t) (by kernel_rfl)))
noncomputable def f19_3 (x4 : AV) : M AV :=
 f19_4 x4 (.str [])
theorem f19_3_eq (t : Tmps) : dcode E19 84 (c2 (c2 (c2 (c2 B19)))) t K19 = f19_3 (t 4) := (seq_eq (a := (c1 (c2 (c2 (c2 (c2 B19)))))) (b := (c2 (c2 (c2 (c2 (c2 B19)))))) (fun t => f19_4_eq t) (by kernel_rfl))
noncomputable def f19_11 (L9 : AV → AV → AV → M AV) (x3 x4 x5 : AV) : M AV :=
 bd (bi .add x5 (.int .i64 1)) fun v1 =>
 L9 x3 x4 v1
theorem f19_11_eq (L9 : AV → AV → AV → M AV) (t : Tmps) : dcode E19 84 (c2 (c2 (c1 (c1 (c2 (c1 (c2 (c2 (c2 B19))))))))) t (kJ (fun t => L9 (t 3) (t 4) (t 5)) (kB 0 (kJ (fun t => f19_3 (t 4)) K19))) = f19_11 L9 (t 3) (t 4) (t 5) := by kernel_rfl
noncomputable def f19_14 (L9 : AV → AV → AV → M AV) (x3 x4 x5 x6 : AV) : M AV :=
 bd (gd x6 true (ret x5)) fun v1 =>
 bd (gd x6 true (ret x3)) fun v2 =>
 bd (gd x6 true (lnL v2)) fun v3 =>
 bd (gd x6 true (bi .sub v3 (.int .i64 1))) fun v4 =>
 bd (gd x6 true (bi .eql v1 v4)) fun v5 =>
 bd (pk x6 v5 (.bool false)) fun v6 =>
 cnd v6 (
 bd (bsl 9 1 1 [(.str [])] [(0, 1, (.str []))]) fun v7 =>
 bd (app 9 1 16 x4 v7) fun v8 =>
 f19_11 L9 x3 v8 x5) (
 f19_11 L9 x3 x4 x5)
theorem f19_14_eq (L9 : AV → AV → AV → M AV) (t : Tmps) : dcode E19 84 (c2 (c2 (c2 (c1 (c1 (c2 (c1 (c1 (c2 (c1 (c2 (c2 (c2 B19))))))))))))) t (kB 1 (kJ (fun t => f19_11 L9 (t 3) (t 4) (t 5)) (kJ (fun t => L9 (t 3) (t 4) (t 5)) (kB 0 (kJ (fun t => f19_3 (t 4)) K19))))) = f19_14 L9 (t 3) (t 4) (t 5) (t 6) := by kernel_rfl
noncomputable def f19_13 (L9 : AV → AV → AV → M AV) (x3 x4 x5 x6 : AV) : M AV :=
 bd (un .not x6) fun v1 =>
 cnd v1 (
 bd (ixp 1 x3 x5) fun v2 =>
 bd (ld v2) fun v3 =>
 bd (bsl 9 1 1 [(.str [])] [(0, 1, v3)]) fun v4 =>
 bd (app 9 1 16 x4 v4) fun v5 =>
 f19_14 L9 x3 v5 x5 x6) (
 f19_14 L9 x3 x4 x5 x6)
theorem f19_13_eq (L9 : AV → AV → AV → M AV) (t : Tmps) : dcode E19 84 (c2 (c2 (c1 (c1 (c2 (c1 (c1 (c2 (c1 (c2 (c2 (c2 B19)))))))))))) t (kB 1 (kJ (fun t => f19_11 L9 (t 3) (t 4) (t 5)) (kJ (fun t => L9 (t 3) (t 4) (t 5)) (kB 0 (kJ (fun t => f19_3 (t 4)) K19))))) = f19_13 L9 (t 3) (t 4) (t 5) (t 6) := (seq_eq (a := (c1 (c2 (c2 (c1 (c1 (c2 (c1 (c1 (c2 (c1 (c2 (c2 (c2 B19)))))))))))))) (b := (c2 (c2 (c2 (c1 (c1 (c2 (c1 (c1 (c2 (c1 (c2 (c2 (c2 B19)))))))))))))) (fun t => f19_14_eq L9 t) (by kernel_rfl))
noncomputable def f19_12 (L9 : AV → AV → AV → M AV) (x3 x4 x5 x6 : AV) : M AV :=
 bd (ixp 1 x3 x5) fun v1 =>
 bd (ld v1) fun v2 =>
 bd (bi .eql v2 (.str [46, 46])) fun v3 =>
 bd (gd v3 true (ret x4)) fun v4 =>
 bd (gd v3 true (lnL v4)) fun v5 =>
 bd (gd v3 true (bi .gtr v5 (.int .i64 0))) fun v6 =>
 bd (pk v3 v6 (.bool false)) fun v7 =>
 cnd v7 (
 bd (bsl 9 1 0 [] []) fun v8 =>
 bd (lnL x4) fun v9 =>
 bd (bi .sub v9 (.int .i64 1)) fun v10 =>
 bd (sls 1 x4 none (some v10)) fun v11 =>
 bd (app 9 1 16 v8 v11) fun v12 =>
 f19_13 L9 x3 v12 x5 x6) (
 f19_13 L9 x3 x4 x5 x6)
theorem f19_12_eq (L9 : AV → AV → AV → M AV) (t : Tmps) : dcode E19 84 (c2 (c1 (c1 (c2 (c1 (c1 (c2 (c1 (c2 (c2 (c2 B19))))))))))) t (kB 1 (kJ (fun t => f19_11 L9 (t 3) (t 4) (t 5)) (kJ (fun t => L9 (t 3) (t 4) (t 5)) (kB 0 (kJ (fun t => f19_3 (t 4)) K19))))) = f19_12 L9 (t 3) (t 4) (t 5) (t 6) := (seq_eq (a := (c1 (c2 (c1 (c1 (c2 (c1 (c1 (c2 (c1 (c2 (c2 (c2 B19))))))))))))) (b := (c2 (c2 (c1 (c1 (c2 (c1 (c1 (c2 (c1 (c2 (c2 (c2 B19))))))))))))) (fun t => f19_13_eq L9 t) (by kernel_rfl))
noncomputable def f19_10 (L9 : AV → AV → AV → M AV) (x3 x4 x5 : AV) : M AV :=
 bd (ixp 1 x3 x5) fun v1 =>
 bd (ld v1) fun v2 =>
 bd (bi .eql v2 (.str [46])) fun v3 =>
 bd (gd v3 false (ret x3)) fun v4 =>
 bd (gd v3 false (ret x5)) fun v5 =>
 bd (gd v3 false (ixp 1 v4 v5)) fun v6 =>
 bd (gd v3 false (ld v6)) fun v7 =>
 bd (gd v3 false (bi .eql v7 (.str [46, 46]))) fun v8 =>
 bd (pk v3 (.bool true) v8) fun v9 =>
 f19_12 L9 x3 x4 x5 v9
theorem f19_10_eq (L9 : AV → AV → AV → M AV) (t : Tmps) : dcode E19 84 (c2 (c1 (c1 (c2 (c1 (c2 (c2 (c2 B19)))))))) t (kJ (fun t => L9 (t 3) (t 4) (t 5)) (kB 0 (kJ (fun t => f19_3 (t 4)) K19))) = f19_10 L9 (t 3) (t 4) (t 5) := (seq_eq (a := (c1 (c2 (c1 (c1 (c2 (c1 (c2 (c2 (c2 B19)))))))))) (b := (c2 (c2 (c1 (c1 (c2 (c1 (c2 (c2 (c2 B19)))))))))) (fun t => f19_11_eq L9 t) (seq_eq (a := (c1 (c1 (c1 (c2 (c1 (c1 (c2 (c1 (c2 (c2 (c2 B19)))))))))))) (b := (c2 (c1 (c1 (c2 (c1 (c1 (c2 (c1 (c2 (c2 (c2 B19)))))))))))) (fun t => f19_12_eq L9 t) (by kernel_rfl)))
noncomputable def f19_b9 (L9 : AV → AV → AV → M AV) (x3 x4 x5 : AV) : M AV :=
 bd (lnL x3) fun v1 =>
 bd (bi .lss x5 v1) fun v2 =>
 cnd v2 (
 f19_10 L9 x3 x4 x5) (
 f19_3 x4)
theorem f19_b9_eq (L9 : AV → AV → AV → M AV) (t : Tmps) : dcode E19 84 (c1 (c1 (c2 (c1 (c2 (c2 (c2 B19))))))) t (kJ (fun t => L9 (t 3) (t 4) (t 5)) (kB 0 (kJ (fun t => f19_3 (t 4)) K19))) = f19_b9 L9 (t 3) (t 4) (t 5) := (seq_eq (a := (c1 (c1 (c1 (c2 (c1 (c2 (c2 (c2 B19))))))))) (b := (c2 (c1 (c1 (c2 (c1 (c2 (c2 (c2 B19))))))))) (fun t => f19_10_eq L9 t) (by kernel_rfl))
noncomputable def f19_l9 : Nat → AV → AV → AV → M AV
  | 0, _, _, _ => fail
  | n + 1, x3, x4, x5 => f19_b9 (f19_l9 n) x3 x4 x5
theorem f19_l9_eq (t : Tmps) : dcode E19 84 (c1 (c2 (c1 (c2 (c2 (c2 B19)))))) t (kB 0 (kJ (fun t => f19_3 (t 4)) K19)) = f19_l9 fuel (t 3) (t 4) (t 5) :=
  dloop_eq (c := (c1 (c1 (c2 (c1 (c2 (c2 (c2 B19)))))))) (g := fun n t => f19_l9 n (t 3) (t 4) (t 5)) (fun _ => rfl) (fun n t => f19_b9_eq (f19_l9 n) t)
noncomputable def f19_8 (x3 x4 x5 : AV) : M AV :=
 f19_l9 fuel x3 x4 x5
theorem f19_8_eq (t : Tmps) : dcode E19 84 (c2 (c1 (c2 (c2 (c2 B19))))) t (kJ (fun t => f19_3 (t 4)) K19) = f19_8 (t 3) (t 4) (t 5) := (f19_l9_eq _)
noncomputable def f19_2 (x3 x4 : AV) : M AV :=
 f19_8 x3 x4 (.int .i64 0)
theorem f19_2_eq (t : Tmps) : dcode E19 84 (c2 (c2 (c2 B19))) t K19 = f19_2 (t 3) (t 4) := (seq_eq (a := (c1 (c2 (c2 (c2 B19))))) (b := (c2 (c2 (c2 (c2 B19))))) (fun t => f19_3_eq t) (seq_eq (a := (c1 (c1 (c2 (c2 (c2 B19)))))) (b := (c2 (c1 (c2 (c2 (c2 B19)))))) (fun t => f19_8_eq t) (by kernel_rfl)))
noncomputable def f19_1 (x3 : AV) : M AV :=
 bd (bsl 9 1 0 [] []) fun v1 =>
 f19_2 x3 v1
theorem f19_1_eq (t : Tmps) : dcode E19 84 (c2 (c2 B19)) t K19 = f19_1 (t 3) := (seq_eq (a := (c1 (c2 (c2 B19)))) (b := (c2 (c2 (c2 B19)))) (fun t => f19_2_eq t) (by kernel_rfl))
noncomputable def f19_0 (x0 : AV) : M AV :=
 bd (ss x0 (some (.int .i64 1)) none) fun v1 =>
 bd (f29 v1) fun v2 =>
 f19_1 v2
theorem f19_0_eq (t : Tmps) : dcode E19 84 (c2 B19) t K19 = f19_0 (t 0) := (seq_eq (a := (c1 (c2 B19))) (b := (c2 (c2 B19))) (fun t => f19_1_eq t) (by kernel_rfl))
noncomputable def f19 (x0 : AV) : M AV :=
 f19_0 x0
theorem f19_top (t : Tmps) : dcode E19 84 B19 t K19 = f19 (t 0) := (seq_eq (a := (c1 B19)) (b := (c2 B19)) (fun t => f19_0_eq t) (by kernel_rfl))
theorem f19_eq (x0 : AV) : dfn E19 Go.Proofs.Tryz.f19 [x0] = f19 x0 := dfn_eq (c := B19) (nt := 84) (K := K19) (by kernel_rfl) (by kernel_rfl) rfl (by kernel_rfl) (f19_top (argT [x0]))
theorem O19 : EnvOK E19 := ⟨fun g xs => (ok_if (S29 xs) ok_fail), ap_fail⟩
theorem S19 (xs : List AV) : CallOK Go.Proofs.Tryz.prog 3 19 xs (L1 f19 xs) := ok_L1 (fun x0 => ok_fn (E := E19) (fn := Go.Proofs.Tryz.f19) O19 rfl rfl (by kernel_rfl) (by kernel_rfl) (f19_eq x0)) xs

/-! ### etui/etuiref16.Resolve: function 6 -/
noncomputable def C6 (g : FuncId) (xs : List AV) : M AV := bif Nat.beq g 17 then L1 f17 xs else bif Nat.beq g 18 then L1 f18 xs else bif Nat.beq g 19 then L1 f19 xs else fail
noncomputable def E6 : Env := ⟨Go.Proofs.Tryz.prog, 3, C6, fun _ _ => fail, fun i => bif Nat.beq i 9 then [0, 1, 5, 6, 2, 3, 4, 7, 8, 9] else [], 6, none⟩
noncomputable def B6 : Code := bodyOf Go.Proofs.Tryz.f6
noncomputable def K6 : KT := dK Go.Proofs.Tryz.prog Go.Proofs.Tryz.f6.results.toList
noncomputable def f6_4 (x4 x6 : AV) : M AV :=
 bd (fa x6 2) fun v1 =>
 bd (ld v1) fun v2 =>
 bd (f19 v2) fun v3 =>
 bd (fa x6 2) fun v4 =>
 bd (st v4 v3) fun _ =>
 bd (lda 9 x6) fun v5 =>
 bd (sta 9 x4 v5) fun _ =>
 bd (lda 9 x4) fun v6 => ret (.tuple [v6, (.int .i64 0)])
theorem f6_4_eq (t : Tmps) : dcode E6 57 (c2 (c2 (c2 (c2 (c2 B6))))) t K6 = f6_4 (t 4) (t 6) := by kernel_rfl
noncomputable def f6_3 (x0 x4 x6 : AV) : M AV :=
 bd (fa x6 2) fun v1 =>
 bd (ld v1) fun v2 =>
 bd (bi .eql v2 (.str [])) fun v3 =>
 cnd v3 (
 bd (fa x6 2) fun v4 =>
 bd (st v4 x0) fun _ =>
 f6_4 x4 x6) (
 bd (fa x6 2) fun v5 =>
 bd (ld v5) fun v6 =>
 bd (ixs v6 (.int .i64 0)) fun v7 =>
 bd (bi .neq v7 (.int .u8 47)) fun v8 =>
 cnd v8 (
 bd (ret x0) fun v9 =>
 bd (ret x0) fun v10 =>
 bd (fa x6 2) fun v11 =>
 bd (ld v11) fun v12 =>
 bd (f18 v10) fun v13 =>
 rck (ld v11) v12 (
 bd (bi .add v13 (.int .i64 1)) fun v14 =>
 bd (ss v9 none (some v14)) fun v15 =>
 bd (bi .add v15 v12) fun v16 =>
 bd (fa x6 2) fun v17 =>
 bd (st v17 v16) fun v18 =>
 f6_4 x4 x6)) (
 f6_4 x4 x6))
theorem f6_3_eq (t : Tmps) : dcode E6 57 (c2 (c2 (c2 (c2 B6)))) t K6 = f6_3 (t 0) (t 4) (t 6) := (seq_eq (a := (c1 (c2 (c2 (c2 (c2 B6)))))) (b := (c2 (c2 (c2 (c2 (c2 B6)))))) (fun t => f6_4_eq t) (by kernel_rfl))
noncomputable def f6_2 (x0 x4 x6 : AV) : M AV :=
 bd (fa x6 5) fun v1 =>
 bd (ld v1) fun v2 =>
 bd (gd v2 false (fa x6 6)) fun v3 =>
 bd (gd v2 false (ld v3)) fun v4 =>
 bd (pk v2 (.bool true) v4) fun v5 =>
 bd (gd v5 false (ret x0)) fun v6 =>
 bd (gd v5 false (bi .eql v6 (.str []))) fun v7 =>
 bd (pk v5 (.bool true) v7) fun v8 =>
 bd (gd v8 false (ret x0)) fun v9 =>
 bd (gd v8 false (ixs v9 (.int .i64 0))) fun v10 =>
 bd (gd v8 false (bi .neq v10 (.int .u8 47))) fun v11 =>
 bd (pk v8 (.bool true) v11) fun v12 =>
 cnd v12 (
 bd (bu [(.str []), (.str []), (.str []), (.str []), (.str []), (.bool false), (.bool false), (.bool false), (.bool false)] []) fun v13 =>
 bd (sta 9 x4 v13) fun _ =>
 bd (lda 9 x4) fun v14 => ret (.tuple [v14, (.int .i64 21)])) (
 f6_3 x0 x4 x6)
theorem f6_2_eq (t : Tmps) : dcode E6 57 (c2 (c2 (c2 B6))) t K6 = f6_2 (t 0) (t 4) (t 6) := (seq_eq (a := (c1 (c2 (c2 (c2 B6))))) (b := (c2 (c2 (c2 (c2 B6))))) (fun t => f6_3_eq t) (by kernel_rfl))
noncomputable def f6_1 (x0 x4 x6 x7 : AV) : M AV :=
 bd (un .not x7) fun v1 =>
 cnd v1 (
 bd (bu [(.str []), (.str []), (.str []), (.str []), (.str []), (.bool false), (.bool false), (.bool false), (.bool false)] []) fun v2 =>
 bd (sta 9 x4 v2) fun _ =>
 bd (lda 9 x4) fun v3 => ret (.tuple [v3, (.int .i64 10)])) (
 f6_2 x0 x4 x6)
theorem f6_1_eq (t : Tmps) : dcode E6 57 (c2 (c2 B6)) t K6 = f6_1 (t 0) (t 4) (t 6) (t 7) := (seq_eq (a := (c1 (c2 (c2 B6)))) (b := (c2 (c2 (c2 B6)))) (fun t => f6_2_eq t) (by kernel_rfl))
noncomputable def f6_0 (x0 x1 x4 : AV) : M AV :=
 bd (f17 x1) fun v1 =>
 bd (ex v1 0) fun v2 =>
 bd (ex v1 1) fun v3 =>
 bd (bx 28 (.agg [(.str []), (.str []), (.str []), (.str []), (.str []), (.bool false), (.bool false), (.bool false), (.bool false)])) fun v4 =>
 bd (sta 9 v4 v2) fun _ =>
 f6_1 x0 x4 v4 v3
theorem f6_0_eq (t : Tmps) : dcode E6 57 (c2 B6) t K6 = f6_0 (t 0) (t 1) (t 4) := (seq_eq (a := (c1 (c2 B6))) (b := (c2 (c2 B6))) (fun t => f6_1_eq t) (by kernel_rfl))
noncomputable def f6 (x0 x1 : AV) : M AV :=
 bd (bx 28 (.agg [(.str []), (.str []), (.str []), (.str []), (.str []), (.bool false), (.bool false), (.bool false), (.bool false)])) fun v1 =>
 f6_0 x0 x1 v1
theorem f6_top (t : Tmps) : dcode E6 57 B6 t K6 = f6 (t 0) (t 1) := (seq_eq (a := (c1 B6)) (b := (c2 B6)) (fun t => f6_0_eq t) (by kernel_rfl))
theorem f6_eq (x0 x1 : AV) : dfn E6 Go.Proofs.Tryz.f6 [x0, x1] = f6 x0 x1 := dfn_eq (c := B6) (nt := 57) (K := K6) (by kernel_rfl) (by kernel_rfl) rfl (by kernel_rfl) (f6_top (argT [x0, x1]))
theorem O6 : EnvOK E6 := ⟨fun g xs => (ok_if (S17 xs) (ok_if (S18 xs) (ok_if (S19 xs) ok_fail))), ap_fail⟩
theorem S6 (xs : List AV) : CallOK Go.Proofs.Tryz.prog 3 6 xs (L2 f6 xs) := ok_L2 (fun x0 x1 => ok_fn (E := E6) (fn := Go.Proofs.Tryz.f6) O6 rfl rfl (by kernel_rfl) (by kernel_rfl) (f6_eq x0 x1)) xs

/-! ### etui/etuiref15.digit: function 71 -/
noncomputable def C71 (g : FuncId) (xs : List AV) : M AV := fail
noncomputable def E71 : Env := ⟨Go.Proofs.Tryz.prog, 3, C71, fun _ _ => fail, fun _ => [], 71, none⟩
noncomputable def B71 : Code := bodyOf Go.Proofs.Tryz.f71
noncomputable def K71 : KT := dK Go.Proofs.Tryz.prog Go.Proofs.Tryz.f71.results.toList
noncomputable def f71 (x0 : AV) : M AV :=
 bd (bi .geq x0 (.int .i64 48)) fun v1 =>
 bd (gd v1 true (ret x0)) fun v2 =>
 bd (gd v1 true (bi .leq v2 (.int .i64 57))) fun v3 =>
 bd (pk v1 v3 (.bool false)) fun v4 =>
 cnd v4 (
 bd (bi .sub x0 (.int .i64 48)) fun v5 =>
 ret v5) (
 bd (bi .geq x0 (.int .i64 97)) fun v6 =>
 bd (gd v6 true (ret x0)) fun v7 =>
 bd (gd v6 true (bi .leq v7 (.int .i64 102))) fun v8 =>
 bd (pk v6 v8 (.bool false)) fun v9 =>
 cnd v9 (
 bd (bi .sub x0 (.int .i64 97)) fun v10 =>
 bd (bi .add v10 (.int .i64 10)) fun v11 =>
 ret v11) (
 bd (bi .geq x0 (.int .i64 65)) fun v12 =>
 bd (gd v12 true (ret x0)) fun v13 =>
 bd (gd v12 true (bi .leq v13 (.int .i64 70))) fun v14 =>
 bd (pk v12 v14 (.bool false)) fun v15 =>
 cnd v15 (
 bd (bi .sub x0 (.int .i64 65)) fun v16 =>
 bd (bi .add v16 (.int .i64 10)) fun v17 =>
 ret v17) (
 ret (.int .i64 (-1)))))
theorem f71_eq (x0 : AV) : dfn E71 Go.Proofs.Tryz.f71 [x0] = f71 x0 := dfn_eq (c := B71) (nt := 32) (K := K71) (by kernel_rfl) (by kernel_rfl) rfl (by kernel_rfl) (by kernel_rfl)
theorem O71 : EnvOK E71 := ⟨fun g xs => ok_fail, ap_fail⟩
theorem S71 (xs : List AV) : CallOK Go.Proofs.Tryz.prog 3 71 xs (L1 f71 xs) := ok_L1 (fun x0 => ok_fn (E := E71) (fn := Go.Proofs.Tryz.f71) O71 rfl rfl (by kernel_rfl) (by kernel_rfl) (f71_eq x0)) xs

/-! ### etui/etuiref15.told: function 48 -/
noncomputable def C48 (g : FuncId) (xs : List AV) : M AV := bif Nat.beq g 71 then L1 f71 xs else fail
noncomputable def E48 : Env := ⟨Go.Proofs.Tryz.prog, 3, C48, fun _ _ => fail, fun _ => [], 48, none⟩
noncomputable def B48 : Code := bodyOf Go.Proofs.Tryz.f48
noncomputable def K48 : KT := dK Go.Proofs.Tryz.prog Go.Proofs.Tryz.f48.results.toList
noncomputable def f48 (x0 x1 : AV) : M AV :=
 bd (bi .add x1 (.int .i64 2)) fun v1 =>
 bd (lnS x0) fun v2 =>
 bd (bi .geq v1 v2) fun v3 =>
 bd (gd v3 false (ret x0)) fun v4 =>
 bd (gd v3 false (ret x1)) fun v5 =>
 bd (gd v3 false (ixs v4 v5)) fun v6 =>
 bd (gd v3 false (bi .neq v6 (.int .u8 37))) fun v7 =>
 bd (pk v3 (.bool true) v7) fun v8 =>
 cnd v8 (
 ret (.int .i64 (-1))) (
 bd (bi .add x1 (.int .i64 1)) fun v9 =>
 bd (ixs x0 v9) fun v10 =>
 bd (ci .i64 v10) fun v11 =>
 bd (f71 v11) fun v12 =>
 bd (bi .add x1 (.int .i64 2)) fun v13 =>
 bd (ixs x0 v13) fun v14 =>
 bd (ci .i64 v14) fun v15 =>
 bd (f71 v15) fun v16 =>
 bd (bi .lss v12 (.int .i64 0)) fun v17 =>
 bd (gd v17 false (ret v16)) fun v18 =>
 bd (gd v17 false (bi .lss v18 (.int .i64 0))) fun v19 =>
 bd (pk v17 (.bool true) v19) fun v20 =>
 cnd v20 (
 ret (.int .i64 (-1))) (
 bd (bi .mul (.int .i64 16) v12) fun v21 =>
 bd (bi .add v21 v16) fun v22 =>
 ret v22))
theorem f48_eq (x0 x1 : AV) : dfn E48 Go.Proofs.Tryz.f48 [x0, x1] = f48 x0 x1 := dfn_eq (c := B48) (nt := 40) (K := K48) (by kernel_rfl) (by kernel_rfl) rfl (by kernel_rfl) (by kernel_rfl)
theorem O48 : EnvOK E48 := ⟨fun g xs => (ok_if (S71 xs) ok_fail), ap_fail⟩
theorem S48 (xs : List AV) : CallOK Go.Proofs.Tryz.prog 3 48 xs (L2 f48 xs) := ok_L2 (fun x0 x1 => ok_fn (E := E48) (fn := Go.Proofs.Tryz.f48) O48 rfl rfl (by kernel_rfl) (by kernel_rfl) (f48_eq x0 x1)) xs

/-! ### etui/etuiref15.plain: function 49 -/
noncomputable def C49 (g : FuncId) (xs : List AV) : M AV := fail
noncomputable def E49 : Env := ⟨Go.Proofs.Tryz.prog, 3, C49, fun _ _ => fail, fun _ => [], 49, none⟩
noncomputable def B49 : Code := bodyOf Go.Proofs.Tryz.f49
noncomputable def K49 : KT := dK Go.Proofs.Tryz.prog Go.Proofs.Tryz.f49.results.toList
noncomputable def f49 (x0 : AV) : M AV :=
 bd (bi .geq x0 (.int .i64 65)) fun v1 =>
 bd (gd v1 true (ret x0)) fun v2 =>
 bd (gd v1 true (bi .leq v2 (.int .i64 90))) fun v3 =>
 bd (pk v1 v3 (.bool false)) fun v4 =>
 bd (gd v4 false (ret x0)) fun v5 =>
 bd (gd v4 false (bi .geq v5 (.int .i64 97))) fun v6 =>
 bd (gd v4 false (ret v6)) fun v7 =>
 bd (gd v7 true (ret x0)) fun v8 =>
 bd (gd v7 true (bi .leq v8 (.int .i64 122))) fun v9 =>
 bd (gd v4 false (pk v7 v9 (.bool false))) fun v10 =>
 bd (pk v4 (.bool true) v10) fun v11 =>
 bd (gd v11 false (ret x0)) fun v12 =>
 bd (gd v11 false (bi .geq v12 (.int .i64 48))) fun v13 =>
 bd (gd v11 false (ret v13)) fun v14 =>
 bd (gd v14 true (ret x0)) fun v15 =>
 bd (gd v14 true (bi .leq v15 (.int .i64 57))) fun v16 =>
 bd (gd v11 false (pk v14 v16 (.bool false))) fun v17 =>
 bd (pk v11 (.bool true) v17) fun v18 =>
 bd (gd v18 false (ret x0)) fun v19 =>
 bd (gd v18 false (bi .eql v19 (.int .i64 45))) fun v20 =>
 bd (pk v18 (.bool true) v20) fun v21 =>
 bd (gd v21 false (ret x0)) fun v22 =>
 bd (gd v21 false (bi .eql v22 (.int .i64 46))) fun v23 =>
 bd (pk v21 (.bool true) v23) fun v24 =>
 bd (gd v24 false (ret x0)) fun v25 =>
 bd (gd v24 false (bi .eql v25 (.int .i64 95))) fun v26 =>
 bd (pk v24 (.bool true) v26) fun v27 =>
 bd (gd v27 false (ret x0)) fun v28 =>
 bd (gd v27 false (bi .eql v28 (.int .i64 126))) fun v29 =>
 bd (pk v27 (.bool true) v29) fun v30 =>
 ret v30
theorem f49_eq (x0 : AV) : dfn E49 Go.Proofs.Tryz.f49 [x0] = f49 x0 := dfn_eq (c := B49) (nt := 41) (K := K49) (by kernel_rfl) (by kernel_rfl) rfl (by kernel_rfl) (by kernel_rfl)
theorem O49 : EnvOK E49 := ⟨fun g xs => ok_fail, ap_fail⟩
theorem S49 (xs : List AV) : CallOK Go.Proofs.Tryz.prog 3 49 xs (L1 f49 xs) := ok_L1 (fun x0 => ok_fn (E := E49) (fn := Go.Proofs.Tryz.f49) O49 rfl rfl (by kernel_rfl) (by kernel_rfl) (f49_eq x0)) xs

/-! ### etui/etuiref15.sign: function 50 -/
noncomputable def C50 (g : FuncId) (xs : List AV) : M AV := bif Nat.beq g 49 then L1 f49 xs else fail
noncomputable def E50 : Env := ⟨Go.Proofs.Tryz.prog, 3, C50, fun _ _ => fail, fun _ => [], 50, none⟩
noncomputable def B50 : Code := bodyOf Go.Proofs.Tryz.f50
noncomputable def K50 : KT := dK Go.Proofs.Tryz.prog Go.Proofs.Tryz.f50.results.toList
noncomputable def f50_3 : M AV :=
 ret (.bool false)
theorem f50_3_eq (t : Tmps) : dcode E50 19 (c2 (c2 (c2 (c2 B50)))) t K50 = f50_3 := by kernel_rfl
noncomputable def f50_b5 (L5 : AV → AV → AV → M AV) (x0 x3 x4 : AV) : M AV :=
 bd (lnS x3) fun v1 =>
 bd (bi .lss x4 v1) fun v2 =>
 cnd v2 (
 bd (ixs x3 x4) fun v3 =>
 bd (ci .i64 v3) fun v4 =>
 bd (bi .eql v4 x0) fun v5 =>
 cnd v5 (
 ret (.bool true)) (
 bd (bi .add x4 (.int .i64 1)) fun v6 =>
 L5 x0 x3 v6)) (
 f50_3)
theorem f50_b5_eq (L5 : AV → AV → AV → M AV) (t : Tmps) : dcode E50 19 (c1 (c1 (c2 (c1 (c2 (c2 (c2 B50))))))) t (kJ (fun t => L5 (t 0) (t 3) (t 4)) (kB 0 (kJ (fun t => f50_3) K50))) = f50_b5 L5 (t 0) (t 3) (t 4) := by kernel_rfl
noncomputable def f50_l5 : Nat → AV → AV → AV → M AV
  | 0, _, _, _ => fail
  | n + 1, x0, x3, x4 => f50_b5 (f50_l5 n) x0 x3 x4
theorem f50_l5_eq (t : Tmps) : dcode E50 19 (c1 (c2 (c1 (c2 (c2 (c2 B50)))))) t (kB 0 (kJ (fun t => f50_3) K50)) = f50_l5 fuel (t 0) (t 3) (t 4) :=
  dloop_eq (c := (c1 (c1 (c2 (c1 (c2 (c2 (c2 B50)))))))) (g := fun n t => f50_l5 n (t 0) (t 3) (t 4)) (fun _ => rfl) (fun n t => f50_b5_eq (f50_l5 n) t)
noncomputable def f50_4 (x0 x3 x4 : AV) : M AV :=
 f50_l5 fuel x0 x3 x4
theorem f50_4_eq (t : Tmps) : dcode E50 19 (c2 (c1 (c2 (c2 (c2 B50))))) t (kJ (fun t => f50_3) K50) = f50_4 (t 0) (t 3) (t 4) := (f50_l5_eq _)
noncomputable def f50_2 (x0 x3 : AV) : M AV :=
 f50_4 x0 x3 (.int .i64 0)
theorem f50_2_eq (t : Tmps) : dcode E50 19 (c2 (c2 (c2 B50))) t K50 = f50_2 (t 0) (t 3) := (seq_eq (a := (c1 (c2 (c2 (c2 B50))))) (b := (c2 (c2 (c2 (c2 B50))))) (fun t => f50_3_eq t) (seq_eq (a := (c1 (c1 (c2 (c2 (c2 B50)))))) (b := (c2 (c1 (c2 (c2 (c2 B50)))))) (fun t => f50_4_eq t) (by kernel_rfl)))
noncomputable def f50_1 (x0 : AV) : M AV :=
 f50_2 x0 (.str [33, 36, 38, 39, 40, 41, 42, 43, 44, 59, 61, 58, 64])
theorem f50_1_eq (t : Tmps) : dcode E50 19 (c2 (c2 B50)) t K50 = f50_1 (t 0) := (seq_eq (a := (c1 (c2 (c2 B50)))) (b := (c2 (c2 (c2 B50)))) (fun t => f50_2_eq t) (by kernel_rfl))
noncomputable def f50_0 (x0 : AV) : M AV :=
 bd (f49 x0) fun v1 =>
 cnd v1 (
 ret (.bool true)) (
 f50_1 x0)
theorem f50_0_eq (t : Tmps) : dcode E50 19 (c2 B50) t K50 = f50_0 (t 0) := (seq_eq (a := (c1 (c2 B50))) (b := (c2 (c2 B50))) (fun t => f50_1_eq t) (by kernel_rfl))
noncomputable def f50 (x0 : AV) : M AV :=
 f50_0 x0
theorem f50_top (t : Tmps) : dcode E50 19 B50 t K50 = f50 (t 0) := (seq_eq (a := (c1 B50)) (b := (c2 B50)) (fun t => f50_0_eq t) (by kernel_rfl))
theorem f50_eq (x0 : AV) : dfn E50 Go.Proofs.Tryz.f50 [x0] = f50 x0 := dfn_eq (c := B50) (nt := 19) (K := K50) (by kernel_rfl) (by kernel_rfl) rfl (by kernel_rfl) (f50_top (argT [x0]))
theorem O50 : EnvOK E50 := ⟨fun g xs => (ok_if (S49 xs) ok_fail), ap_fail⟩
theorem S50 (xs : List AV) : CallOK Go.Proofs.Tryz.prog 3 50 xs (L1 f50 xs) := ok_L1 (fun x0 => ok_fn (E := E50) (fn := Go.Proofs.Tryz.f50) O50 rfl rfl (by kernel_rfl) (by kernel_rfl) (f50_eq x0)) xs

/-! ### etui/etuiref15.Right: function 28 -/
noncomputable def C28 (g : FuncId) (xs : List AV) : M AV := bif Nat.beq g 48 then L2 f48 xs else bif Nat.beq g 49 then L1 f49 xs else bif Nat.beq g 50 then L1 f50 xs else fail
noncomputable def E28 : Env := ⟨Go.Proofs.Tryz.prog, 3, C28, fun _ _ => fail, fun _ => [], 28, none⟩
noncomputable def B28 : Code := bodyOf Go.Proofs.Tryz.f28
noncomputable def K28 : KT := dK Go.Proofs.Tryz.prog Go.Proofs.Tryz.f28.results.toList
noncomputable def f28_2 (x0 : AV) : M AV :=
 bd (lnS x0) fun v1 =>
 bd (bi .sub v1 (.int .i64 1)) fun v2 =>
 bd (ixs x0 v2) fun v3 =>
 bd (bi .neq v3 (.int .u8 47)) fun v4 =>
 bd (gd v4 true (ret v3)) fun v5 =>
 bd (gd v4 true (bi .neq v5 (.int .u8 46))) fun v6 =>
 bd (pk v4 v6 (.bool false)) fun v7 =>
 ret v7
theorem f28_2_eq (t : Tmps) : dcode E28 81 (c2 (c2 (c2 B28))) t K28 = f28_2 (t 0) := by kernel_rfl
noncomputable def f28_b4 (L4 : AV → AV → M AV) (x0 x3 : AV) : M AV :=
 bd (lnS x0) fun v1 =>
 bd (bi .lss x3 v1) fun v2 =>
 cnd v2 (
 bd (ixs x0 x3) fun v3 =>
 bd (ci .i64 v3) fun v4 =>
 bd (bi .eql v4 (.int .i64 47)) fun v5 =>
 cnd v5 (
 bd (bi .sub x3 (.int .i64 1)) fun v6 =>
 bd (ixs x0 v6) fun v7 =>
 bd (bi .eql v7 (.int .u8 47)) fun v8 =>
 bd (gd v8 false (ret x0)) fun v9 =>
 bd (gd v8 false (ret x3)) fun v10 =>
 bd (gd v8 false (bi .sub v10 (.int .i64 1))) fun v11 =>
 bd (gd v8 false (ixs v9 v11)) fun v12 =>
 bd (gd v8 false (bi .eql v12 (.int .u8 46))) fun v13 =>
 bd (pk v8 (.bool true) v13) fun v14 =>
 cnd v14 (
 ret (.bool false)) (
 bd (bi .add x3 (.int .i64 1)) fun v15 =>
 L4 x0 v15)) (
 bd (f48 x0 x3) fun v16 =>
 bd (bi .geq v16 (.int .i64 0)) fun v17 =>
 cnd v17 (
 bd (f49 v16) fun v18 =>
 bd (gd v18 false (ret v16)) fun v19 =>
 bd (gd v18 false (bi .eql v19 (.int .i64 47))) fun v20 =>
 bd (pk v18 (.bool true) v20) fun v21 =>
 bd (gd v21 false (ret v16)) fun v22 =>
 bd (gd v21 false (bi .eql v22 (.int .i64 92))) fun v23 =>
 bd (pk v21 (.bool true) v23) fun v24 =>
 bd (gd v24 false (ret v16)) fun v25 =>
 bd (gd v24 false (bi .eql v25 (.int .i64 0))) fun v26 =>
 bd (pk v24 (.bool true) v26) fun v27 =>
 cnd v27 (
 ret (.bool false)) (
 bd (bi .add x3 (.int .i64 3)) fun v28 =>
 L4 x0 v28)) (
 bd (f50 v4) fun v29 =>
 bd (un .not v29) fun v30 =>
 cnd v30 (
 ret (.bool false)) (
 bd (bi .add x3 (.int .i64 1)) fun v31 =>
 L4 x0 v31)))) (
 f28_2 x0)
theorem f28_b4_eq (L4 : AV → AV → M AV) (t : Tmps) : dcode E28 81 (c1 (c1 (c2 (c1 (c2 (c2 B28)))))) t (kJ (fun t => L4 (t 0) (t 3)) (kB 0 (kJ (fun t => f28_2 (t 0)) K28))) = f28_b4 L4 (t 0) (t 3) := by kernel_rfl
noncomputable def f28_l4 : Nat → AV → AV → M AV
  | 0, _, _ => fail
  | n + 1, x0, x3 => f28_b4 (f28_l4 n) x0 x3
theorem f28_l4_eq (t : Tmps) : dcode E28 81 (c1 (c2 (c1 (c2 (c2 B28))))) t (kB 0 (kJ (fun t => f28_2 (t 0)) K28)) = f28_l4 fuel (t 0) (t 3) :=
  dloop_eq (c := (c1 (c1 (c2 (c1 (c2 (c2 B28))))))) (g := fun n t => f28_l4 n (t 0) (t 3)) (fun _ => rfl) (fun n t => f28_b4_eq (f28_l4 n) t)
noncomputable def f28_3 (x0 x3 : AV) : M AV :=
 f28_l4 fuel x0 x3
theorem f28_3_eq (t : Tmps) : dcode E28 81 (c2 (c1 (c2 (c2 B28)))) t (kJ (fun t => f28_2 (t 0)) K28) = f28_3 (t 0) (t 3) := (f28_l4_eq _)
noncomputable def f28_1 (x0 : AV) : M AV :=
 f28_3 x0 (.int .i64 1)
theorem f28_1_eq (t : Tmps) : dcode E28 81 (c2 (c2 B28)) t K28 = f28_1 (t 0) := (seq_eq (a := (c1 (c2 (c2 B28)))) (b := (c2 (c2 (c2 B28)))) (fun t => f28_2_eq t) (seq_eq (a := (c1 (c1 (c2 (c2 B28))))) (b := (c2 (c1 (c2 (c2 B28))))) (fun t => f28_3_eq t) (by kernel_rfl)))
noncomputable def f28_0 (x0 : AV) : M AV :=
 bd (lnS x0) fun v1 =>
 bd (bi .lss v1 (.int .i64 2)) fun v2 =>
 bd (gd v2 false (ret x0)) fun v3 =>
 bd (gd v2 false (lnS v3)) fun v4 =>
 bd (gd v2 false (bi .gtr v4 (.int .i64 255))) fun v5 =>
 bd (pk v2 (.bool true) v5) fun v6 =>
 bd (gd v6 false (ret x0)) fun v7 =>
 bd (gd v6 false (ixs v7 (.int .i64 0))) fun v8 =>
 bd (gd v6 false (bi .neq v8 (.int .u8 47))) fun v9 =>
 bd (pk v6 (.bool true) v9) fun v10 =>
 cnd v10 (
 ret (.bool false)) (
 f28_1 x0)
theorem f28_0_eq (t : Tmps) : dcode E28 81 (c2 B28) t K28 = f28_0 (t 0) := (seq_eq (a := (c1 (c2 B28))) (b := (c2 (c2 B28))) (fun t => f28_1_eq t) (by kernel_rfl))
noncomputable def f28 (x0 : AV) : M AV :=
 f28_0 x0
theorem f28_top (t : Tmps) : dcode E28 81 B28 t K28 = f28 (t 0) := (seq_eq (a := (c1 B28)) (b := (c2 B28)) (fun t => f28_0_eq t) (by kernel_rfl))
theorem f28_eq (x0 : AV) : dfn E28 Go.Proofs.Tryz.f28 [x0] = f28 x0 := dfn_eq (c := B28) (nt := 81) (K := K28) (by kernel_rfl) (by kernel_rfl) rfl (by kernel_rfl) (f28_top (argT [x0]))
theorem O28 : EnvOK E28 := ⟨fun g xs => (ok_if (S48 xs) (ok_if (S49 xs) (ok_if (S50 xs) ok_fail))), ap_fail⟩
theorem S28 (xs : List AV) : CallOK Go.Proofs.Tryz.prog 3 28 xs (L1 f28 xs) := ok_L1 (fun x0 => ok_fn (E := E28) (fn := Go.Proofs.Tryz.f28) O28 rfl rfl (by kernel_rfl) (by kernel_rfl) (f28_eq x0)) xs

/-! ### etui/etuiref15.Normal: function 21 -/
noncomputable def C21 (g : FuncId) (xs : List AV) : M AV := bif Nat.beq g 28 then L1 f28 xs else bif Nat.beq g 48 then L2 f48 xs else bif Nat.beq g 49 then L1 f49 xs else bif Nat.beq g 50 then L1 f50 xs else fail
noncomputable def E21 : Env := ⟨Go.Proofs.Tryz.prog, 3, C21, fun _ _ => fail, fun i => bif Nat.beq i 9 then [0, 1, 2, 3, 4, 5, 6, 7, 8, 9, 10, 11, 12] else bif Nat.beq i 15 then [0, 1, 2, 3, 4, 5, 6, 7, 8, 9, 10, 11, 12] else [], 21, none⟩
noncomputable def B21 : Code := bodyOf Go.Proofs.Tryz.f21
noncomputable def K21 : KT := dK Go.Proofs.Tryz.prog Go.Proofs.Tryz.f21.results.toList
noncomputable def f21_4 (x4 : AV) : M AV :=
 bd (f28 x4) fun v1 =>
 bd (un .not v1) fun v2 =>
 cnd v2 (
 ret (.tuple [(.str []), (.bool false)])) (
 ret (.tuple [x4, (.bool true)]))
theorem f21_4_eq (t : Tmps) : dcode E21 89 (c2 (c2 (c2 (c2 (c2 B21))))) t K21 = f21_4 (t 4) := by kernel_rfl
noncomputable def f21_b6 (L6 : AV → AV → AV → AV → M AV) (x0 x4 x5 x6 : AV) : M AV :=
 bd (lnS x0) fun v1 =>
 bd (bi .lss x6 v1) fun v2 =>
 cnd v2 (
 bd (ixs x0 x6) fun v3 =>
 bd (ci .i64 v3) fun v4 =>
 bd (f48 x0 x6) fun v5 =>
 bd (bi .geq v5 (.int .i64 0)) fun v6 =>
 bd (gd v6 true (ret v5)) fun v7 =>
 bd (gd v6 true (f49 v7)) fun v8 =>
 bd (pk v6 v8 (.bool false)) fun v9 =>
 cnd v9 (
 bd (ci .u8 v5) fun v10 =>
 bd (bsl 5 1 1 [(.int .u8 0)] [(0, 1, v10)]) fun v11 =>
 bd (b2s v11) fun v12 =>
 bd (bi .add x4 v12) fun v13 =>
 bd (bi .add x6 (.int .i64 3)) fun v14 =>
 L6 x0 v13 x5 v14) (
 bd (bi .geq v5 (.int .i64 0)) fun v15 =>
 cnd v15 (
 bd (ret x4) fun v16 =>
 bd (ret x5) fun v17 =>
 bd (ret v5) fun v18 =>
 bd (bi .quo v18 (.int .i64 16)) fun v19 =>
 bd (ixs v17 v19) fun v20 =>
 bd (ret x5) fun v21 =>
 bd (ret v5) fun v22 =>
 bd (bi .rem v22 (.int .i64 16)) fun v23 =>
 bd (ixs v21 v23) fun v24 =>
 bd (bsl 5 1 3 [(.int .u8 0), (.int .u8 0), (.int .u8 0)] [(0, 1, (.int .u8 37)), (1, 1, v20), (2, 1, v24)]) fun v25 =>
 bd (b2s v25) fun v26 =>
 bd (bi .add v16 v26) fun v27 =>
 bd (ret v27) fun v28 =>
 bd (bi .add x6 (.int .i64 3)) fun v29 =>
 L6 x0 v28 x5 v29) (
 bd (f50 v4) fun v30 =>
 bd (gd v30 false (ret v4)) fun v31 =>
 bd (gd v30 false (bi .eql v31 (.int .i64 47))) fun v32 =>
 bd (pk v30 (.bool true) v32) fun v33 =>
 cnd v33 (
 bd (bi .add x6 (.int .i64 1)) fun v34 =>
 bd (ss x0 (some x6) (some v34)) fun v35 =>
 bd (bi .add x4 v35) fun v36 =>
 bd (bi .add x6 (.int .i64 1)) fun v37 =>
 L6 x0 v36 x5 v37) (
 bd (ret x4) fun v38 =>
 bd (ret x5) fun v39 =>
 bd (ret v4) fun v40 =>
 bd (bi .quo v40 (.int .i64 16)) fun v41 =>
 bd (ixs v39 v41) fun v42 =>
 bd (ret x5) fun v43 =>
 bd (ret v4) fun v44 =>
 bd (bi .rem v44 (.int .i64 16)) fun v45 =>
 bd (ixs v43 v45) fun v46 =>
 bd (bsl 5 1 3 [(.int .u8 0), (.int .u8 0), (.int .u8 0)] [(0, 1, (.int .u8 37)), (1, 1, v42), (2, 1, v46)]) fun v47 =>
 bd (b2s v47) fun v48 =>
 bd (bi .add v38 v48) fun v49 =>
 bd (ret v49) fun v50 =>
 bd (bi .add x6 (.int .i64 1)) fun v51 =>
 L6 x0 v50 x5 v51)))) (
 f21_4 x4)
theorem f21_b6_eq (L6 : AV → AV → AV → AV → M AV) (t : Tmps) : dcode E21 89 (c1 (c1 (c2 (c1 (c2 (c2 (c2 (c2 B21)))))))) t (kJ (fun t => L6 (t 0) (t 4) (t 5) (t 6)) (kB 0 (kJ (fun t => f21_4 (t 4)) K21))) = f21_b6 L6 (t 0) (t 4) (t 5) (t 6) := by kernel_rfl
noncomputable def f21_l6 : Nat → AV → AV → AV → AV → M AV
  | 0, _, _, _, _ => fail
  | n + 1, x0, x4, x5, x6 => f21_b6 (f21_l6 n) x0 x4 x5 x6
theorem f21_l6_eq (t : Tmps) : dcode E21 89 (c1 (c2 (c1 (c2 (c2 (c2 (c2 B21))))))) t (kB 0 (kJ (fun t => f21_4 (t 4)) K21)) = f21_l6 fuel (t 0) (t 4) (t 5) (t 6) :=
  dloop_eq (c := (c1 (c1 (c2 (c1 (c2 (c2 (c2 (c2 B21))))))))) (g := fun n t => f21_l6 n (t 0) (t 4) (t 5) (t 6)) (fun _ => rfl) (fun n t => f21_b6_eq (f21_l6 n) t)
noncomputable def f21_5 (x0 x4 x5 x6 : AV) : M AV :=
 f21_l6 fuel x0 x4 x5 x6
theorem f21_5_eq (t : Tmps) : dcode E21 89 (c2 (c1 (c2 (c2 (c2 (c2 B21)))))) t (kJ (fun t => f21_4 (t 4)) K21) = f21_5 (t 0) (t 4) (t 5) (t 6) := (f21_l6_eq _)
noncomputable def f21_3 (x0 x4 x5 : AV) : M AV :=
 f21_5 x0 x4 x5 (.int .i64 0)
theorem f21_3_eq (t : Tmps) : dcode E21 89 (c2 (c2 (c2 (c2 B21)))) t K21 = f21_3 (t 0) (t 4) (t 5) := (seq_eq (a := (c1 (c2 (c2 (c2 (c2 B21)))))) (b := (c2 (c2 (c2 (c2 (c2 B21)))))) (fun t => f21_4_eq t) (seq_eq (a := (c1 (c1 (c2 (c2 (c2 (c2 B21))))))) (b := (c2 (c1 (c2 (c2 (c2 (c2 B21))))))) (fun t => f21_5_eq t) (by kernel_rfl)))
noncomputable def f21_2 (x0 x4 : AV) : M AV :=
 f21_3 x0 x4 (.str [48, 49, 50, 51, 52, 53, 54, 55, 56, 57, 65, 66, 67, 68, 69, 70])
theorem f21_2_eq (t : Tmps) : dcode E21 89 (c2 (c2 (c2 B21))) t K21 = f21_2 (t 0) (t 4) := (seq_eq (a := (c1 (c2 (c2 (c2 B21))))) (b := (c2 (c2 (c2 (c2 B21))))) (fun t => f21_3_eq t) (by kernel_rfl))
noncomputable def f21_1 (x0 x4 : AV) : M AV :=
 bd (lnS x0) fun v1 =>
 bd (bi .gtr v1 (.int .i64 1000)) fun v2 =>
 cnd v2 (
 ret (.tuple [(.str []), (.bool false)])) (
 f21_2 x0 x4)
theorem f21_1_eq (t : Tmps) : dcode E21 89 (c2 (c2 B21)) t K21 = f21_1 (t 0) (t 4) := (seq_eq (a := (c1 (c2 (c2 B21)))) (b := (c2 (c2 (c2 B21)))) (fun t => f21_2_eq t) (by kernel_rfl))
noncomputable def f21_0 (x0 : AV) : M AV :=
 f21_1 x0 (.str [])
theorem f21_0_eq (t : Tmps) : dcode E21 89 (c2 B21) t K21 = f21_0 (t 0) := (seq_eq (a := (c1 (c2 B21))) (b := (c2 (c2 B21))) (fun t => f21_1_eq t) (by kernel_rfl))
noncomputable def f21 (x0 : AV) : M AV :=
 f21_0 x0
theorem f21_top (t : Tmps) : dcode E21 89 B21 t K21 = f21 (t 0) := (seq_eq (a := (c1 B21)) (b := (c2 B21)) (fun t => f21_0_eq t) (by kernel_rfl))
theorem f21_eq (x0 : AV) : dfn E21 Go.Proofs.Tryz.f21 [x0] = f21 x0 := dfn_eq (c := B21) (nt := 89) (K := K21) (by kernel_rfl) (by kernel_rfl) rfl (by kernel_rfl) (f21_top (argT [x0]))
theorem O21 : EnvOK E21 := ⟨fun g xs => (ok_if (S28 xs) (ok_if (S48 xs) (ok_if (S49 xs) (ok_if (S50 xs) ok_fail)))), ap_fail⟩
theorem S21 (xs : List AV) : CallOK Go.Proofs.Tryz.prog 3 21 xs (L1 f21 xs) := ok_L1 (fun x0 => ok_fn (E := E21) (fn := Go.Proofs.Tryz.f21) O21 rfl rfl (by kernel_rfl) (by kernel_rfl) (f21_eq x0)) xs

/-! ### etui/etuiref16.Target: function 8 -/
noncomputable def C8 (g : FuncId) (xs : List AV) : M AV := bif Nat.beq g 6 then L2 f6 xs else bif Nat.beq g 21 then L1 f21 xs else fail
noncomputable def E8 : Env := ⟨Go.Proofs.Tryz.prog, 3, C8, fun _ _ => fail, fun i => bif Nat.beq i 7 then [0, 1, 2, 3, 4, 5] else [], 8, none⟩
noncomputable def B8 : Code := bodyOf Go.Proofs.Tryz.f8
noncomputable def K8 : KT := dK Go.Proofs.Tryz.prog Go.Proofs.Tryz.f8.results.toList
noncomputable def f8 (x0 x1 : AV) : M AV :=
 bd (f6 x0 x1) fun v1 =>
 bd (ex v1 0) fun v2 =>
 bd (ex v1 1) fun v3 =>
 bd (bx 28 (.agg [(.str []), (.str []), (.str []), (.str []), (.str []), (.bool false), (.bool false), (.bool false), (.bool false)])) fun v4 =>
 bd (sta 9 v4 v2) fun _ =>
 bd (bi .neq v3 (.int .i64 0)) fun v5 =>
 cnd v5 (
 ret (.tuple [(.str []), (.str []), v3])) (
 bd (fa v4 2) fun v6 =>
 bd (ld v6) fun v7 =>
 bd (f21 v7) fun v8 =>
 bd (ex v8 0) fun v9 =>
 bd (ex v8 1) fun v10 =>
 bd (fa v4 7) fun v11 =>
 bd (ld v11) fun v12 =>
 bd (gd v12 false (ret v10)) fun v13 =>
 bd (gd v12 false (un .not v13)) fun v14 =>
 bd (pk v12 (.bool true) v14) fun v15 =>
 cnd v15 (
 ret (.tuple [(.str []), (.str []), (.int .i64 21)])) (
 bd (ret v9) fun v16 =>
 bd (fa v4 4) fun v17 =>
 bd (ld v17) fun v18 =>
 bd (ret v16) fun v19 =>
 bd (ret v18) fun v20 =>
 bd (ret (.int .i64 0)) fun v21 =>
 ret (.tuple [v19, v20, v21])))
theorem f8_eq (x0 x1 : AV) : dfn E8 Go.Proofs.Tryz.f8 [x0, x1] = f8 x0 x1 := dfn_eq (c := B8) (nt := 35) (K := K8) (by kernel_rfl) (by kernel_rfl) rfl (by kernel_rfl) (by kernel_rfl)
theorem O8 : EnvOK E8 := ⟨fun g xs => (ok_if (S6 xs) (ok_if (S21 xs) ok_fail)), ap_fail⟩
theorem S8 (xs : List AV) : CallOK Go.Proofs.Tryz.prog 3 8 xs (L2 f8 xs) := ok_L2 (fun x0 x1 => ok_fn (E := E8) (fn := Go.Proofs.Tryz.f8) O8 rfl rfl (by kernel_rfl) (by kernel_rfl) (f8_eq x0 x1)) xs

/-! ### etui/etuilaw16.of: function 9 -/
noncomputable def C9 (g : FuncId) (xs : List AV) : M AV := fail
noncomputable def E9 : Env := ⟨Go.Proofs.Tryz.prog, 3, C9, fun _ _ => fail, fun _ => [], 9, none⟩
noncomputable def B9 : Code := bodyOf Go.Proofs.Tryz.f9
noncomputable def K9 : KT := dK Go.Proofs.Tryz.prog Go.Proofs.Tryz.f9.results.toList
noncomputable def f9 (x0 : AV) : M AV :=
 bd (bx 24 x0) fun v1 =>
 bd (bx 28 (.agg [(.str []), (.str []), (.str []), (.str []), (.str []), (.bool false), (.bool false), (.bool false), (.bool false)])) fun v2 =>
 bd (fa v1 0) fun v3 =>
 bd (ld v3) fun v4 =>
 bd (fa v1 1) fun v5 =>
 bd (ld v5) fun v6 =>
 bd (fa v1 2) fun v7 =>
 bd (ld v7) fun v8 =>
 bd (fa v1 3) fun v9 =>
 bd (ld v9) fun v10 =>
 bd (fa v1 4) fun v11 =>
 bd (ld v11) fun v12 =>
 bd (fa v1 5) fun v13 =>
 bd (ld v13) fun v14 =>
 bd (fa v1 6) fun v15 =>
 bd (ld v15) fun v16 =>
 bd (fa v1 7) fun v17 =>
 bd (ld v17) fun v18 =>
 bd (fa v1 8) fun v19 =>
 bd (ld v19) fun v20 =>
 bd (bu [(.str []), (.str []), (.str []), (.str []), (.str []), (.bool false), (.bool false), (.bool false), (.bool false)] [(0, 1, v4), (1, 1, v6), (2, 1, v8), (3, 1, v10), (4, 1, v12), (5, 1, v14), (6, 1, v16), (7, 1, v18), (8, 1, v20)]) fun v21 =>
 bd (sta 9 v2 v21) fun _ =>
 bd (lda 9 v2) fun v22 => ret v22
theorem f9_eq (x0 : AV) : dfn E9 Go.Proofs.Tryz.f9 [x0] = f9 x0 := dfn_eq (c := B9) (nt := 22) (K := K9) (by kernel_rfl) (by kernel_rfl) rfl (by kernel_rfl) (by kernel_rfl)
theorem O9 : EnvOK E9 := ⟨fun g xs => ok_fail, ap_fail⟩
theorem S9 (xs : List AV) : CallOK Go.Proofs.Tryz.prog 3 9 xs (L1 f9 xs) := ok_L1 (fun x0 => ok_fn (E := E9) (fn := Go.Proofs.Tryz.f9) O9 rfl rfl (by kernel_rfl) (by kernel_rfl) (f9_eq x0)) xs

/-! ### etui/etuiref16.Relative: function 11 -/
noncomputable def C11 (g : FuncId) (xs : List AV) : M AV := bif Nat.beq g 28 then L1 f28 xs else bif Nat.beq g 29 then L1 f29 xs else bif Nat.beq g 30 then L2 f30 xs else fail
noncomputable def E11 : Env := ⟨Go.Proofs.Tryz.prog, 3, C11, fun _ _ => fail, fun i => bif Nat.beq i 6 then [0, 1, 2, 3, 4, 5, 6, 7, 8, 9, 10, 11, 12, 13, 14, 15, 16, 17, 18, 19, 20, 21, 22] else [], 11, none⟩
noncomputable def B11 : Code := bodyOf Go.Proofs.Tryz.f11
noncomputable def K11 : KT := dK Go.Proofs.Tryz.prog Go.Proofs.Tryz.f11.results.toList
noncomputable def f11_9 (x8 x10 : AV) : M AV :=
 bd (bi .add x8 x10) fun v1 =>
 bd (f29 v1) fun v2 =>
 bd (ixp 1 v2 (.int .i64 0)) fun v3 =>
 bd (ld v3) fun v4 =>
 bd (f30 v4 (.str [58])) fun v5 =>
 bd (f29 v1) fun v6 =>
 bd (ixp 1 v6 (.int .i64 0)) fun v7 =>
 bd (ld v7) fun v8 =>
 bd (lnS v8) fun v9 =>
 bd (bi .lss v5 v9) fun v10 =>
 cnd v10 (
 bd (bi .add (.str [46, 47]) v1) fun v11 =>
 ret v11) (
 ret v1)
theorem f11_9_eq (t : Tmps) : dcode E11 101 (c2 (c2 (c2 (c2 (c2 (c2 (c2 (c2 (c2 (c2 B11)))))))))) t K11 = f11_9 (t 8) (t 10) := by kernel_rfl
noncomputable def f11_b11 (L11 : AV → AV → AV → AV → M AV) (x6 x8 x10 x11 : AV) : M AV :=
 bd (lnL x6) fun v1 =>
 bd (bi .lss x11 v1) fun v2 =>
 cnd v2 (
 bd (ixp 1 x6 x11) fun v3 =>
 bd (ld v3) fun v4 =>
 bd (bi .add (.str [47]) v4) fun v5 =>
 bd (bi .add x10 v5) fun v6 =>
 bd (bi .add x11 (.int .i64 1)) fun v7 =>
 L11 x6 x8 v6 v7) (
 f11_9 x8 x10)
theorem f11_b11_eq (L11 : AV → AV → AV → AV → M AV) (t : Tmps) : dcode E11 101 (c1 (c1 (c2 (c1 (c2 (c2 (c2 (c2 (c2 (c2 (c2 (c2 (c2 B11))))))))))))) t (kJ (fun t => L11 (t 6) (t 8) (t 10) (t 11)) (kB 4 (kJ (fun t => f11_9 (t 8) (t 10)) K11))) = f11_b11 L11 (t 6) (t 8) (t 10) (t 11) := by kernel_rfl
noncomputable def f11_l11 : Nat → AV → AV → AV → AV → M AV
  | 0, _, _, _, _ => fail
  | n + 1, x6, x8, x10, x11 => f11_b11 (f11_l11 n) x6 x8 x10 x11
theorem f11_l11_eq (t : Tmps) : dcode E11 101 (c1 (c2 (c1 (c2 (c2 (c2 (c2 (c2 (c2 (c2 (c2 (c2 B11)))))))))))) t (kB 4 (kJ (fun t => f11_9 (t 8) (t 10)) K11)) = f11_l11 fuel (t 6) (t 8) (t 10) (t 11) :=
  dloop_eq (c := (c1 (c1 (c2 (c1 (c2 (c2 (c2 (c2 (c2 (c2 (c2 (c2 (c2 B11)))))))))))))) (g := fun n t => f11_l11 n (t 6) (t 8) (t 10) (t 11)) (fun _ => rfl) (fun n t => f11_b11_eq (f11_l11 n) t)
noncomputable def f11_10 (x6 x8 x10 x11 : AV) : M AV :=
 f11_l11 fuel x6 x8 x10 x11
theorem f11_10_eq (t : Tmps) : dcode E11 101 (c2 (c1 (c2 (c2 (c2 (c2 (c2 (c2 (c2 (c2 (c2 B11))))))))))) t (kJ (fun t => f11_9 (t 8) (t 10)) K11) = f11_10 (t 6) (t 8) (t 10) (t 11) := (f11_l11_eq _)
noncomputable def f11_8 (x6 x7 x8 x10 : AV) : M AV :=
 bd (bi .add x7 (.int .i64 1)) fun v1 =>
 f11_10 x6 x8 x10 v1
theorem f11_8_eq (t : Tmps) : dcode E11 101 (c2 (c2 (c2 (c2 (c2 (c2 (c2 (c2 (c2 B11))))))))) t K11 = f11_8 (t 6) (t 7) (t 8) (t 10) := (seq_eq (a := (c1 (c2 (c2 (c2 (c2 (c2 (c2 (c2 (c2 (c2 B11))))))))))) (b := (c2 (c2 (c2 (c2 (c2 (c2 (c2 (c2 (c2 (c2 B11))))))))))) (fun t => f11_9_eq t) (seq_eq (a := (c1 (c1 (c2 (c2 (c2 (c2 (c2 (c2 (c2 (c2 (c2 B11)))))))))))) (b := (c2 (c1 (c2 (c2 (c2 (c2 (c2 (c2 (c2 (c2 (c2 B11)))))))))))) (fun t => f11_10_eq t) (by kernel_rfl)))
noncomputable def f11_7 (x6 x7 x8 : AV) : M AV :=
 bd (ixp 1 x6 x7) fun v1 =>
 bd (ld v1) fun v2 =>
 f11_8 x6 x7 x8 v2
theorem f11_7_eq (t : Tmps) : dcode E11 101 (c2 (c2 (c2 (c2 (c2 (c2 (c2 (c2 B11)))))))) t K11 = f11_7 (t 6) (t 7) (t 8) := (seq_eq (a := (c1 (c2 (c2 (c2 (c2 (c2 (c2 (c2 (c2 B11)))))))))) (b := (c2 (c2 (c2 (c2 (c2 (c2 (c2 (c2 (c2 B11)))))))))) (fun t => f11_8_eq t) (by kernel_rfl))
noncomputable def f11_b13 (L13 : AV → AV → AV → AV → AV → M AV) (x5 x6 x7 x8 x9 : AV) : M AV :=
 bd (lnL x5) fun v1 =>
 bd (bi .sub v1 (.int .i64 1)) fun v2 =>
 bd (bi .lss x9 v2) fun v3 =>
 cnd v3 (
 bd (bi .add x8 (.str [46, 46, 47])) fun v4 =>
 bd (bi .add x9 (.int .i64 1)) fun v5 =>
 L13 x5 x6 x7 v4 v5) (
 f11_7 x6 x7 x8)
theorem f11_b13_eq (L13 : AV → AV → AV → AV → AV → M AV) (t : Tmps) : dcode E11 101 (c1 (c1 (c2 (c1 (c2 (c2 (c2 (c2 (c2 (c2 (c2 B11))))))))))) t (kJ (fun t => L13 (t 5) (t 6) (t 7) (t 8) (t 9)) (kB 2 (kJ (fun t => f11_7 (t 6) (t 7) (t 8)) K11))) = f11_b13 L13 (t 5) (t 6) (t 7) (t 8) (t 9) := by kernel_rfl
noncomputable def f11_l13 : Nat → AV → AV → AV → AV → AV → M AV
  | 0, _, _, _, _, _ => fail
  | n + 1, x5, x6, x7, x8, x9 => f11_b13 (f11_l13 n) x5 x6 x7 x8 x9
theorem f11_l13_eq (t : Tmps) : dcode E11 101 (c1 (c2 (c1 (c2 (c2 (c2 (c2 (c2 (c2 (c2 B11)))))))))) t (kB 2 (kJ (fun t => f11_7 (t 6) (t 7) (t 8)) K11)) = f11_l13 fuel (t 5) (t 6) (t 7) (t 8) (t 9) :=
  dloop_eq (c := (c1 (c1 (c2 (c1 (c2 (c2 (c2 (c2 (c2 (c2 (c2 B11)))))))))))) (g := fun n t => f11_l13 n (t 5) (t 6) (t 7) (t 8) (t 9)) (fun _ => rfl) (fun n t => f11_b13_eq (f11_l13 n) t)
noncomputable def f11_12 (x5 x6 x7 x8 x9 : AV) : M AV :=
 f11_l13 fuel x5 x6 x7 x8 x9
theorem f11_12_eq (t : Tmps) : dcode E11 101 (c2 (c1 (c2 (c2 (c2 (c2 (c2 (c2 (c2 B11))))))))) t (kJ (fun t => f11_7 (t 6) (t 7) (t 8)) K11) = f11_12 (t 5) (t 6) (t 7) (t 8) (t 9) := (f11_l13_eq _)
noncomputable def f11_6 (x5 x6 x7 x8 : AV) : M AV :=
 f11_12 x5 x6 x7 x8 x7
theorem f11_6_eq (t : Tmps) : dcode E11 101 (c2 (c2 (c2 (c2 (c2 (c2 (c2 B11))))))) t K11 = f11_6 (t 5) (t 6) (t 7) (t 8) := (seq_eq (a := (c1 (c2 (c2 (c2 (c2 (c2 (c2 (c2 B11))))))))) (b := (c2 (c2 (c2 (c2 (c2 (c2 (c2 (c2 B11))))))))) (fun t => f11_7_eq t) (seq_eq (a := (c1 (c1 (c2 (c2 (c2 (c2 (c2 (c2 (c2 B11)))))))))) (b := (c2 (c1 (c2 (c2 (c2 (c2 (c2 (c2 (c2 B11)))))))))) (fun t => f11_12_eq t) (by kernel_rfl)))
noncomputable def f11_5 (x5 x6 x7 : AV) : M AV :=
 f11_6 x5 x6 x7 (.str [])
theorem f11_5_eq (t : Tmps) : dcode E11 101 (c2 (c2 (c2 (c2 (c2 (c2 B11)))))) t K11 = f11_5 (t 5) (t 6) (t 7) := (seq_eq (a := (c1 (c2 (c2 (c2 (c2 (c2 (c2 B11)))))))) (b := (c2 (c2 (c2 (c2 (c2 (c2 (c2 B11)))))))) (fun t => f11_6_eq t) (by kernel_rfl))
noncomputable def f11_b14 (L14 : AV → AV → AV → M AV) (x5 x6 x7 : AV) : M AV :=
 bd (ret x7) fun v1 =>
 bd (ret x5) fun v2 =>
 bd (lnL v2) fun v3 =>
 bd (bi .sub v3 (.int .i64 1)) fun v4 =>
 bd (bi .lss v1 v4) fun v5 =>
 bd (ret v5) fun v6 =>
 bd (gd v6 true (ret x7)) fun v7 =>
 bd (gd v6 true (ret x6)) fun v8 =>
 bd (gd v6 true (lnL v8)) fun v9 =>
 bd (gd v6 true (bi .sub v9 (.int .i64 1))) fun v10 =>
 bd (gd v6 true (bi .lss v7 v10)) fun v11 =>
 bd (pk v6 v11 (.bool false)) fun v12 =>
 bd (ret v12) fun v13 =>
 bd (gd v13 true (ret x5)) fun v14 =>
 bd (gd v13 true (ret x7)) fun v15 =>
 bd (gd v13 true (ixp 1 v14 v15)) fun v16 =>
 bd (gd v13 true (ld v16)) fun v17 =>
 bd (gd v13 true (ret x6)) fun v18 =>
 bd (gd v13 true (ret x7)) fun v19 =>
 bd (gd v13 true (ixp 1 v18 v19)) fun v20 =>
 bd (gd v13 true (ld v20)) fun v21 =>
 bd (gd v13 true (bi .eql v17 v21)) fun v22 =>
 bd (pk v13 v22 (.bool false)) fun v23 =>
 cnd v23 (
 bd (bi .add x7 (.int .i64 1)) fun v24 =>
 L14 x5 x6 v24) (
 f11_5 x5 x6 x7)
theorem f11_b14_eq (L14 : AV → AV → AV → M AV) (t : Tmps) : dcode E11 101 (c1 (c1 (c1 (c2 (c2 (c2 (c2 (c2 B11)))))))) t (kJ (fun t => L14 (t 5) (t 6) (t 7)) (kB 0 (kJ (fun t => f11_5 (t 5) (t 6) (t 7)) K11))) = f11_b14 L14 (t 5) (t 6) (t 7) := by kernel_rfl
noncomputable def f11_l14 : Nat → AV → AV → AV → M AV
  | 0, _, _, _ => fail
  | n + 1, x5, x6, x7 => f11_b14 (f11_l14 n) x5 x6 x7
theorem f11_l14_eq (t : Tmps) : dcode E11 101 (c1 (c1 (c2 (c2 (c2 (c2 (c2 B11))))))) t (kB 0 (kJ (fun t => f11_5 (t 5) (t 6) (t 7)) K11)) = f11_l14 fuel (t 5) (t 6) (t 7) :=
  dloop_eq (c := (c1 (c1 (c1 (c2 (c2 (c2 (c2 (c2 B11))))))))) (g := fun n t => f11_l14 n (t 5) (t 6) (t 7)) (fun _ => rfl) (fun n t => f11_b14_eq (f11_l14 n) t)
noncomputable def f11_4 (x5 x6 x7 : AV) : M AV :=
 f11_l14 fuel x5 x6 x7
theorem f11_4_eq (t : Tmps) : dcode E11 101 (c2 (c2 (c2 (c2 (c2 B11))))) t K11 = f11_4 (t 5) (t 6) (t 7) := (seq_eq (a := (c1 (c2 (c2 (c2 (c2 (c2 B11))))))) (b := (c2 (c2 (c2 (c2 (c2 (c2 B11))))))) (fun t => f11_5_eq t) (f11_l14_eq _))
noncomputable def f11_3 (x5 x6 : AV) : M AV :=
 f11_4 x5 x6 (.int .i64 0)
theorem f11_3_eq (t : Tmps) : dcode E11 101 (c2 (c2 (c2 (c2 B11)))) t K11 = f11_3 (t 5) (t 6) := (seq_eq (a := (c1 (c2 (c2 (c2 (c2 B11)))))) (b := (c2 (c2 (c2 (c2 (c2 B11)))))) (fun t => f11_4_eq t) (by kernel_rfl))
noncomputable def f11_2 (x1 x5 : AV) : M AV :=
 bd (ss x1 (some (.int .i64 1)) none) fun v1 =>
 bd (f29 v1) fun v2 =>
 f11_3 x5 v2
theorem f11_2_eq (t : Tmps) : dcode E11 101 (c2 (c2 (c2 B11))) t K11 = f11_2 (t 1) (t 5) := (seq_eq (a := (c1 (c2 (c2 (c2 B11))))) (b := (c2 (c2 (c2 (c2 B11))))) (fun t => f11_3_eq t) (by kernel_rfl))
noncomputable def f11_1 (x0 x1 : AV) : M AV :=
 bd (ss x0 (some (.int .i64 1)) none) fun v1 =>
 bd (f29 v1) fun v2 =>
 f11_2 x1 v2
theorem f11_1_eq (t : Tmps) : dcode E11 101 (c2 (c2 B11)) t K11 = f11_1 (t 0) (t 1) := (seq_eq (a := (c1 (c2 (c2 B11)))) (b := (c2 (c2 (c2 B11)))) (fun t => f11_2_eq t) (by kernel_rfl))
noncomputable def f11_0 (x0 x1 : AV) : M AV :=
 bd (bi .neq x0 (.str [47])) fun v1 =>
 bd (gd v1 true (ret x0)) fun v2 =>
 bd (gd v1 true (f28 v2)) fun v3 =>
 bd (gd v1 true (un .not v3)) fun v4 =>
 bd (pk v1 v4 (.bool false)) fun v5 =>
 bd (gd v5 false (ret x1)) fun v6 =>
 bd (gd v5 false (f28 v6)) fun v7 =>
 bd (gd v5 false (un .not v7)) fun v8 =>
 bd (pk v5 (.bool true) v8) fun v9 =>
 cnd v9 (
 ret (.str [])) (
 f11_1 x0 x1)
theorem f11_0_eq (t : Tmps) : dcode E11 101 (c2 B11) t K11 = f11_0 (t 0) (t 1) := (seq_eq (a := (c1 (c2 B11))) (b := (c2 (c2 B11))) (fun t => f11_1_eq t) (by kernel_rfl))
noncomputable def f11 (x0 x1 : AV) : M AV :=
 f11_0 x0 x1
theorem f11_top (t : Tmps) : dcode E11 101 B11 t K11 = f11 (t 0) (t 1) := (seq_eq (a := (c1 B11)) (b := (c2 B11)) (fun t => f11_0_eq t) (by kernel_rfl))
theorem f11_eq (x0 x1 : AV) : dfn E11 Go.Proofs.Tryz.f11 [x0, x1] = f11 x0 x1 := dfn_eq (c := B11) (nt := 101) (K := K11) (by kernel_rfl) (by kernel_rfl) rfl (by kernel_rfl) (f11_top (argT [x0, x1]))
theorem O11 : EnvOK E11 := ⟨fun g xs => (ok_if (S28 xs) (ok_if (S29 xs) (ok_if (S30 xs) ok_fail))), ap_fail⟩
theorem S11 (xs : List AV) : CallOK Go.Proofs.Tryz.prog 3 11 xs (L2 f11 xs) := ok_L2 (fun x0 x1 => ok_fn (E := E11) (fn := Go.Proofs.Tryz.f11) O11 rfl rfl (by kernel_rfl) (by kernel_rfl) (f11_eq x0 x1)) xs

/-! ### etui/etuilaw16.IriTargets: function 3 -/
noncomputable def C3 (ap : FuncId → List AV → M AV) (g : FuncId) (xs : List AV) : M AV := bif Nat.beq g 4 then L0 (f4 ap) xs else bif Nat.beq g 5 then L2 (f5 ap) xs else bif Nat.beq g 6 then L2 f6 xs else bif Nat.beq g 7 then L2 (f7 ap) xs else bif Nat.beq g 8 then L2 f8 xs else bif Nat.beq g 9 then L1 f9 xs else bif Nat.beq g 10 then L2 (f10 ap) xs else bif Nat.beq g 11 then L2 f11 xs else fail
noncomputable def E3 (ap : FuncId → List AV → M AV) : Env := ⟨Go.Proofs.Tryz.prog, 3, C3 ap, ap, fun i => bif Nat.beq i 9 then [0, 1, 2, 3, 4, 6, 5, 7, 8, 9, 10, 11, 12, 13, 14, 15, 16, 17, 18, 19, 20, 21, 22, 23, 24, 25, 26, 28, 29, 27, 30, 31, 32, 33] else [], 3, none⟩
noncomputable def B3 : Code := bodyOf Go.Proofs.Tryz.f3
noncomputable def K3 : KT := dK Go.Proofs.Tryz.prog Go.Proofs.Tryz.f3.results.toList
noncomputable def f3 (ap : FuncId → List AV → M AV) (x0 x1 : AV) : M AV :=
 bd (f4 ap) fun v1 =>
 bd (un .not v1) fun v2 =>
 cnd v2 (
 ret (.bool false)) (
 bd (lnS x0) fun v3 =>
 bd (bi .gtr v3 (.int .i64 1000)) fun v4 =>
 bd (gd v4 false (ret x1)) fun v5 =>
 bd (gd v4 false (lnS v5)) fun v6 =>
 bd (gd v4 false (bi .gtr v6 (.int .i64 1200))) fun v7 =>
 bd (pk v4 (.bool true) v7) fun v8 =>
 cnd v8 (
 ret (.bool true)) (
 bd (f5 ap x0 x1) fun v9 =>
 bd (ex v9 0) fun v10 =>
 bd (ex v9 1) fun v11 =>
 bd (bx 24 (.agg [(.str []), (.str []), (.str []), (.str []), (.str []), (.bool false), (.bool false), (.bool false), (.bool false)])) fun v12 =>
 bd (sta 9 v12 v10) fun _ =>
 bd (f6 x0 x1) fun v13 =>
 bd (ex v13 0) fun v14 =>
 bd (ex v13 1) fun v15 =>
 bd (bx 28 (.agg [(.str []), (.str []), (.str []), (.str []), (.str []), (.bool false), (.bool false), (.bool false), (.bool false)])) fun v16 =>
 bd (sta 9 v16 v14) fun _ =>
 bd (f7 ap x0 x1) fun v17 =>
 bd (ex v17 0) fun v18 =>
 bd (ex v17 1) fun v19 =>
 bd (ex v17 2) fun v20 =>
 bd (f8 x0 x1) fun v21 =>
 bd (ex v21 0) fun v22 =>
 bd (ex v21 1) fun v23 =>
 bd (ex v21 2) fun v24 =>
 bd (ret v11) fun v25 =>
 bd (ret v15) fun v26 =>
 bd (bi .eql v25 v26) fun v27 =>
 bd (ret v27) fun v28 =>
 bd (gd v28 true (lda 9 v12)) fun v29 =>
 bd (gd v28 true (lda 9 v16)) fun v30 =>
 bd (gd v28 true (f9 v29)) fun v31 =>
 rck (gd v28 true (lda 9 v16)) v30 (
 bd (gd v28 true (bis [.s, .s, .s, .s, .s, .b, .b, .b, .b] .eql v31 v30)) fun v32 =>
 bd (pk v28 v32 (.bool false)) fun v33 =>
 bd (ret v33) fun v34 =>
 bd (gd v34 true (ret v20)) fun v35 =>
 bd (gd v34 true (ret v24)) fun v36 =>
 bd (gd v34 true (bi .eql v35 v36)) fun v37 =>
 bd (pk v34 v37 (.bool false)) fun v38 =>
 bd (ret v38) fun v39 =>
 bd (gd v39 true (ret v18)) fun v40 =>
 bd (gd v39 true (ret v22)) fun v41 =>
 bd (gd v39 true (bi .eql v40 v41)) fun v42 =>
 bd (pk v39 v42 (.bool false)) fun v43 =>
 bd (ret v43) fun v44 =>
 bd (gd v44 true (ret v19)) fun v45 =>
 bd (gd v44 true (ret v23)) fun v46 =>
 bd (gd v44 true (bi .eql v45 v46)) fun v47 =>
 bd (pk v44 v47 (.bool false)) fun v48 =>
 bd (ret v48) fun v49 =>
 bd (gd v49 true (ret x0)) fun v50 =>
 bd (gd v49 true (ret x1)) fun v51 =>
 bd (gd v49 true (ret x0)) fun v52 =>
 bd (gd v49 true (ret x1)) fun v53 =>
 bd (gd v49 true (f10 ap v50 v51)) fun v54 =>
 bd (gd v49 true (f11 v52 v53)) fun v55 =>
 bd (gd v49 true (bi .eql v54 v55)) fun v56 =>
 bd (pk v49 v56 (.bool false)) fun v57 =>
 bd (ret v57) fun v58 =>
 ret v58)))
theorem f3_eq (ap : FuncId → List AV → M AV) (x0 x1 : AV) : dfn (E3 ap) Go.Proofs.Tryz.f3 [x0, x1] = f3 ap x0 x1 := dfn_eq (c := B3) (nt := 84) (K := K3) (by kernel_rfl) (by kernel_rfl) rfl (by kernel_rfl) (by kernel_rfl)
theorem O3 (ap : FuncId → List AV → M AV) (hap : ApOK Go.Proofs.Tryz.prog 3 ap) : EnvOK (E3 ap) := ⟨fun g xs => (ok_if (S4 ap hap xs) (ok_if (S5 ap hap xs) (ok_if (S6 xs) (ok_if (S7 ap hap xs) (ok_if (S8 xs) (ok_if (S9 xs) (ok_if (S10 ap hap xs) (ok_if (S11 xs) ok_fail)))))))), hap⟩
theorem S3 (ap : FuncId → List AV → M AV) (hap : ApOK Go.Proofs.Tryz.prog 3 ap) (xs : List AV) : CallOK Go.Proofs.Tryz.prog 3 3 xs (L2 (f3 ap) xs) := ok_L2 (fun x0 x1 => ok_fn (E := (E3 ap)) (fn := Go.Proofs.Tryz.f3) (O3 ap hap) rfl rfl (by kernel_rfl) (by kernel_rfl) (f3_eq ap x0 x1)) xs

/-! ### etui/iri.Join$1: function 35 -/
noncomputable def C35 (g : FuncId) (xs : List AV) : M AV := bif Nat.beq g 36 then L2 f36 xs else fail
noncomputable def E35 : Env := ⟨Go.Proofs.Tryz.prog, 3, C35, fun _ _ => fail, fun _ => [], 35, none⟩
noncomputable def B35 : Code := bodyOf Go.Proofs.Tryz.f35
noncomputable def K35 : KT := dK Go.Proofs.Tryz.prog Go.Proofs.Tryz.f35.results.toList
noncomputable def f35_4 (L1 : AV → AV → AV → AV → AV → M AV) (x0 x2 x7 x8 x9 : AV) : M AV :=
 bd (bi .add x9 (.int .i64 1)) fun v1 =>
 L1 x0 x2 x7 x8 v1
theorem f35_4_eq (L1 : AV → AV → AV → AV → AV → M AV) (t : Tmps) : dcode E35 17 (c2 (c2 (c2 (c1 (c1 (c2 B35)))))) t (kJ (fun t => L1 (t 0) (t 2) (t 7) (t 8) (t 9)) (kB 0 K35)) = f35_4 L1 (t 0) (t 2) (t 7) (t 8) (t 9) := by kernel_rfl
noncomputable def f35_3 (L1 : AV → AV → AV → AV → AV → M AV) (x0 x2 x7 x8 x9 : AV) : M AV :=
 bd (ixp 1 x7 x9) fun v1 =>
 bd (ld v1) fun v2 =>
 cnd x0 (
 bd (f36 x2 v2) fun v3 =>
 f35_4 L1 x0 x2 x7 x8 x9) (
 f35_4 L1 x0 x2 x7 x8 x9)
theorem f35_3_eq (L1 : AV → AV → AV → AV → AV → M AV) (t : Tmps) : dcode E35 17 (c2 (c2 (c1 (c1 (c2 B35))))) t (kJ (fun t => L1 (t 0) (t 2) (t 7) (t 8) (t 9)) (kB 0 K35)) = f35_3 L1 (t 0) (t 2) (t 7) (t 8) (t 9) := (seq_eq (a := (c1 (c2 (c2 (c1 (c1 (c2 B35))))))) (b := (c2 (c2 (c2 (c1 (c1 (c2 B35))))))) (fun t => f35_4_eq L1 t) (by kernel_rfl))
noncomputable def f35_2 (L1 : AV → AV → AV → AV → AV → M AV) (x0 x2 x7 x8 x9 x10 : AV) : M AV :=
 cnd x10 (
 f35_3 L1 x0 x2 x7 x8 x9) (
 ret (.tuple []))
theorem f35_2_eq (L1 : AV → AV → AV → AV → AV → M AV) (t : Tmps) : dcode E35 17 (c2 (c1 (c1 (c2 B35)))) t (kJ (fun t => L1 (t 0) (t 2) (t 7) (t 8) (t 9)) (kB 0 K35)) = f35_2 L1 (t 0) (t 2) (t 7) (t 8) (t 9) (t 10) := (seq_eq (a := (c1 (c2 (c1 (c1 (c2 B35)))))) (b := (c2 (c2 (c1 (c1 (c2 B35)))))) (fun t => f35_3_eq L1 t) (by kernel_rfl))
noncomputable def f35_b1 (L1 : AV → AV → AV → AV → AV → M AV) (x0 x2 x7 x8 x9 : AV) : M AV :=
 bd (bi .lss x9 x8) fun v1 =>
 f35_2 L1 x0 x2 x7 x8 x9 v1
theorem f35_b1_eq (L1 : AV → AV → AV → AV → AV → M AV) (t : Tmps) : dcode E35 17 (c1 (c1 (c2 B35))) t (kJ (fun t => L1 (t 0) (t 2) (t 7) (t 8) (t 9)) (kB 0 K35)) = f35_b1 L1 (t 0) (t 2) (t 7) (t 8) (t 9) := (seq_eq (a := (c1 (c1 (c1 (c2 B35))))) (b := (c2 (c1 (c1 (c2 B35))))) (fun t => f35_2_eq L1 t) (by kernel_rfl))
noncomputable def f35_l1 : Nat → AV → AV → AV → AV → AV → M AV
  | 0, _, _, _, _, _ => fail
  | n + 1, x0, x2, x7, x8, x9 => f35_b1 (f35_l1 n) x0 x2 x7 x8 x9
theorem f35_l1_eq (t : Tmps) : dcode E35 17 (c1 (c2 B35)) t (kB 0 K35) = f35_l1 fuel (t 0) (t 2) (t 7) (t 8) (t 9) :=
  dloop_eq (c := (c1 (c1 (c2 B35)))) (g := fun n t => f35_l1 n (t 0) (t 2) (t 7) (t 8) (t 9)) (fun _ => rfl) (fun n t => f35_b1_eq (f35_l1 n) t)
noncomputable def f35_0 (x0 x2 x7 x8 x9 : AV) : M AV :=
 f35_l1 fuel x0 x2 x7 x8 x9
theorem f35_0_eq (t : Tmps) : dcode E35 17 (c2 B35) t K35 = f35_0 (t 0) (t 2) (t 7) (t 8) (t 9) := (f35_l1_eq _)
noncomputable def f35 (x0 x1 x2 : AV) : M AV :=
 bd (lnL x1) fun v1 =>
 f35_0 x0 x2 x1 v1 (.int .i64 0)
theorem f35_top (t : Tmps) : dcode E35 17 B35 t K35 = f35 (t 0) (t 1) (t 2) := (seq_eq (a := (c1 B35)) (b := (c2 B35)) (fun t => f35_0_eq t) (by kernel_rfl))
theorem f35_eq (x0 x1 x2 : AV) : dfn E35 Go.Proofs.Tryz.f35 [x0, x1, x2] = f35 x0 x1 x2 := dfn_eq (c := B35) (nt := 17) (K := K35) (by kernel_rfl) (by kernel_rfl) rfl (by kernel_rfl) (f35_top (argT [x0, x1, x2]))
theorem O35 : EnvOK E35 := ⟨fun g xs => (ok_if (S36 xs) ok_fail), ap_fail⟩
theorem S35 (xs : List AV) : CallOK Go.Proofs.Tryz.prog 3 35 xs (L3 f35 xs) := ok_L3 (fun x0 x1 x2 => ok_fn (E := E35) (fn := Go.Proofs.Tryz.f35) O35 rfl rfl (by kernel_rfl) (by kernel_rfl) (f35_eq x0 x1 x2)) xs

/-! ### etui/iri.scheme$1: function 61 -/
noncomputable def C61 (g : FuncId) (xs : List AV) : M AV := fail
noncomputable def E61 : Env := ⟨Go.Proofs.Tryz.prog, 3, C61, fun _ _ => fail, fun _ => [], 61, none⟩
noncomputable def B61 : Code := bodyOf Go.Proofs.Tryz.f61
noncomputable def K61 : KT := dK Go.Proofs.Tryz.prog Go.Proofs.Tryz.f61.results.toList
noncomputable def f61 (x0 : AV) : M AV :=
 bd (bi .geq x0 (.int .i32 97)) fun v1 =>
 bd (gd v1 true (ret x0)) fun v2 =>
 bd (gd v1 true (bi .leq v2 (.int .i32 122))) fun v3 =>
 bd (pk v1 v3 (.bool false)) fun v4 =>
 bd (gd v4 false (ret x0)) fun v5 =>
 bd (gd v4 false (bi .geq v5 (.int .i32 65))) fun v6 =>
 bd (gd v4 false (ret v6)) fun v7 =>
 bd (gd v7 true (ret x0)) fun v8 =>
 bd (gd v7 true (bi .leq v8 (.int .i32 90))) fun v9 =>
 bd (gd v4 false (pk v7 v9 (.bool false))) fun v10 =>
 bd (pk v4 (.bool true) v10) fun v11 =>
 ret v11
theorem f61_eq (x0 : AV) : dfn E61 Go.Proofs.Tryz.f61 [x0] = f61 x0 := dfn_eq (c := B61) (nt := 17) (K := K61) (by kernel_rfl) (by kernel_rfl) rfl (by kernel_rfl) (by kernel_rfl)
theorem O61 : EnvOK E61 := ⟨fun g xs => ok_fail, ap_fail⟩
theorem S61 (xs : List AV) : CallOK Go.Proofs.Tryz.prog 3 61 xs (L1 f61 xs) := ok_L1 (fun x0 => ok_fn (E := E61) (fn := Go.Proofs.Tryz.f61) O61 rfl rfl (by kernel_rfl) (by kernel_rfl) (f61_eq x0)) xs

/-! ### etui/iri.scheme$2: function 62 -/
noncomputable def C62 (ap : FuncId → List AV → M AV) (g : FuncId) (xs : List AV) : M AV := fail
noncomputable def E62 (ap : FuncId → List AV → M AV) : Env := ⟨Go.Proofs.Tryz.prog, 3, C62 ap, ap, fun _ => [], 62, none⟩
noncomputable def B62 : Code := bodyOf Go.Proofs.Tryz.f62
noncomputable def K62 : KT := dK Go.Proofs.Tryz.prog Go.Proofs.Tryz.f62.results.toList
noncomputable def f62 (ap : FuncId → List AV → M AV) (x0 x1 : AV) : M AV :=
 bd (ld x1) fun v1 =>
 bd (apv ap v1 [x0]) fun v2 =>
 bd (un .not v2) fun v3 =>
 bd (gd v3 true (ret x0)) fun v4 =>
 bd (gd v3 true (bi .lss v4 (.int .i32 48))) fun v5 =>
 bd (gd v3 true (ret v5)) fun v6 =>
 bd (gd v6 false (ret x0)) fun v7 =>
 bd (gd v6 false (bi .gtr v7 (.int .i32 57))) fun v8 =>
 bd (gd v3 true (pk v6 (.bool true) v8)) fun v9 =>
 bd (pk v3 v9 (.bool false)) fun v10 =>
 bd (gd v10 true (ret x0)) fun v11 =>
 bd (gd v10 true (bi .neq v11 (.int .i32 43))) fun v12 =>
 bd (pk v10 v12 (.bool false)) fun v13 =>
 bd (gd v13 true (ret x0)) fun v14 =>
 bd (gd v13 true (bi .neq v14 (.int .i32 45))) fun v15 =>
 bd (pk v13 v15 (.bool false)) fun v16 =>
 bd (gd v16 true (ret x0)) fun v17 =>
 bd (gd v16 true (bi .neq v17 (.int .i32 46))) fun v18 =>
 bd (pk v16 v18 (.bool false)) fun v19 =>
 ret v19
theorem f62_eq (ap : FuncId → List AV → M AV) (x0 x1 : AV) : dfn (E62 ap) Go.Proofs.Tryz.f62 [x0, x1] = f62 ap x0 x1 := dfn_eq (c := B62) (nt := 28) (K := K62) (by kernel_rfl) (by kernel_rfl) rfl (by kernel_rfl) (by kernel_rfl)
theorem O62 (ap : FuncId → List AV → M AV) (hap : ApOK Go.Proofs.Tryz.prog 3 ap) : EnvOK (E62 ap) := ⟨fun g xs => ok_fail, hap⟩
theorem S62 (ap : FuncId → List AV → M AV) (hap : ApOK Go.Proofs.Tryz.prog 3 ap) (xs : List AV) : CallOK Go.Proofs.Tryz.prog 3 62 xs (L2 (f62 ap) xs) := ok_L2 (fun x0 x1 => ok_fn (E := (E62 ap)) (fn := Go.Proofs.Tryz.f62) (O62 ap hap) rfl rfl (by kernel_rfl) (by kernel_rfl) (f62_eq ap x0 x1)) xs

/-! ### strings.splitSeq$1: function 84 -/
noncomputable def C84 (ap : FuncId → List AV → M AV) (g : FuncId) (xs : List AV) : M AV := bif Nat.beq g 57 then L2 f57 xs else bif Nat.beq g 85 then L1 f85 xs else fail
noncomputable def E84 (ap : FuncId → List AV → M AV) : Env := ⟨Go.Proofs.Tryz.prog, 3, C84 ap, ap, fun _ => [], 84, none⟩
noncomputable def B84 : Code := bodyOf Go.Proofs.Tryz.f84
noncomputable def K84 : KT := dK Go.Proofs.Tryz.prog Go.Proofs.Tryz.f84.results.toList
noncomputable def f84_1 (ap : FuncId → List AV → M AV) (x0 x2 : AV) : M AV :=
 bd (ld x2) fun v1 =>
 bd (apv ap x0 [v1]) fun v2 =>
 ret (.tuple [])
theorem f84_1_eq (ap : FuncId → List AV → M AV) (t : Tmps) : dcode (E84 ap) 52 (c2 (c2 B84)) t K84 = f84_1 ap (t 0) (t 2) := by kernel_rfl
noncomputable def f84_b2 (ap : FuncId → List AV → M AV) (L2 : AV → AV → AV → AV → M AV) (x0 x1 x2 x3 : AV) : M AV :=
 bd (ld x2) fun v1 =>
 bd (ld x1) fun v2 =>
 bd (f57 v1 v2) fun v3 =>
 bd (bi .lss v3 (.int .i64 0)) fun v4 =>
 cnd v4 (
 f84_1 ap x0 x2) (
 bd (ld x2) fun v5 =>
 bd (ld x3) fun v6 =>
 bd (bi .add v3 v6) fun v7 =>
 bd (ss v5 none (some v7)) fun v8 =>
 bd (apv ap x0 [v8]) fun v9 =>
 bd (un .not v9) fun v10 =>
 cnd v10 (
 ret (.tuple [])) (
 bd (ld x2) fun v11 =>
 bd (ld x1) fun v12 =>
 bd (lnS v12) fun v13 =>
 bd (bi .add v3 v13) fun v14 =>
 bd (ss v11 (some v14) none) fun v15 =>
 bd (st x2 v15) fun _ =>
 L2 x0 x1 x2 x3))
theorem f84_b2_eq (ap : FuncId → List AV → M AV) (L2 : AV → AV → AV → AV → M AV) (t : Tmps) : dcode (E84 ap) 52 (c1 (c1 (c1 (c2 B84)))) t (kJ (fun t => L2 (t 0) (t 1) (t 2) (t 3)) (kB 2 (kJ (fun t => f84_1 ap (t 0) (t 2)) K84))) = f84_b2 ap L2 (t 0) (t 1) (t 2) (t 3) := by kernel_rfl
noncomputable def f84_l2 (ap : FuncId → List AV → M AV) : Nat → AV → AV → AV → AV → M AV
  | 0, _, _, _, _ => fail
  | n + 1, x0, x1, x2, x3 => f84_b2 ap (f84_l2 ap n) x0 x1 x2 x3
theorem f84_l2_eq (ap : FuncId → List AV → M AV) (t : Tmps) : dcode (E84 ap) 52 (c1 (c1 (c2 B84))) t (kB 2 (kJ (fun t => f84_1 ap (t 0) (t 2)) K84)) = f84_l2 ap fuel (t 0) (t 1) (t 2) (t 3) :=
  dloop_eq (c := (c1 (c1 (c1 (c2 B84))))) (g := fun n t => f84_l2 ap n (t 0) (t 1) (t 2) (t 3)) (fun _ => rfl) (fun n t => f84_b2_eq ap (f84_l2 ap n) t)
noncomputable def f84_0 (ap : FuncId → List AV → M AV) (x0 x1 x2 x3 : AV) : M AV :=
 f84_l2 ap fuel x0 x1 x2 x3
theorem f84_0_eq (ap : FuncId → List AV → M AV) (t : Tmps) : dcode (E84 ap) 52 (c2 B84) t K84 = f84_0 ap (t 0) (t 1) (t 2) (t 3) := (seq_eq (a := (c1 (c2 B84))) (b := (c2 (c2 B84))) (fun t => f84_1_eq ap t) (f84_l2_eq ap _))
noncomputable def f84_4 (ap : FuncId → List AV → M AV) : M AV :=
 ret (.tuple [])
theorem f84_4_eq (ap : FuncId → List AV → M AV) (t : Tmps) : dcode (E84 ap) 52 (c2 (c1 (c2 (c1 B84)))) t (kJ (fun t => f84_0 ap (t 0) (t 1) (t 2) (t 3)) K84) = f84_4 ap := by kernel_rfl
noncomputable def f84_b5 (ap : FuncId → List AV → M AV) (L5 : AV → AV → M AV) (x0 x2 : AV) : M AV :=
 bd (ld x2) fun v1 =>
 bd (lnS v1) fun v2 =>
 bd (bi .gtr v2 (.int .i64 0)) fun v3 =>
 cnd v3 (
 bd (ld x2) fun v4 =>
 bd (f85 v4) fun v5 =>
 bd (ex v5 0) fun v6 =>
 bd (ex v5 1) fun v7 =>
 bd (ld x2) fun v8 =>
 bd (ss v8 none (some v7)) fun v9 =>
 bd (apv ap x0 [v9]) fun v10 =>
 bd (un .not v10) fun v11 =>
 cnd v11 (
 ret (.tuple [])) (
 bd (ld x2) fun v12 =>
 bd (ss v12 (some v7) none) fun v13 =>
 bd (st x2 v13) fun _ =>
 L5 x0 x2)) (
 f84_4 ap)
theorem f84_b5_eq (ap : FuncId → List AV → M AV) (L5 : AV → AV → M AV) (t : Tmps) : dcode (E84 ap) 52 (c1 (c1 (c1 (c1 (c2 (c1 B84)))))) t (kJ (fun t => L5 (t 0) (t 2)) (kB 0 (kJ (fun t => f84_4 ap) (kJ (fun t => f84_0 ap (t 0) (t 1) (t 2) (t 3)) K84)))) = f84_b5 ap L5 (t 0) (t 2) := by kernel_rfl
noncomputable def f84_l5 (ap : FuncId → List AV → M AV) : Nat → AV → AV → M AV
  | 0, _, _ => fail
  | n + 1, x0, x2 => f84_b5 ap (f84_l5 ap n) x0 x2
theorem f84_l5_eq (ap : FuncId → List AV → M AV) (t : Tmps) : dcode (E84 ap) 52 (c1 (c1 (c1 (c2 (c1 B84))))) t (kB 0 (kJ (fun t => f84_4 ap) (kJ (fun t => f84_0 ap (t 0) (t 1) (t 2) (t 3)) K84))) = f84_l5 ap fuel (t 0) (t 2) :=
  dloop_eq (c := (c1 (c1 (c1 (c1 (c2 (c1 B84))))))) (g := fun n t => f84_l5 ap n (t 0) (t 2)) (fun _ => rfl) (fun n t => f84_b5_eq ap (f84_l5 ap n) t)
noncomputable def f84_3 (ap : FuncId → List AV → M AV) (x0 x1 x2 x3 x11 : AV) : M AV :=
 cnd x11 (
 f84_l5 ap fuel x0 x2) (
 f84_0 ap x0 x1 x2 x3)
theorem f84_3_eq (ap : FuncId → List AV → M AV) (t : Tmps) : dcode (E84 ap) 52 (c2 (c1 B84)) t (kJ (fun t => f84_0 ap (t 0) (t 1) (t 2) (t 3)) K84) = f84_3 ap (t 0) (t 1) (t 2) (t 3) (t 11) := (cond_eq (a := c1 (c2 (c1 B84))) (b := c2 (c2 (c1 B84))) (seq_eq (a := (c1 (c1 (c2 (c1 B84))))) (b := (c2 (c1 (c2 (c1 B84))))) (fun t => f84_4_eq ap t) (f84_l5_eq ap _)) (by kernel_rfl))
noncomputable def f84 (ap : FuncId → List AV → M AV) (x0 x1 x2 x3 : AV) : M AV :=
 bd (ld x1) fun v1 =>
 bd (lnS v1) fun v2 =>
 bd (bi .eql v2 (.int .i64 0)) fun v3 =>
 f84_3 ap x0 x1 x2 x3 v3
theorem f84_top (ap : FuncId → List AV → M AV) (t : Tmps) : dcode (E84 ap) 52 B84 t K84 = f84 ap (t 0) (t 1) (t 2) (t 3) := (seq_eq (a := (c1 B84)) (b := (c2 B84)) (fun t => f84_0_eq ap t) (seq_eq (a := (c1 (c1 B84))) (b := (c2 (c1 B84))) (fun t => f84_3_eq ap t) (by kernel_rfl)))
theorem f84_eq (ap : FuncId → List AV → M AV) (x0 x1 x2 x3 : AV) : dfn (E84 ap) Go.Proofs.Tryz.f84 [x0, x1, x2, x3] = f84 ap x0 x1 x2 x3 := dfn_eq (c := B84) (nt := 52) (K := K84) (by kernel_rfl) (by kernel_rfl) rfl (by kernel_rfl) (f84_top ap (argT [x0, x1, x2, x3]))
theorem O84 (ap : FuncId → List AV → M AV) (hap : ApOK Go.Proofs.Tryz.prog 3 ap) : EnvOK (E84 ap) := ⟨fun g xs => (ok_if (S57 xs) (ok_if (S85 xs) ok_fail)), hap⟩
theorem S84 (ap : FuncId → List AV → M AV) (hap : ApOK Go.Proofs.Tryz.prog 3 ap) (xs : List AV) : CallOK Go.Proofs.Tryz.prog 3 84 xs (L4 (f84 ap) xs) := ok_L4 (fun x0 x1 x2 x3 => ok_fn (E := (E84 ap)) (fn := Go.Proofs.Tryz.f84) (O84 ap hap) rfl rfl (by kernel_rfl) (by kernel_rfl) (f84_eq ap x0 x1 x2 x3)) xs

/-! ### internal/bytealg.hashStr[string]: function 100 -/
noncomputable def C100 (g : FuncId) (xs : List AV) : M AV := fail
noncomputable def E100 : Env := ⟨Go.Proofs.Tryz.prog, 3, C100, fun _ _ => fail, fun _ => [], 100, none⟩
noncomputable def B100 : Code := bodyOf Go.Proofs.Tryz.f100
noncomputable def K100 : KT := dK Go.Proofs.Tryz.prog Go.Proofs.Tryz.f100.results.toList
noncomputable def f100_4 (x4 x6 : AV) : M AV :=
 ret (.tuple [x4, x6])
theorem f100_4_eq (t : Tmps) : dcode E100 39 (c2 (c2 (c2 (c2 (c2 B100))))) t K100 = f100_4 (t 4) (t 6) := by kernel_rfl
noncomputable def f100_8 (L6 : AV → AV → AV → AV → M AV) (x4 x6 x7 x8 : AV) : M AV :=
 bd (bi .shr x8 (.int .u64 1)) fun v1 =>
 L6 x4 x6 x7 v1
theorem f100_8_eq (L6 : AV → AV → AV → AV → M AV) (t : Tmps) : dcode E100 39 (c2 (c2 (c1 (c1 (c2 (c1 (c2 (c2 (c2 (c2 B100)))))))))) t (kJ (fun t => L6 (t 4) (t 6) (t 7) (t 8)) (kB 2 (kJ (fun t => f100_4 (t 4) (t 6)) K100))) = f100_8 L6 (t 4) (t 6) (t 7) (t 8) := by kernel_rfl
noncomputable def f100_9 (L6 : AV → AV → AV → AV → M AV) (x4 x6 x7 x8 : AV) : M AV :=
 bd (bi .mul x7 x7) fun v1 =>
 f100_8 L6 x4 x6 v1 x8
theorem f100_9_eq (L6 : AV → AV → AV → AV → M AV) (t : Tmps) : dcode E100 39 (c2 (c1 (c1 (c2 (c1 (c1 (c2 (c1 (c2 (c2 (c2 (c2 B100)))))))))))) t (kB 3 (kJ (fun t => f100_8 L6 (t 4) (t 6) (t 7) (t 8)) (kJ (fun t => L6 (t 4) (t 6) (t 7) (t 8)) (kB 2 (kJ (fun t => f100_4 (t 4) (t 6)) K100))))) = f100_9 L6 (t 4) (t 6) (t 7) (t 8) := by kernel_rfl
noncomputable def f100_7 (L6 : AV → AV → AV → AV → M AV) (x4 x6 x7 x8 : AV) : M AV :=
 bd (bi .and x8 (.int .i64 1)) fun v1 =>
 bd (bi .neq v1 (.int .i64 0)) fun v2 =>
 cnd v2 (
 bd (bi .mul x6 x7) fun v3 =>
 f100_9 L6 x4 v3 x7 x8) (
 f100_9 L6 x4 x6 x7 x8)
theorem f100_7_eq (L6 : AV → AV → AV → AV → M AV) (t : Tmps) : dcode E100 39 (c2 (c1 (c1 (c2 (c1 (c2 (c2 (c2 (c2 B100))))))))) t (kJ (fun t => L6 (t 4) (t 6) (t 7) (t 8)) (kB 2 (kJ (fun t => f100_4 (t 4) (t 6)) K100))) = f100_7 L6 (t 4) (t 6) (t 7) (t 8) := (seq_eq (a := (c1 (c2 (c1 (c1 (c2 (c1 (c2 (c2 (c2 (c2 B100))))))))))) (b := (c2 (c2 (c1 (c1 (c2 (c1 (c2 (c2 (c2 (c2 B100))))))))))) (fun t => f100_8_eq L6 t) (seq_eq (a := (c1 (c1 (c1 (c2 (c1 (c1 (c2 (c1 (c2 (c2 (c2 (c2 B100))))))))))))) (b := (c2 (c1 (c1 (c2 (c1 (c1 (c2 (c1 (c2 (c2 (c2 (c2 B100))))))))))))) (fun t => f100_9_eq L6 t) (by kernel_rfl)))
noncomputable def f100_b6 (L6 : AV → AV → AV → AV → M AV) (x4 x6 x7 x8 : AV) : M AV :=
 bd (bi .gtr x8 (.int .i64 0)) fun v1 =>
 cnd v1 (
 f100_7 L6 x4 x6 x7 x8) (
 f100_4 x4 x6)
theorem f100_b6_eq (L6 : AV → AV → AV → AV → M AV) (t : Tmps) : dcode E100 39 (c1 (c1 (c2 (c1 (c2 (c2 (c2 (c2 B100)))))))) t (kJ (fun t => L6 (t 4) (t 6) (t 7) (t 8)) (kB 2 (kJ (fun t => f100_4 (t 4) (t 6)) K100))) = f100_b6 L6 (t 4) (t 6) (t 7) (t 8) := (seq_eq (a := (c1 (c1 (c1 (c2 (c1 (c2 (c2 (c2 (c2 B100)))))))))) (b := (c2 (c1 (c1 (c2 (c1 (c2 (c2 (c2 (c2 B100)))))))))) (fun t => f100_7_eq L6 t) (by kernel_rfl))
noncomputable def f100_l6 : Nat → AV → AV → AV → AV → M AV
  | 0, _, _, _, _ => fail
  | n + 1, x4, x6, x7, x8 => f100_b6 (f100_l6 n) x4 x6 x7 x8
theorem f100_l6_eq (t : Tmps) : dcode E100 39 (c1 (c2 (c1 (c2 (c2 (c2 (c2 B100))))))) t (kB 2 (kJ (fun t => f100_4 (t 4) (t 6)) K100)) = f100_l6 fuel (t 4) (t 6) (t 7) (t 8) :=
  dloop_eq (c := (c1 (c1 (c2 (c1 (c2 (c2 (c2 (c2 B100))))))))) (g := fun n t => f100_l6 n (t 4) (t 6) (t 7) (t 8)) (fun _ => rfl) (fun n t => f100_b6_eq (f100_l6 n) t)
noncomputable def f100_5 (x4 x6 x7 x8 : AV) : M AV :=
 f100_l6 fuel x4 x6 x7 x8
theorem f100_5_eq (t : Tmps) : dcode E100 39 (c2 (c1 (c2 (c2 (c2 (c2 B100)))))) t (kJ (fun t => f100_4 (t 4) (t 6)) K100) = f100_5 (t 4) (t 6) (t 7) (t 8) := (f100_l6_eq _)
noncomputable def f100_3 (x0 x4 x6 x7 : AV) : M AV :=
 bd (lnS x0) fun v1 =>
 f100_5 x4 x6 x7 v1
theorem f100_3_eq (t : Tmps) : dcode E100 39 (c2 (c2 (c2 (c2 B100)))) t K100 = f100_3 (t 0) (t 4) (t 6) (t 7) := (seq_eq (a := (c1 (c2 (c2 (c2 (c2 B100)))))) (b := (c2 (c2 (c2 (c2 (c2 B100)))))) (fun t => f100_4_eq t) (seq_eq (a := (c1 (c1 (c2 (c2 (c2 (c2 B100))))))) (b := (c2 (c1 (c2 (c2 (c2 (c2 B100))))))) (fun t => f100_5_eq t) (by kernel_rfl)))
noncomputable def f100_2 (x0 x4 : AV) : M AV :=
 f100_3 x0 x4 (.int .u32 1) (.int .u32 16777619)
theorem f100_2_eq (t : Tmps) : dcode E100 39 (c2 (c2 (c2 B100))) t K100 = f100_2 (t 0) (t 4) := (seq_eq (a := (c1 (c2 (c2 (c2 B100))))) (b := (c2 (c2 (c2 (c2 B100))))) (fun t => f100_3_eq t) (by kernel_rfl))
noncomputable def f100_b11 (L11 : AV → AV → AV → M AV) (x0 x4 x5 : AV) : M AV :=
 bd (lnS x0) fun v1 =>
 bd (bi .lss x5 v1) fun v2 =>
 cnd v2 (
 bd (bi .mul x4 (.int .u32 16777619)) fun v3 =>
 bd (ixs x0 x5) fun v4 =>
 bd (ci .u32 v4) fun v5 =>
 bd (bi .add v3 v5) fun v6 =>
 bd (bi .add x5 (.int .i64 1)) fun v7 =>
 L11 x0 v6 v7) (
 f100_2 x0 x4)
theorem f100_b11_eq (L11 : AV → AV → AV → M AV) (t : Tmps) : dcode E100 39 (c1 (c1 (c2 (c1 (c2 (c2 B100)))))) t (kJ (fun t => L11 (t 0) (t 4) (t 5)) (kB 0 (kJ (fun t => f100_2 (t 0) (t 4)) K100))) = f100_b11 L11 (t 0) (t 4) (t 5) := by kernel_rfl
noncomputable def f100_l11 : Nat → AV → AV → AV → M AV
  | 0, _, _, _ => fail
  | n + 1, x0, x4, x5 => f100_b11 (f100_l11 n) x0 x4 x5
theorem f100_l11_eq (t : Tmps) : dcode E100 39 (c1 (c2 (c1 (c2 (c2 B100))))) t (kB 0 (kJ (fun t => f100_2 (t 0) (t 4)) K100)) = f100_l11 fuel (t 0) (t 4) (t 5) :=
  dloop_eq (c := (c1 (c1 (c2 (c1 (c2 (c2 B100))))))) (g := fun n t => f100_l11 n (t 0) (t 4) (t 5)) (fun _ => rfl) (fun n t => f100_b11_eq (f100_l11 n) t)
noncomputable def f100_10 (x0 x4 x5 : AV) : M AV :=
 f100_l11 fuel x0 x4 x5
theorem f100_10_eq (t : Tmps) : dcode E100 39 (c2 (c1 (c2 (c2 B100)))) t (kJ (fun t => f100_2 (t 0) (t 4)) K100) = f100_10 (t 0) (t 4) (t 5) := (f100_l11_eq _)
noncomputable def f100_1 (x0 x4 : AV) : M AV :=
 f100_10 x0 x4 (.int .i64 0)
theorem f100_1_eq (t : Tmps) : dcode E100 39 (c2 (c2 B100)) t K100 = f100_1 (t 0) (t 4) := (seq_eq (a := (c1 (c2 (c2 B100)))) (b := (c2 (c2 (c2 B100)))) (fun t => f100_2_eq t) (seq_eq (a := (c1 (c1 (c2 (c2 B100))))) (b := (c2 (c1 (c2 (c2 B100))))) (fun t => f100_10_eq t) (by kernel_rfl)))
noncomputable def f100_0 (x0 : AV) : M AV :=
 f100_1 x0 (.int .u32 0)
theorem f100_0_eq (t : Tmps) : dcode E100 39 (c2 B100) t K100 = f100_0 (t 0) := (seq_eq (a := (c1 (c2 B100))) (b := (c2 (c2 B100))) (fun t => f100_1_eq t) (by kernel_rfl))
noncomputable def f100 (x0 : AV) : M AV :=
 f100_0 x0
theorem f100_top (t : Tmps) : dcode E100 39 B100 t K100 = f100 (t 0) := (seq_eq (a := (c1 B100)) (b := (c2 B100)) (fun t => f100_0_eq t) (by kernel_rfl))
theorem f100_eq (x0 : AV) : dfn E100 Go.Proofs.Tryz.f100 [x0] = f100 x0 := dfn_eq (c := B100) (nt := 39) (K := K100) (by kernel_rfl) (by kernel_rfl) rfl (by kernel_rfl) (f100_top (argT [x0]))
theorem O100 : EnvOK E100 := ⟨fun g xs => ok_fail, ap_fail⟩
theorem S100 (xs : List AV) : CallOK Go.Proofs.Tryz.prog 3 100 xs (L1 f100 xs) := ok_L1 (fun x0 => ok_fn (E := E100) (fn := Go.Proofs.Tryz.f100) O100 rfl rfl (by kernel_rfl) (by kernel_rfl) (f100_eq x0)) xs

/-! ### internal/bytealg.IndexRabinKarp[string]: function 92 -/
noncomputable def C92 (g : FuncId) (xs : List AV) : M AV := bif Nat.beq g 100 then L1 f100 xs else fail
noncomputable def E92 : Env := ⟨Go.Proofs.Tryz.prog, 3, C92, fun _ _ => fail, fun _ => [], 92, none⟩
noncomputable def B92 : Code := bodyOf Go.Proofs.Tryz.f92
noncomputable def K92 : KT := dK Go.Proofs.Tryz.prog Go.Proofs.Tryz.f92.results.toList
noncomputable def f92_6 : M AV :=
 ret (.int .i64 (-1))
theorem f92_6_eq (t : Tmps) : dcode E92 81 (c2 (c2 (c2 (c2 (c2 (c2 (c2 B92))))))) t K92 = f92_6 := by kernel_rfl
noncomputable def f92_b8 (L8 : AV → AV → AV → AV → AV → AV → AV → M AV) (x0 x1 x5 x6 x7 x8 x10 : AV) : M AV :=
 bd (lnS x0) fun v1 =>
 bd (bi .lss x10 v1) fun v2 =>
 cnd v2 (
 bd (bi .mul x8 (.int .u32 16777619)) fun v3 =>
 bd (ixs x0 x10) fun v4 =>
 bd (ci .u32 v4) fun v5 =>
 bd (bi .add v3 v5) fun v6 =>
 bd (bi .sub x10 x7) fun v7 =>
 bd (ixs x0 v7) fun v8 =>
 bd (ci .u32 v8) fun v9 =>
 bd (bi .mul x6 v9) fun v10 =>
 bd (bi .sub v6 v10) fun v11 =>
 bd (bi .add x10 (.int .i64 1)) fun v12 =>
 bd (bi .eql v11 x5) fun v13 =>
 bd (gd v13 true (ret x0)) fun v14 =>
 bd (gd v13 true (ret v12)) fun v15 =>
 bd (gd v13 true (ret x7)) fun v16 =>
 bd (gd v13 true (bi .sub v15 v16)) fun v17 =>
 bd (gd v13 true (ret v12)) fun v18 =>
 bd (gd v13 true (ss v14 (some v17) (some v18))) fun v19 =>
 bd (gd v13 true (ret x1)) fun v20 =>
 bd (gd v13 true (bi .eql v19 v20)) fun v21 =>
 bd (pk v13 v21 (.bool false)) fun v22 =>
 cnd v22 (
 bd (bi .sub v12 x7) fun v23 =>
 ret v23) (
 L8 x0 x1 x5 x6 x7 v11 v12)) (
 f92_6)
theorem f92_b8_eq (L8 : AV → AV → AV → AV → AV → AV → AV → M AV) (t : Tmps) : dcode E92 81 (c1 (c1 (c2 (c1 (c2 (c2 (c2 (c2 (c2 (c2 B92)))))))))) t (kJ (fun t => L8 (t 0) (t 1) (t 5) (t 6) (t 7) (t 8) (t 10)) (kB 2 (kJ (fun t => f92_6) K92))) = f92_b8 L8 (t 0) (t 1) (t 5) (t 6) (t 7) (t 8) (t 10) := by kernel_rfl
noncomputable def f92_l8 : Nat → AV → AV → AV → AV → AV → AV → AV → M AV
  | 0, _, _, _, _, _, _, _ => fail
  | n + 1, x0, x1, x5, x6, x7, x8, x10 => f92_b8 (f92_l8 n) x0 x1 x5 x6 x7 x8 x10
theorem f92_l8_eq (t : Tmps) : dcode E92 81 (c1 (c2 (c1 (c2 (c2 (c2 (c2 (c2 (c2 B92))))))))) t (kB 2 (kJ (fun t => f92_6) K92)) = f92_l8 fuel (t 0) (t 1) (t 5) (t 6) (t 7) (t 8) (t 10) :=
  dloop_eq (c := (c1 (c1 (c2 (c1 (c2 (c2 (c2 (c2 (c2 (c2 B92))))))))))) (g := fun n t => f92_l8 n (t 0) (t 1) (t 5) (t 6) (t 7) (t 8) (t 10)) (fun _ => rfl) (fun n t => f92_b8_eq (f92_l8 n) t)
noncomputable def f92_7 (x0 x1 x5 x6 x7 x8 x10 : AV) : M AV :=
 f92_l8 fuel x0 x1 x5 x6 x7 x8 x10
theorem f92_7_eq (t : Tmps) : dcode E92 81 (c2 (c1 (c2 (c2 (c2 (c2 (c2 (c2 B92)))))))) t (kJ (fun t => f92_6) K92) = f92_7 (t 0) (t 1) (t 5) (t 6) (t 7) (t 8) (t 10) := (f92_l8_eq _)
noncomputable def f92_5 (x0 x1 x5 x6 x7 x8 : AV) : M AV :=
 f92_7 x0 x1 x5 x6 x7 x8 x7
theorem f92_5_eq (t : Tmps) : dcode E92 81 (c2 (c2 (c2 (c2 (c2 (c2 B92)))))) t K92 = f92_5 (t 0) (t 1) (t 5) (t 6) (t 7) (t 8) := (seq_eq (a := (c1 (c2 (c2 (c2 (c2 (c2 (c2 B92)))))))) (b := (c2 (c2 (c2 (c2 (c2 (c2 (c2 B92)))))))) (fun t => f92_6_eq t) (seq_eq (a := (c1 (c1 (c2 (c2 (c2 (c2 (c2 (c2 B92))))))))) (b := (c2 (c1 (c2 (c2 (c2 (c2 (c2 (c2 B92))))))))) (fun t => f92_7_eq t) (by kernel_rfl)))
noncomputable def f92_4 (x0 x1 x5 x6 x7 x8 : AV) : M AV :=
 bd (bi .eql x8 x5) fun v1 =>
 bd (gd v1 true (ret x0)) fun v2 =>
 bd (gd v1 true (ret x7)) fun v3 =>
 bd (gd v1 true (ss v2 none (some v3))) fun v4 =>
 bd (gd v1 true (ret x1)) fun v5 =>
 bd (gd v1 true (bi .eql v4 v5)) fun v6 =>
 bd (pk v1 v6 (.bool false)) fun v7 =>
 cnd v7 (
 ret (.int .i64 0)) (
 f92_5 x0 x1 x5 x6 x7 x8)
theorem f92_4_eq (t : Tmps) : dcode E92 81 (c2 (c2 (c2 (c2 (c2 B92))))) t K92 = f92_4 (t 0) (t 1) (t 5) (t 6) (t 7) (t 8) := (seq_eq (a := (c1 (c2 (c2 (c2 (c2 (c2 B92))))))) (b := (c2 (c2 (c2 (c2 (c2 (c2 B92))))))) (fun t => f92_5_eq t) (by kernel_rfl))
noncomputable def f92_b10 (L10 : AV → AV → AV → AV → AV → AV → AV → M AV) (x0 x1 x5 x6 x7 x8 x9 : AV) : M AV :=
 bd (bi .lss x9 x7) fun v1 =>
 cnd v1 (
 bd (bi .mul x8 (.int .u32 16777619)) fun v2 =>
 bd (ixs x0 x9) fun v3 =>
 bd (ci .u32 v3) fun v4 =>
 bd (bi .add v2 v4) fun v5 =>
 bd (bi .add x9 (.int .i64 1)) fun v6 =>
 L10 x0 x1 x5 x6 x7 v5 v6) (
 f92_4 x0 x1 x5 x6 x7 x8)
theorem f92_b10_eq (L10 : AV → AV → AV → AV → AV → AV → AV → M AV) (t : Tmps) : dcode E92 81 (c1 (c1 (c2 (c1 (c2 (c2 (c2 (c2 B92)))))))) t (kJ (fun t => L10 (t 0) (t 1) (t 5) (t 6) (t 7) (t 8) (t 9)) (kB 0 (kJ (fun t => f92_4 (t 0) (t 1) (t 5) (t 6) (t 7) (t 8)) K92))) = f92_b10 L10 (t 0) (t 1) (t 5) (t 6) (t 7) (t 8) (t 9) := by kernel_rfl
noncomputable def f92_l10 : Nat → AV → AV → AV → AV → AV → AV → AV → M AV
  | 0, _, _, _, _, _, _, _ => fail
  | n + 1, x0, x1, x5, x6, x7, x8, x9 => f92_b10 (f92_l10 n) x0 x1 x5 x6 x7 x8 x9
theorem f92_l10_eq (t : Tmps) : dcode E92 81 (c1 (c2 (c1 (c2 (c2 (c2 (c2 B92))))))) t (kB 0 (kJ (fun t => f92_4 (t 0) (t 1) (t 5) (t 6) (t 7) (t 8)) K92)) = f92_l10 fuel (t 0) (t 1) (t 5) (t 6) (t 7) (t 8) (t 9) :=
  dloop_eq (c := (c1 (c1 (c2 (c1 (c2 (c2 (c2 (c2 B92))))))))) (g := fun n t => f92_l10 n (t 0) (t 1) (t 5) (t 6) (t 7) (t 8) (t 9)) (fun _ => rfl) (fun n t => f92_b10_eq (f92_l10 n) t)
noncomputable def f92_9 (x0 x1 x5 x6 x7 x8 x9 : AV) : M AV :=
 f92_l10 fuel x0 x1 x5 x6 x7 x8 x9
theorem f92_9_eq (t : Tmps) : dcode E92 81 (c2 (c1 (c2 (c2 (c2 (c2 B92)))))) t (kJ (fun t => f92_4 (t 0) (t 1) (t 5) (t 6) (t 7) (t 8)) K92) = f92_9 (t 0) (t 1) (t 5) (t 6) (t 7) (t 8) (t 9) := (f92_l10_eq _)
noncomputable def f92_3 (x0 x1 x5 x6 x7 x8 : AV) : M AV :=
 f92_9 x0 x1 x5 x6 x7 x8 (.int .i64 0)
theorem f92_3_eq (t : Tmps) : dcode E92 81 (c2 (c2 (c2 (c2 B92)))) t K92 = f92_3 (t 0) (t 1) (t 5) (t 6) (t 7) (t 8) := (seq_eq (a := (c1 (c2 (c2 (c2 (c2 B92)))))) (b := (c2 (c2 (c2 (c2 (c2 B92)))))) (fun t => f92_4_eq t) (seq_eq (a := (c1 (c1 (c2 (c2 (c2 (c2 B92))))))) (b := (c2 (c1 (c2 (c2 (c2 (c2 B92))))))) (fun t => f92_9_eq t) (by kernel_rfl)))
noncomputable def f92_2 (x0 x1 x5 x6 x7 : AV) : M AV :=
 f92_3 x0 x1 x5 x6 x7 (.int .u32 0)
theorem f92_2_eq (t : Tmps) : dcode E92 81 (c2 (c2 (c2 B92))) t K92 = f92_2 (t 0) (t 1) (t 5) (t 6) (t 7) := (seq_eq (a := (c1 (c2 (c2 (c2 B92))))) (b := (c2 (c2 (c2 (c2 B92))))) (fun t => f92_3_eq t) (by kernel_rfl))
noncomputable def f92_1 (x0 x1 x5 x6 : AV) : M AV :=
 bd (lnS x1) fun v1 =>
 f92_2 x0 x1 x5 x6 v1
theorem f92_1_eq (t : Tmps) : dcode E92 81 (c2 (c2 B92)) t K92 = f92_1 (t 0) (t 1) (t 5) (t 6) := (seq_eq (a := (c1 (c2 (c2 B92)))) (b := (c2 (c2 (c2 B92)))) (fun t => f92_2_eq t) (by kernel_rfl))
noncomputable def f92_0 (x0 x1 : AV) : M AV :=
 bd (f100 x1) fun v1 =>
 bd (ex v1 0) fun v2 =>
 bd (ex v1 1) fun v3 =>
 f92_1 x0 x1 v2 v3
theorem f92_0_eq (t : Tmps) : dcode E92 81 (c2 B92) t K92 = f92_0 (t 0) (t 1) := (seq_eq (a := (c1 (c2 B92))) (b := (c2 (c2 B92))) (fun t => f92_1_eq t) (by kernel_rfl))
noncomputable def f92 (x0 x1 : AV) : M AV :=
 f92_0 x0 x1
theorem f92_top (t : Tmps) : dcode E92 81 B92 t K92 = f92 (t 0) (t 1) := (seq_eq (a := (c1 B92)) (b := (c2 B92)) (fun t => f92_0_eq t) (by kernel_rfl))
theorem f92_eq (x0 x1 : AV) : dfn E92 Go.Proofs.Tryz.f92 [x0, x1] = f92 x0 x1 := dfn_eq (c := B92) (nt := 81) (K := K92) (by kernel_rfl) (by kernel_rfl) rfl (by kernel_rfl) (f92_top (argT [x0, x1]))
theorem O92 : EnvOK E92 := ⟨fun g xs => (ok_if (S100 xs) ok_fail), ap_fail⟩
theorem S92 (xs : List AV) : CallOK Go.Proofs.Tryz.prog 3 92 xs (L2 f92 xs) := ok_L2 (fun x0 x1 => ok_fn (E := E92) (fn := Go.Proofs.Tryz.f92) O92 rfl rfl (by kernel_rfl) (by kernel_rfl) (f92_eq x0 x1)) xs

/-! ### gosem.cut.vars: function 124 -/
noncomputable def C124 (g : FuncId) (xs : List AV) : M AV := fail
noncomputable def E124 : Env := ⟨Go.Proofs.Tryz.prog, 3, C124, fun _ _ => fail, fun _ => [], 124, none⟩
noncomputable def B124 : Code := bodyOf Go.Proofs.Tryz.f124
noncomputable def K124 : KT := dK Go.Proofs.Tryz.prog Go.Proofs.Tryz.f124.results.toList
noncomputable def f124 : M AV :=
 bd (bu [(.int .u8 0), (.int .u8 0)] [(0, 1, (.int .u8 128)), (1, 1, (.int .u8 191))]) fun v1 =>
 bd (bu [(.int .u8 0), (.int .u8 0)] [(0, 1, (.int .u8 160)), (1, 1, (.int .u8 191))]) fun v2 =>
 bd (bu [(.int .u8 0), (.int .u8 0)] [(0, 1, (.int .u8 128)), (1, 1, (.int .u8 159))]) fun v3 =>
 bd (bu [(.int .u8 0), (.int .u8 0)] [(0, 1, (.int .u8 144)), (1, 1, (.int .u8 191))]) fun v4 =>
 bd (bu [(.int .u8 0), (.int .u8 0)] [(0, 1, (.int .u8 128)), (1, 1, (.int .u8 143))]) fun v5 =>
 bd (bu (rep [(.int .u8 0)] 32) [(0, 2, v1), (2, 2, v2), (4, 2, v3), (6, 2, v4), (8, 2, v5)]) fun v6 =>
 bd (sta 32 (.ptr (some (2, 0))) v6) fun _ =>
 ret (.tuple [])
theorem f124_eq : dfn E124 Go.Proofs.Tryz.f124 [] = f124 := dfn_eq (c := B124) (nt := 6) (K := K124) (by kernel_rfl) (by kernel_rfl) rfl (by kernel_rfl) (by kernel_rfl)
theorem O124 : EnvOK E124 := ⟨fun g xs => ok_fail, ap_fail⟩
theorem S124 (xs : List AV) : CallOK Go.Proofs.Tryz.prog 3 124 xs (L0 f124 xs) := ok_L0 (ok_fn (E := E124) (fn := Go.Proofs.Tryz.f124) O124 rfl rfl (by kernel_rfl) (by kernel_rfl) f124_eq) xs

/-! ### Function values -/
noncomputable def tabF (ap : FuncId → List AV → M AV) (g : FuncId) (xs : List AV) : M AV := bif Nat.beq g 35 then L3 f35 xs else bif Nat.beq g 61 then L1 f61 xs else bif Nat.beq g 62 then L2 (f62 ap) xs else bif Nat.beq g 84 then L4 (f84 ap) xs else fail
noncomputable def tabE (ap : FuncId → List AV → M AV) (fn : Nat) : Option Env := bif Nat.beq fn 22 then some (E22 ap) else none
noncomputable def apN : Nat → FuncId → List AV → M AV
  | 0 => fun _ _ => fail
  | d + 1 => apTab (tabF (apN d)) (tabE (apN d))
theorem apN_ok : ∀ d, ApOK Go.Proofs.Tryz.prog 3 (apN d)
  | 0 => ap_fail
  | d + 1 => by
    have hap := apN_ok d
    unfold apN
    generalize apN d = ap at hap
    exact ap_tab (fun g xs => (ok_if (S35 xs) (ok_if (S61 xs) (ok_if (S62 ap hap xs) (ok_if (S84 ap hap xs) ok_fail))))) (fun fn E => (es_if (O22 ap hap) rfl rfl rfl (es_none fn E)))
end Go.Proofs.YtgljgjnhagidnaaGreatDoor.Den
