/- Each function of the program as a denotation, and that its calls come to what the denotation says. -/
import Derived.Test.YtgljgjnhagidnaaDoorProg
import Derived.KernelRfl
import Derived.Test.YtgljgjnhagidnaaDoorDen04
namespace Go.Proofs.YtgljgjnhagidnaaDoor.Den
open Go Go.Dn Go.Dn.M Go.Shelf
set_option maxRecDepth 100000
set_option linter.unusedVariables false

def lays219_ren : Go.Shelf.Ren := ⟨fun | 219 => 72 | 217 => 81 | 225 => 88 | 224 => 89 | 267 => 90 | 266 => 97 | 314 => 99 | n => n, fun | 9 => 9 | 3 => 3 | 4 => 4 | 5 => 5 | 46 => 84 | 146 => 96 | 51 => 95 | n => n, fun | 1 => 0 | n => n⟩
theorem lays219 : Go.Proofs.Lays.n219 Tryd.prog lays219_ren where
  mixed := by kernel_rfl
  f217 := Tryd.func81.trans (congrArg some (by kernel_rfl))
  f219 := Tryd.func72.trans (congrArg some (by kernel_rfl))
  f224 := Tryd.func89.trans (congrArg some (by kernel_rfl))
  f225 := Tryd.func88.trans (congrArg some (by kernel_rfl))
  f266 := Tryd.func97.trans (congrArg some (by kernel_rfl))
  f267 := Tryd.func90.trans (congrArg some (by kernel_rfl))
  f314 := Tryd.func99.trans (congrArg some (by kernel_rfl))
  t3 := Tryd.underlying3
  a3 := Tryd.isAgg3
  z3 := Tryd.sizeOf3
  v3 := Tryd.zeroValue3
  t4 := Tryd.underlying4
  a4 := Tryd.isAgg4
  z4 := Tryd.sizeOf4
  v4 := Tryd.zeroValue4
  t5 := Tryd.underlying5
  a5 := Tryd.isAgg5
  z5 := Tryd.sizeOf5
  v5 := Tryd.zeroValue5
  t9 := Tryd.underlying9
  a9 := Tryd.isAgg9
  z9 := Tryd.sizeOf9
  v9 := Tryd.zeroValue9
  t46 := Tryd.underlying84
  a46 := Tryd.isAgg84
  z46 := Tryd.sizeOf84
  v46 := Tryd.zeroValue84
  t51 := Tryd.underlying95
  a51 := Tryd.isAgg95
  z51 := Tryd.sizeOf95
  v51 := Tryd.zeroValue95
  t146 := Tryd.underlying96
  a146 := Tryd.isAgg96
  z146 := Tryd.sizeOf96
  v146 := Tryd.zeroValue96
  g1 := by kernel_rfl
theorem N72 (xs : List AV) : CallOK Go.Proofs.Tryd.prog 3 72 xs (L2 (nIndex 0) xs) := nIndex_ok (g := 0) (fn := Go.Proofs.Tryd.f72) (by decide) (by kernel_rfl) (by kernel_rfl) (by kernel_rfl) (fun s sub m w h1 h2 => Any.stringslite_Index lays219 s sub m w h1 h2) xs
theorem N73 (xs : List AV) : CallOK Go.Proofs.Tryd.prog 3 73 xs (L1 nNoEscape xs) := nNoEscape_ok (fn := Go.Proofs.Tryd.f73) (by kernel_rfl) (by kernel_rfl) (by kernel_rfl) (by kernel_rfl) (by kernel_rfl) xs
theorem N88 (xs : List AV) : CallOK Go.Proofs.Tryd.prog 3 88 xs (L2 (nIndexString 0) xs) := nIndexString_ok (g := 0) (fn := Go.Proofs.Tryd.f88) (by decide) (by kernel_rfl) (by kernel_rfl) (by kernel_rfl) (by kernel_rfl) (by kernel_rfl) (by kernel_rfl) xs
theorem N95 (xs : List AV) : CallOK Go.Proofs.Tryd.prog 3 95 xs (L2 nCountString xs) := nCountString_ok (fn := Go.Proofs.Tryd.f95) (by kernel_rfl) (by kernel_rfl) (by kernel_rfl) (by kernel_rfl) (by kernel_rfl) xs
theorem N96 (xs : List AV) : CallOK Go.Proofs.Tryd.prog 3 96 xs (L1 (nMakeNoZero 5) xs) := nMakeNoZero_ok (t := 54) (e := 5) (fn := Go.Proofs.Tryd.f96) (by kernel_rfl) (by kernel_rfl) (by kernel_rfl) (by kernel_rfl) (by kernel_rfl) (by kernel_rfl) xs
theorem N97 (xs : List AV) : CallOK Go.Proofs.Tryd.prog 3 97 xs (L2 nIndexByte xs) := nIndexByte_ok (fn := Go.Proofs.Tryd.f97) (by kernel_rfl) (by kernel_rfl) (by kernel_rfl) (by kernel_rfl) (by kernel_rfl) xs

/-! ### internal/stringslite.IndexByte: function 81 -/
noncomputable def C81 (g : FuncId) (xs : List AV) : M AV := bif Nat.beq g 97 then L2 nIndexByte xs else fail
noncomputable def E81 : Env := ⟨Go.Proofs.Tryd.prog, 3, C81, fun _ _ => fail, fun _ => [], 81, none⟩
noncomputable def B81 : Code := bodyOf Go.Proofs.Tryd.f81
noncomputable def K81 : KT := dK Go.Proofs.Tryd.prog Go.Proofs.Tryd.f81.results.toList
noncomputable def f81 (x0 x1 : AV) : M AV :=
 bd (nIndexByte x0 x1) fun v1 =>
 ret v1
theorem f81_eq (x0 x1 : AV) : dfn E81 Go.Proofs.Tryd.f81 [x0, x1] = f81 x0 x1 := dfn_eq (c := B81) (nt := 8) (K := K81) (by kernel_rfl) (by kernel_rfl) rfl (by kernel_rfl) (by kernel_rfl)
theorem O81 : EnvOK E81 := ⟨fun g xs => (ok_if (N97 xs) ok_fail), ap_fail⟩
theorem S81 (xs : List AV) : CallOK Go.Proofs.Tryd.prog 3 81 xs (L2 f81 xs) := ok_L2 (fun x0 x1 => ok_fn (E := E81) (fn := Go.Proofs.Tryd.f81) O81 rfl rfl (by kernel_rfl) (by kernel_rfl) (f81_eq x0 x1)) xs

/-! ### strings.IndexByte: function 68 -/
noncomputable def C68 (g : FuncId) (xs : List AV) : M AV := bif Nat.beq g 81 then L2 f81 xs else fail
noncomputable def E68 : Env := ⟨Go.Proofs.Tryd.prog, 3, C68, fun _ _ => fail, fun _ => [], 68, none⟩
noncomputable def B68 : Code := bodyOf Go.Proofs.Tryd.f68
noncomputable def K68 : KT := dK Go.Proofs.Tryd.prog Go.Proofs.Tryd.f68.results.toList
noncomputable def f68 (x0 x1 : AV) : M AV :=
 bd (f81 x0 x1) fun v1 =>
 ret v1
theorem f68_eq (x0 x1 : AV) : dfn E68 Go.Proofs.Tryd.f68 [x0, x1] = f68 x0 x1 := dfn_eq (c := B68) (nt := 8) (K := K68) (by kernel_rfl) (by kernel_rfl) rfl (by kernel_rfl) (by kernel_rfl)
theorem O68 : EnvOK E68 := ⟨fun g xs => (ok_if (S81 xs) ok_fail), ap_fail⟩
theorem S68 (xs : List AV) : CallOK Go.Proofs.Tryd.prog 3 68 xs (L2 f68 xs) := ok_L2 (fun x0 x1 => ok_fn (E := E68) (fn := Go.Proofs.Tryd.f68) O68 rfl rfl (by kernel_rfl) (by kernel_rfl) (f68_eq x0 x1)) xs

/-! ### internal/bytealg.Cutover: function 89 -/
noncomputable def C89 (g : FuncId) (xs : List AV) : M AV := fail
noncomputable def E89 : Env := ⟨Go.Proofs.Tryd.prog, 3, C89, fun _ _ => fail, fun _ => [], 89, none⟩
noncomputable def B89 : Code := bodyOf Go.Proofs.Tryd.f89
noncomputable def K89 : KT := dK Go.Proofs.Tryd.prog Go.Proofs.Tryd.f89.results.toList
noncomputable def f89 (x0 : AV) : M AV :=
 bd (bi .add x0 (.int .i64 16)) fun v1 =>
 bd (bi .quo v1 (.int .i64 8)) fun v2 =>
 ret v2
theorem f89_eq (x0 : AV) : dfn E89 Go.Proofs.Tryd.f89 [x0] = f89 x0 := dfn_eq (c := B89) (nt := 6) (K := K89) (by kernel_rfl) (by kernel_rfl) rfl (by kernel_rfl) (by kernel_rfl)
theorem O89 : EnvOK E89 := ⟨fun g xs => ok_fail, ap_fail⟩
theorem S89 (xs : List AV) : CallOK Go.Proofs.Tryd.prog 3 89 xs (L1 f89 xs) := ok_L1 (fun x0 => ok_fn (E := E89) (fn := Go.Proofs.Tryd.f89) O89 rfl rfl (by kernel_rfl) (by kernel_rfl) (f89_eq x0)) xs

/-! ### unicode/utf8.ValidRune: function 98 -/
noncomputable def C98 (g : FuncId) (xs : List AV) : M AV := fail
noncomputable def E98 : Env := ⟨Go.Proofs.Tryd.prog, 3, C98, fun _ _ => fail, fun _ => [], 98, none⟩
noncomputable def B98 : Code := bodyOf Go.Proofs.Tryd.f98
noncomputable def K98 : KT := dK Go.Proofs.Tryd.prog Go.Proofs.Tryd.f98.results.toList
noncomputable def f98 (x0 : AV) : M AV :=
 bd (bi .leq (.int .i32 0) x0) fun v1 =>
 bd (gd v1 true (ret x0)) fun v2 =>
 bd (gd v1 true (bi .lss v2 (.int .i32 55296))) fun v3 =>
 bd (pk v1 v3 (.bool false)) fun v4 =>
 cnd v4 (
 ret (.bool true)) (
 bd (bi .lss (.int .i32 57343) x0) fun v5 =>
 bd (gd v5 true (ret x0)) fun v6 =>
 bd (gd v5 true (bi .leq v6 (.int .i32 1114111))) fun v7 =>
 bd (pk v5 v7 (.bool false)) fun v8 =>
 cnd v8 (
 ret (.bool true)) (
 ret (.bool false)))
theorem f98_eq (x0 : AV) : dfn E98 Go.Proofs.Tryd.f98 [x0] = f98 x0 := dfn_eq (c := B98) (nt := 17) (K := K98) (by kernel_rfl) (by kernel_rfl) rfl (by kernel_rfl) (by kernel_rfl)
theorem O98 : EnvOK E98 := ⟨fun g xs => ok_fail, ap_fail⟩
theorem S98 (xs : List AV) : CallOK Go.Proofs.Tryd.prog 3 98 xs (L1 f98 xs) := ok_L1 (fun x0 => ok_fn (E := E98) (fn := Go.Proofs.Tryd.f98) O98 rfl rfl (by kernel_rfl) (by kernel_rfl) (f98_eq x0)) xs

/-! ### strings.IndexRune: function 83 -/
noncomputable def C83 (g : FuncId) (xs : List AV) : M AV := bif Nat.beq g 68 then L2 f68 xs else bif Nat.beq g 88 then L2 (nIndexString 0) xs else bif Nat.beq g 98 then L1 f98 xs else fail
noncomputable def E83 : Env := ⟨Go.Proofs.Tryd.prog, 3, C83, fun _ _ => fail, fun i => bif Nat.beq i 6 then [0, 1, 2, 3, 4, 5, 6] else bif Nat.beq i 7 then [0, 1, 2, 3, 4, 5, 6, 7, 8] else bif Nat.beq i 14 then [0, 1, 2, 3, 4, 5, 6, 7, 8, 9, 10] else bif Nat.beq i 31 then [0, 1, 2, 3, 4, 5, 6, 7, 8, 9, 10] else [], 83, none⟩
noncomputable def B83 : Code := bodyOf Go.Proofs.Tryd.f83
noncomputable def K83 : KT := dK Go.Proofs.Tryd.prog Go.Proofs.Tryd.f83.results.toList
noncomputable def f83_3 : M AV :=
 ret (.int .i64 (-1))
theorem f83_3_eq (t : Tmps) : dcode E83 187 (c2 (c1 (c2 (c2 (c2 (c1 (c2 B83))))))) t (kB 0 K83) = f83_3 := by kernel_rfl
noncomputable def f83_b5 (L5 : AV → M AV) (x175 : AV) : M AV :=
 bd (nxs x175) fun v1 =>
 bd (ex v1 0) fun v2 =>
 cnd v2 (
 bd (ex v1 1) fun v3 =>
 bd (ex v1 2) fun v4 =>
 bd (bi .eql v4 (.int .i32 65533)) fun v5 =>
 cnd v5 (
 ret v3) (
 L5 x175)) (
 f83_3)
theorem f83_b5_eq (L5 : AV → M AV) (t : Tmps) : dcode E83 187 (c1 (c1 (c2 (c1 (c1 (c2 (c2 (c2 (c1 (c2 B83)))))))))) t (kJ (fun t => L5 (t 175)) (kB 9 (kJ (fun t => f83_3) (kB 0 K83)))) = f83_b5 L5 (t 175) := by kernel_rfl
noncomputable def f83_l5 : Nat → AV → M AV
  | 0, _ => fail
  | n + 1, x175 => f83_b5 (f83_l5 n) x175
theorem f83_l5_eq (t : Tmps) : dcode E83 187 (c1 (c2 (c1 (c1 (c2 (c2 (c2 (c1 (c2 B83))))))))) t (kB 9 (kJ (fun t => f83_3) (kB 0 K83))) = f83_l5 fuel (t 175) :=
  dloop_eq (c := (c1 (c1 (c2 (c1 (c1 (c2 (c2 (c2 (c1 (c2 B83))))))))))) (g := fun n t => f83_l5 n (t 175)) (fun _ => rfl) (fun n t => f83_b5_eq (f83_l5 n) t)
noncomputable def f83_4 (x175 : AV) : M AV :=
 f83_l5 fuel x175
theorem f83_4_eq (t : Tmps) : dcode E83 187 (c2 (c1 (c1 (c2 (c2 (c2 (c1 (c2 B83)))))))) t (kJ (fun t => f83_3) (kB 0 K83)) = f83_4 (t 175) := (f83_l5_eq _)
noncomputable def f83_14 : M AV :=
 ret (.int .i64 (-1))
theorem f83_14_eq (t : Tmps) : dcode E83 187 (c2 (c2 (c2 (c2 (c2 (c2 (c2 (c2 (c1 (c2 (c2 (c2 (c2 (c2 (c2 (c1 (c2 B83))))))))))))))))) t (kB 0 K83) = f83_14 := by kernel_rfl
noncomputable def f83_20 (L18 : AV → AV → AV → AV → AV → AV → M AV) (x0 x7 x8 x9 x14 x15 : AV) : M AV :=
 bd (bi .add x9 (.int .i64 1)) fun v1 =>
 L18 x0 x7 x8 v1 x14 x15
theorem f83_20_eq (L18 : AV → AV → AV → AV → AV → AV → M AV) (t : Tmps) : dcode E83 187 (c2 (c2 (c1 (c1 (c2 (c2 (c2 (c1 (c2 (c1 (c2 (c2 (c2 (c2 (c2 (c2 (c2 (c1 (c2 (c2 (c2 (c2 (c2 (c2 (c1 (c2 B83)))))))))))))))))))))))))) t (kJ (fun t => L18 (t 0) (t 7) (t 8) (t 9) (t 14) (t 15)) (kB 5 (kJ (fun t => f83_14) (kB 0 K83)))) = f83_20 L18 (t 0) (t 7) (t 8) (t 9) (t 14) (t 15) := by kernel_rfl
noncomputable def f83_22 (L18 : AV → AV → AV → AV → AV → AV → M AV) (x8 x9 : AV) : M AV :=
 bd (bi .sub x9 x8) fun v1 =>
 ret v1
theorem f83_22_eq (L18 : AV → AV → AV → AV → AV → AV → M AV) (t : Tmps) : dcode E83 187 (c2 (c1 (c2 (c1 (c1 (c2 (c1 (c1 (c2 (c2 (c2 (c1 (c2 (c1 (c2 (c2 (c2 (c2 (c2 (c2 (c2 (c1 (c2 (c2 (c2 (c2 (c2 (c2 (c1 (c2 B83)))))))))))))))))))))))))))))) t (kB 6 (kJ (fun t => f83_20 L18 (t 0) (t 7) (t 8) (t 9) (t 14) (t 15)) (kJ (fun t => L18 (t 0) (t 7) (t 8) (t 9) (t 14) (t 15)) (kB 5 (kJ (fun t => f83_14) (kB 0 K83)))))) = f83_22 L18 (t 8) (t 9) := by kernel_rfl
noncomputable def f83_b24 (L18 : AV → AV → AV → AV → AV → AV → M AV) (L24 : AV → AV → AV → AV → AV → AV → AV → M AV) (x0 x7 x8 x9 x14 x15 x16 : AV) : M AV :=
 bd (lnS x7) fun v1 =>
 bd (bi .lss x16 v1) fun v2 =>
 cnd v2 (
 bd (ret x0) fun v3 =>
 bd (ret x9) fun v4 =>
 bd (ret x16) fun v5 =>
 bd (bi .sub v4 v5) fun v6 =>
 bd (ixs v3 v6) fun v7 =>
 bd (ret x7) fun v8 =>
 bd (ret x8) fun v9 =>
 bd (ret x16) fun v10 =>
 bd (bi .sub v9 v10) fun v11 =>
 bd (ixs v8 v11) fun v12 =>
 bd (bi .neq v7 v12) fun v13 =>
 cnd v13 (
 f83_20 L18 x0 x7 x8 x9 x14 x15) (
 bd (bi .add x16 (.int .i64 1)) fun v14 =>
 L24 x0 x7 x8 x9 x14 x15 v14)) (
 f83_22 L18 x8 x9)
theorem f83_b24_eq (L18 : AV → AV → AV → AV → AV → AV → M AV) (L24 : AV → AV → AV → AV → AV → AV → AV → M AV) (t : Tmps) : dcode E83 187 (c1 (c1 (c2 (c1 (c1 (c2 (c1 (c1 (c2 (c1 (c1 (c2 (c2 (c2 (c1 (c2 (c1 (c2 (c2 (c2 (c2 (c2 (c2 (c2 (c1 (c2 (c2 (c2 (c2 (c2 (c2 (c1 (c2 B83))))))))))))))))))))))))))))))))) t (kJ (fun t => L24 (t 0) (t 7) (t 8) (t 9) (t 14) (t 15) (t 16)) (kB 7 (kJ (fun t => f83_22 L18 (t 8) (t 9)) (kB 6 (kJ (fun t => f83_20 L18 (t 0) (t 7) (t 8) (t 9) (t 14) (t 15)) (kJ (fun t => L18 (t 0) (t 7) (t 8) (t 9) (t 14) (t 15)) (kB 5 (kJ (fun t => f83_14) (kB 0 K83))))))))) = f83_b24 L18 L24 (t 0) (t 7) (t 8) (t 9) (t 14) (t 15) (t 16) := by kernel_rfl
noncomputable def f83_l24 (L18 : AV → AV → AV → AV → AV → AV → M AV) : Nat → AV → AV → AV → AV → AV → AV → AV → M AV
  | 0, _, _, _, _, _, _, _ => fail
  | n + 1, x0, x7, x8, x9, x14, x15, x16 => f83_b24 L18 (f83_l24 L18 n) x0 x7 x8 x9 x14 x15 x16
theorem f83_l24_eq (L18 : AV → AV → AV → AV → AV → AV → M AV) (t : Tmps) : dcode E83 187 (c1 (c2 (c1 (c1 (c2 (c1 (c1 (c2 (c1 (c1 (c2 (c2 (c2 (c1 (c2 (c1 (c2 (c2 (c2 (c2 (c2 (c2 (c2 (c1 (c2 (c2 (c2 (c2 (c2 (c2 (c1 (c2 B83)))))))))))))))))))))))))))))))) t (kB 7 (kJ (fun t => f83_22 L18 (t 8) (t 9)) (kB 6 (kJ (fun t => f83_20 L18 (t 0) (t 7) (t 8) (t 9) (t 14) (t 15)) (kJ (fun t => L18 (t 0) (t 7) (t 8) (t 9) (t 14) (t 15)) (kB 5 (kJ (fun t => f83_14) (kB 0 K83)))))))) = f83_l24 L18 fuel (t 0) (t 7) (t 8) (t 9) (t 14) (t 15) (t 16) :=
  dloop_eq (c := (c1 (c1 (c2 (c1 (c1 (c2 (c1 (c1 (c2 (c1 (c1 (c2 (c2 (c2 (c1 (c2 (c1 (c2 (c2 (c2 (c2 (c2 (c2 (c2 (c1 (c2 (c2 (c2 (c2 (c2 (c2 (c1 (c2 B83)))))))))))))))))))))))))))))))))) (g := fun n t => f83_l24 L18 n (t 0) (t 7) (t 8) (t 9) (t 14) (t 15) (t 16)) (fun _ => rfl) (fun n t => f83_b24_eq L18 (f83_l24 L18 n) t)
noncomputable def f83_23 (L18 : AV → AV → AV → AV → AV → AV → M AV) (x0 x7 x8 x9 x14 x15 x16 : AV) : M AV :=
 f83_l24 L18 fuel x0 x7 x8 x9 x14 x15 x16
theorem f83_23_eq (L18 : AV → AV → AV → AV → AV → AV → M AV) (t : Tmps) : dcode E83 187 (c2 (c1 (c1 (c2 (c1 (c1 (c2 (c1 (c1 (c2 (c2 (c2 (c1 (c2 (c1 (c2 (c2 (c2 (c2 (c2 (c2 (c2 (c1 (c2 (c2 (c2 (c2 (c2 (c2 (c1 (c2 B83))))))))))))))))))))))))))))))) t (kJ (fun t => f83_22 L18 (t 8) (t 9)) (kB 6 (kJ (fun t => f83_20 L18 (t 0) (t 7) (t 8) (t 9) (t 14) (t 15)) (kJ (fun t => L18 (t 0) (t 7) (t 8) (t 9) (t 14) (t 15)) (kB 5 (kJ (fun t => f83_14) (kB 0 K83))))))) = f83_23 L18 (t 0) (t 7) (t 8) (t 9) (t 14) (t 15) (t 16) := (f83_l24_eq L18 _)
noncomputable def f83_21 (L18 : AV → AV → AV → AV → AV → AV → M AV) (x0 x7 x8 x9 x14 x15 x139 : AV) : M AV :=
 cnd x139 (
 f83_23 L18 x0 x7 x8 x9 x14 x15 (.int .i64 2)) (
 f83_20 L18 x0 x7 x8 x9 x14 x15)
theorem f83_21_eq (L18 : AV → AV → AV → AV → AV → AV → M AV) (t : Tmps) : dcode E83 187 (c2 (c1 (c1 (c2 (c1 (c1 (c2 (c2 (c2 (c1 (c2 (c1 (c2 (c2 (c2 (c2 (c2 (c2 (c2 (c1 (c2 (c2 (c2 (c2 (c2 (c2 (c1 (c2 B83)))))))))))))))))))))))))))) t (kB 6 (kJ (fun t => f83_20 L18 (t 0) (t 7) (t 8) (t 9) (t 14) (t 15)) (kJ (fun t => L18 (t 0) (t 7) (t 8) (t 9) (t 14) (t 15)) (kB 5 (kJ (fun t => f83_14) (kB 0 K83)))))) = f83_21 L18 (t 0) (t 7) (t 8) (t 9) (t 14) (t 15) (t 139) := (cond_eq (a := c1 (c2 (c1 (c1 (c2 (c1 (c1 (c2 (c2 (c2 (c1 (c2 (c1 (c2 (c2 (c2 (c2 (c2 (c2 (c2 (c1 (c2 (c2 (c2 (c2 (c2 (c2 (c1 (c2 B83))))))))))))))))))))))))))))) (b := c2 (c2 (c1 (c1 (c2 (c1 (c1 (c2 (c2 (c2 (c1 (c2 (c1 (c2 (c2 (c2 (c2 (c2 (c2 (c2 (c1 (c2 (c2 (c2 (c2 (c2 (c2 (c1 (c2 B83))))))))))))))))))))))))))))) (seq_eq (a := (c1 (c1 (c2 (c1 (c1 (c2 (c1 (c1 (c2 (c2 (c2 (c1 (c2 (c1 (c2 (c2 (c2 (c2 (c2 (c2 (c2 (c1 (c2 (c2 (c2 (c2 (c2 (c2 (c1 (c2 B83))))))))))))))))))))))))))))))) (b := (c2 (c1 (c2 (c1 (c1 (c2 (c1 (c1 (c2 (c2 (c2 (c1 (c2 (c1 (c2 (c2 (c2 (c2 (c2 (c2 (c2 (c1 (c2 (c2 (c2 (c2 (c2 (c2 (c1 (c2 B83))))))))))))))))))))))))))))))) (fun t => f83_22_eq L18 t) (seq_eq (a := (c1 (c1 (c1 (c2 (c1 (c1 (c2 (c1 (c1 (c2 (c2 (c2 (c1 (c2 (c1 (c2 (c2 (c2 (c2 (c2 (c2 (c2 (c1 (c2 (c2 (c2 (c2 (c2 (c2 (c1 (c2 B83)))))))))))))))))))))))))))))))) (b := (c2 (c1 (c1 (c2 (c1 (c1 (c2 (c1 (c1 (c2 (c2 (c2 (c1 (c2 (c1 (c2 (c2 (c2 (c2 (c2 (c2 (c2 (c1 (c2 (c2 (c2 (c2 (c2 (c2 (c1 (c2 B83)))))))))))))))))))))))))))))))) (fun t => f83_23_eq L18 t) (by kernel_rfl))) (by kernel_rfl))
noncomputable def f83_19 (L18 : AV → AV → AV → AV → AV → AV → M AV) (x0 x7 x8 x9 x14 x15 : AV) : M AV :=
 bd (ixs x0 x9) fun v1 =>
 bd (bi .eql v1 x14) fun v2 =>
 bd (gd v2 true (ret x0)) fun v3 =>
 bd (gd v2 true (ret x9)) fun v4 =>
 bd (gd v2 true (bi .sub v4 (.int .i64 1))) fun v5 =>
 bd (gd v2 true (ixs v3 v5)) fun v6 =>
 bd (gd v2 true (ret x15)) fun v7 =>
 bd (gd v2 true (bi .eql v6 v7)) fun v8 =>
 bd (pk v2 v8 (.bool false)) fun v9 =>
 f83_21 L18 x0 x7 x8 x9 x14 x15 v9
theorem f83_19_eq (L18 : AV → AV → AV → AV → AV → AV → M AV) (t : Tmps) : dcode E83 187 (c2 (c1 (c1 (c2 (c2 (c2 (c1 (c2 (c1 (c2 (c2 (c2 (c2 (c2 (c2 (c2 (c1 (c2 (c2 (c2 (c2 (c2 (c2 (c1 (c2 B83))))))))))))))))))))))))) t (kJ (fun t => L18 (t 0) (t 7) (t 8) (t 9) (t 14) (t 15)) (kB 5 (kJ (fun t => f83_14) (kB 0 K83)))) = f83_19 L18 (t 0) (t 7) (t 8) (t 9) (t 14) (t 15) := (seq_eq (a := (c1 (c2 (c1 (c1 (c2 (c2 (c2 (c1 (c2 (c1 (c2 (c2 (c2 (c2 (c2 (c2 (c2 (c1 (c2 (c2 (c2 (c2 (c2 (c2 (c1 (c2 B83))))))))))))))))))))))))))) (b := (c2 (c2 (c1 (c1 (c2 (c2 (c2 (c1 (c2 (c1 (c2 (c2 (c2 (c2 (c2 (c2 (c2 (c1 (c2 (c2 (c2 (c2 (c2 (c2 (c1 (c2 B83))))))))))))))))))))))))))) (fun t => f83_20_eq L18 t) (seq_eq (a := (c1 (c1 (c1 (c2 (c1 (c1 (c2 (c2 (c2 (c1 (c2 (c1 (c2 (c2 (c2 (c2 (c2 (c2 (c2 (c1 (c2 (c2 (c2 (c2 (c2 (c2 (c1 (c2 B83))))))))))))))))))))))))))))) (b := (c2 (c1 (c1 (c2 (c1 (c1 (c2 (c2 (c2 (c1 (c2 (c1 (c2 (c2 (c2 (c2 (c2 (c2 (c2 (c1 (c2 (c2 (c2 (c2 (c2 (c2 (c1 (c2 B83))))))))))))))))))))))))))))) (fun t => f83_21_eq L18 t) (by kernel_rfl)))
noncomputable def f83_b18 (L18 : AV → AV → AV → AV → AV → AV → M AV) (x0 x7 x8 x9 x14 x15 : AV) : M AV :=
 bd (lnS x0) fun v1 =>
 bd (bi .lss x9 v1) fun v2 =>
 cnd v2 (
 f83_19 L18 x0 x7 x8 x9 x14 x15) (
 f83_14)
theorem f83_b18_eq (L18 : AV → AV → AV → AV → AV → AV → M AV) (t : Tmps) : dcode E83 187 (c1 (c1 (c2 (c2 (c2 (c1 (c2 (c1 (c2 (c2 (c2 (c2 (c2 (c2 (c2 (c1 (c2 (c2 (c2 (c2 (c2 (c2 (c1 (c2 B83)))))))))))))))))))))))) t (kJ (fun t => L18 (t 0) (t 7) (t 8) (t 9) (t 14) (t 15)) (kB 5 (kJ (fun t => f83_14) (kB 0 K83)))) = f83_b18 L18 (t 0) (t 7) (t 8) (t 9) (t 14) (t 15) := (seq_eq (a := (c1 (c1 (c1 (c2 (c2 (c2 (c1 (c2 (c1 (c2 (c2 (c2 (c2 (c2 (c2 (c2 (c1 (c2 (c2 (c2 (c2 (c2 (c2 (c1 (c2 B83)))))))))))))))))))))))))) (b := (c2 (c1 (c1 (c2 (c2 (c2 (c1 (c2 (c1 (c2 (c2 (c2 (c2 (c2 (c2 (c2 (c1 (c2 (c2 (c2 (c2 (c2 (c2 (c1 (c2 B83)))))))))))))))))))))))))) (fun t => f83_19_eq L18 t) (by kernel_rfl))
noncomputable def f83_l18 : Nat → AV → AV → AV → AV → AV → AV → M AV
  | 0, _, _, _, _, _, _ => fail
  | n + 1, x0, x7, x8, x9, x14, x15 => f83_b18 (f83_l18 n) x0 x7 x8 x9 x14 x15
theorem f83_l18_eq (t : Tmps) : dcode E83 187 (c1 (c2 (c2 (c2 (c1 (c2 (c1 (c2 (c2 (c2 (c2 (c2 (c2 (c2 (c1 (c2 (c2 (c2 (c2 (c2 (c2 (c1 (c2 B83))))))))))))))))))))))) t (kB 5 (kJ (fun t => f83_14) (kB 0 K83))) = f83_l18 fuel (t 0) (t 7) (t 8) (t 9) (t 14) (t 15) :=
  dloop_eq (c := (c1 (c1 (c2 (c2 (c2 (c1 (c2 (c1 (c2 (c2 (c2 (c2 (c2 (c2 (c2 (c1 (c2 (c2 (c2 (c2 (c2 (c2 (c1 (c2 B83))))))))))))))))))))))))) (g := fun n t => f83_l18 n (t 0) (t 7) (t 8) (t 9) (t 14) (t 15)) (fun _ => rfl) (fun n t => f83_b18_eq (f83_l18 n) t)
noncomputable def f83_17 (x0 x7 x8 x9 x14 x15 : AV) : M AV :=
 f83_l18 fuel x0 x7 x8 x9 x14 x15
theorem f83_17_eq (t : Tmps) : dcode E83 187 (c2 (c2 (c2 (c1 (c2 (c1 (c2 (c2 (c2 (c2 (c2 (c2 (c2 (c1 (c2 (c2 (c2 (c2 (c2 (c2 (c1 (c2 B83)))))))))))))))))))))) t (kJ (fun t => f83_14) (kB 0 K83)) = f83_17 (t 0) (t 7) (t 8) (t 9) (t 14) (t 15) := (f83_l18_eq _)
noncomputable def f83_16 (x0 x7 x8 x9 x14 x15 : AV) : M AV :=
 f83_17 x0 x7 x8 x9 x14 x15
theorem f83_16_eq (t : Tmps) : dcode E83 187 (c2 (c2 (c1 (c2 (c1 (c2 (c2 (c2 (c2 (c2 (c2 (c2 (c1 (c2 (c2 (c2 (c2 (c2 (c2 (c1 (c2 B83))))))))))))))))))))) t (kJ (fun t => f83_14) (kB 0 K83)) = f83_16 (t 0) (t 7) (t 8) (t 9) (t 14) (t 15) := (seq_eq (a := (c1 (c2 (c2 (c1 (c2 (c1 (c2 (c2 (c2 (c2 (c2 (c2 (c2 (c1 (c2 (c2 (c2 (c2 (c2 (c2 (c1 (c2 B83))))))))))))))))))))))) (b := (c2 (c2 (c2 (c1 (c2 (c1 (c2 (c2 (c2 (c2 (c2 (c2 (c2 (c1 (c2 (c2 (c2 (c2 (c2 (c2 (c1 (c2 B83))))))))))))))))))))))) (fun t => f83_17_eq t) (by kernel_rfl))
noncomputable def f83_15 (x0 x7 x8 x9 x14 : AV) : M AV :=
 bd (bi .sub x8 (.int .i64 1)) fun v1 =>
 bd (ixs x7 v1) fun v2 =>
 f83_16 x0 x7 x8 x9 x14 v2
theorem f83_15_eq (t : Tmps) : dcode E83 187 (c2 (c1 (c2 (c1 (c2 (c2 (c2 (c2 (c2 (c2 (c2 (c1 (c2 (c2 (c2 (c2 (c2 (c2 (c1 (c2 B83)))))))))))))))))))) t (kJ (fun t => f83_14) (kB 0 K83)) = f83_15 (t 0) (t 7) (t 8) (t 9) (t 14) := (seq_eq (a := (c1 (c2 (c1 (c2 (c1 (c2 (c2 (c2 (c2 (c2 (c2 (c2 (c1 (c2 (c2 (c2 (c2 (c2 (c2 (c1 (c2 B83)))))))))))))))))))))) (b := (c2 (c2 (c1 (c2 (c1 (c2 (c2 (c2 (c2 (c2 (c2 (c2 (c1 (c2 (c2 (c2 (c2 (c2 (c2 (c1 (c2 B83)))))))))))))))))))))) (fun t => f83_16_eq t) (by kernel_rfl))
noncomputable def f83_13 (x0 x1 x7 x8 x9 : AV) : M AV :=
 cnd (.bool true) (
 bd (bi .sub x9 x8) fun v1 =>
 bd (ss x0 (some v1) none) fun v2 =>
 bd (i2s x1) fun v3 =>
 bd ((nIndexString 0) v2 v3) fun v4 =>
 bd (bi .geq v4 (.int .i64 0)) fun v5 =>
 cnd v5 (
 bd (bi .add x9 v4) fun v6 =>
 bd (bi .sub v6 x8) fun v7 =>
 ret v7) (
 f83_14)) (
 bd (ixs x7 x8) fun v8 =>
 f83_15 x0 x7 x8 x9 v8)
theorem f83_13_eq (t : Tmps) : dcode E83 187 (c2 (c2 (c2 (c2 (c2 (c2 (c2 (c1 (c2 (c2 (c2 (c2 (c2 (c2 (c1 (c2 B83)))))))))))))))) t (kB 0 K83) = f83_13 (t 0) (t 1) (t 7) (t 8) (t 9) := (seq_eq (a := (c1 (c2 (c2 (c2 (c2 (c2 (c2 (c2 (c1 (c2 (c2 (c2 (c2 (c2 (c2 (c1 (c2 B83)))))))))))))))))) (b := (c2 (c2 (c2 (c2 (c2 (c2 (c2 (c2 (c1 (c2 (c2 (c2 (c2 (c2 (c2 (c1 (c2 B83)))))))))))))))))) (fun t => f83_14_eq t) (cond_eq (a := c1 (c1 (c2 (c2 (c2 (c2 (c2 (c2 (c2 (c1 (c2 (c2 (c2 (c2 (c2 (c2 (c1 (c2 B83)))))))))))))))))) (b := c2 (c1 (c2 (c2 (c2 (c2 (c2 (c2 (c2 (c1 (c2 (c2 (c2 (c2 (c2 (c2 (c1 (c2 B83)))))))))))))))))) (by kernel_rfl) (seq_eq (a := (c1 (c1 (c2 (c1 (c2 (c2 (c2 (c2 (c2 (c2 (c2 (c1 (c2 (c2 (c2 (c2 (c2 (c2 (c1 (c2 B83))))))))))))))))))))) (b := (c2 (c1 (c2 (c1 (c2 (c2 (c2 (c2 (c2 (c2 (c2 (c1 (c2 (c2 (c2 (c2 (c2 (c2 (c1 (c2 B83))))))))))))))))))))) (fun t => f83_15_eq t) (by kernel_rfl))))
noncomputable def f83_12 (x0 x1 x7 x8 x9 : AV) : M AV :=
 f83_13 x0 x1 x7 x8 x9
theorem f83_12_eq (t : Tmps) : dcode E83 187 (c2 (c2 (c2 (c2 (c2 (c2 (c1 (c2 (c2 (c2 (c2 (c2 (c2 (c1 (c2 B83))))))))))))))) t (kB 0 K83) = f83_12 (t 0) (t 1) (t 7) (t 8) (t 9) := (seq_eq (a := (c1 (c2 (c2 (c2 (c2 (c2 (c2 (c1 (c2 (c2 (c2 (c2 (c2 (c2 (c1 (c2 B83))))))))))))))))) (b := (c2 (c2 (c2 (c2 (c2 (c2 (c2 (c1 (c2 (c2 (c2 (c2 (c2 (c2 (c1 (c2 B83))))))))))))))))) (fun t => f83_13_eq t) (by kernel_rfl))
noncomputable def f83_11 : M AV :=
 ret (.int .i64 (-1))
theorem f83_11_eq (t : Tmps) : dcode E83 187 (c2 (c2 (c2 (c2 (c2 (c1 (c2 (c2 (c2 (c2 (c2 (c2 (c1 (c2 B83)))))))))))))) t (kB 0 K83) = f83_11 := (seq_eq (a := (c1 (c2 (c2 (c2 (c2 (c2 (c1 (c2 (c2 (c2 (c2 (c2 (c2 (c1 (c2 B83)))))))))))))))) (b := (c2 (c2 (c2 (c2 (c2 (c2 (c1 (c2 (c2 (c2 (c2 (c2 (c2 (c1 (c2 B83)))))))))))))))) (fun t => f83_12_eq t) (by kernel_rfl))
noncomputable def f83_28 (L25 : AV → AV → AV → AV → M AV) (x8 x9 : AV) : M AV :=
 bd (bi .sub x9 x8) fun v1 =>
 ret v1
theorem f83_28_eq (L25 : AV → AV → AV → AV → M AV) (t : Tmps) : dcode E83 187 (c2 (c2 (c1 (c1 (c2 (c1 (c1 (c1 (c2 (c2 (c2 (c2 (c1 (c2 (c2 (c2 (c2 (c2 (c2 (c1 (c2 B83))))))))))))))))))))) t (kB 2 (kJ (fun t => L25 (t 0) (t 7) (t 8) (t 9)) (kB 1 (kJ (fun t => f83_11) (kB 0 K83))))) = f83_28 L25 (t 8) (t 9) := by kernel_rfl
noncomputable def f83_b30 (L25 : AV → AV → AV → AV → M AV) (L30 : AV → AV → AV → AV → AV → M AV) (x0 x7 x8 x9 x12 : AV) : M AV :=
 bd (lnS x7) fun v1 =>
 bd (bi .lss x12 v1) fun v2 =>
 cnd v2 (
 bd (ret x0) fun v3 =>
 bd (ret x9) fun v4 =>
 bd (ret x12) fun v5 =>
 bd (bi .sub v4 v5) fun v6 =>
 bd (ixs v3 v6) fun v7 =>
 bd (ret x7) fun v8 =>
 bd (ret x8) fun v9 =>
 bd (ret x12) fun v10 =>
 bd (bi .sub v9 v10) fun v11 =>
 bd (ixs v8 v11) fun v12 =>
 bd (bi .neq v7 v12) fun v13 =>
 cnd v13 (
 fail) (
 bd (bi .add x12 (.int .i64 1)) fun v14 =>
 L30 x0 x7 x8 x9 v14)) (
 f83_28 L25 x8 x9)
theorem f83_b30_eq (L25 : AV → AV → AV → AV → M AV) (L30 : AV → AV → AV → AV → AV → M AV) (t : Tmps) : dcode E83 187 (c1 (c1 (c2 (c1 (c2 (c1 (c1 (c2 (c1 (c1 (c1 (c2 (c2 (c2 (c2 (c1 (c2 (c2 (c2 (c2 (c2 (c2 (c1 (c2 B83)))))))))))))))))))))))) t (kJ (fun t => L30 (t 0) (t 7) (t 8) (t 9) (t 12)) (kB 3 (kJ (fun t => f83_28 L25 (t 8) (t 9)) (kB 2 (kJ (fun t => L25 (t 0) (t 7) (t 8) (t 9)) (kB 1 (kJ (fun t => f83_11) (kB 0 K83)))))))) = f83_b30 L25 L30 (t 0) (t 7) (t 8) (t 9) (t 12) := by kernel_rfl
noncomputable def f83_l30 (L25 : AV → AV → AV → AV → M AV) : Nat → AV → AV → AV → AV → AV → M AV
  | 0, _, _, _, _, _ => fail
  | n + 1, x0, x7, x8, x9, x12 => f83_b30 L25 (f83_l30 L25 n) x0 x7 x8 x9 x12
theorem f83_l30_eq (L25 : AV → AV → AV → AV → M AV) (t : Tmps) : dcode E83 187 (c1 (c2 (c1 (c2 (c1 (c1 (c2 (c1 (c1 (c1 (c2 (c2 (c2 (c2 (c1 (c2 (c2 (c2 (c2 (c2 (c2 (c1 (c2 B83))))))))))))))))))))))) t (kB 3 (kJ (fun t => f83_28 L25 (t 8) (t 9)) (kB 2 (kJ (fun t => L25 (t 0) (t 7) (t 8) (t 9)) (kB 1 (kJ (fun t => f83_11) (kB 0 K83))))))) = f83_l30 L25 fuel (t 0) (t 7) (t 8) (t 9) (t 12) :=
  dloop_eq (c := (c1 (c1 (c2 (c1 (c2 (c1 (c1 (c2 (c1 (c1 (c1 (c2 (c2 (c2 (c2 (c1 (c2 (c2 (c2 (c2 (c2 (c2 (c1 (c2 B83))))))))))))))))))))))))) (g := fun n t => f83_l30 L25 n (t 0) (t 7) (t 8) (t 9) (t 12)) (fun _ => rfl) (fun n t => f83_b30_eq L25 (f83_l30 L25 n) t)
noncomputable def f83_29 (L25 : AV → AV → AV → AV → M AV) (x0 x7 x8 x9 x12 : AV) : M AV :=
 f83_l30 L25 fuel x0 x7 x8 x9 x12
theorem f83_29_eq (L25 : AV → AV → AV → AV → M AV) (t : Tmps) : dcode E83 187 (c2 (c1 (c2 (c1 (c1 (c2 (c1 (c1 (c1 (c2 (c2 (c2 (c2 (c1 (c2 (c2 (c2 (c2 (c2 (c2 (c1 (c2 B83)))))))))))))))))))))) t (kJ (fun t => f83_28 L25 (t 8) (t 9)) (kB 2 (kJ (fun t => L25 (t 0) (t 7) (t 8) (t 9)) (kB 1 (kJ (fun t => f83_11) (kB 0 K83)))))) = f83_29 L25 (t 0) (t 7) (t 8) (t 9) (t 12) := (f83_l30_eq L25 _)
noncomputable def f83_27 (L25 : AV → AV → AV → AV → M AV) (x0 x7 x8 x9 : AV) : M AV :=
 f83_29 L25 x0 x7 x8 x9 (.int .i64 1)
theorem f83_27_eq (L25 : AV → AV → AV → AV → M AV) (t : Tmps) : dcode E83 187 (c2 (c1 (c1 (c2 (c1 (c1 (c1 (c2 (c2 (c2 (c2 (c1 (c2 (c2 (c2 (c2 (c2 (c2 (c1 (c2 B83)))))))))))))))))))) t (kB 2 (kJ (fun t => L25 (t 0) (t 7) (t 8) (t 9)) (kB 1 (kJ (fun t => f83_11) (kB 0 K83))))) = f83_27 L25 (t 0) (t 7) (t 8) (t 9) := (seq_eq (a := (c1 (c2 (c1 (c1 (c2 (c1 (c1 (c1 (c2 (c2 (c2 (c2 (c1 (c2 (c2 (c2 (c2 (c2 (c2 (c1 (c2 B83)))))))))))))))))))))) (b := (c2 (c2 (c1 (c1 (c2 (c1 (c1 (c1 (c2 (c2 (c2 (c2 (c1 (c2 (c2 (c2 (c2 (c2 (c2 (c1 (c2 B83)))))))))))))))))))))) (fun t => f83_28_eq L25 t) (seq_eq (a := (c1 (c1 (c2 (c1 (c1 (c2 (c1 (c1 (c1 (c2 (c2 (c2 (c2 (c1 (c2 (c2 (c2 (c2 (c2 (c2 (c1 (c2 B83))))))))))))))))))))))) (b := (c2 (c1 (c2 (c1 (c1 (c2 (c1 (c1 (c1 (c2 (c2 (c2 (c2 (c1 (c2 (c2 (c2 (c2 (c2 (c2 (c1 (c2 B83))))))))))))))))))))))) (fun t => f83_29_eq L25 t) (by kernel_rfl)))
noncomputable def f83_26 (L25 : AV → AV → AV → AV → M AV) (x0 x7 x8 x9 : AV) : M AV :=
 bd (ret x0) fun v1 =>
 bd (ret x9) fun v2 =>
 bd (ixs v1 v2) fun v3 =>
 bd (ret x7) fun v4 =>
 bd (ret x8) fun v5 =>
 bd (ixs v4 v5) fun v6 =>
 bd (bi .neq v3 v6) fun v7 =>
 cnd v7 (
 bd (ret x0) fun v8 =>
 bd (ret x9) fun v9 =>
 bd (bi .add v9 (.int .i64 1)) fun v10 =>
 bd (ss v8 (some v10) none) fun v11 =>
 bd (ret x7) fun v12 =>
 bd (ret x8) fun v13 =>
 bd (ixs v12 v13) fun v14 =>
 bd (f68 v11 v14) fun v15 =>
 bd (ret v15) fun v16 =>
 bd (bi .lss v16 (.int .i64 0)) fun v17 =>
 cnd v17 (
 ret (.int .i64 (-1))) (
 bd (bi .add v16 (.int .i64 1)) fun v18 =>
 bd (bi .add x9 v18) fun v19 =>
 f83_27 L25 x0 x7 x8 v19)) (
 f83_27 L25 x0 x7 x8 x9)
theorem f83_26_eq (L25 : AV → AV → AV → AV → M AV) (t : Tmps) : dcode E83 187 (c2 (c1 (c1 (c1 (c2 (c2 (c2 (c2 (c1 (c2 (c2 (c2 (c2 (c2 (c2 (c1 (c2 B83))))))))))))))))) t (kJ (fun t => L25 (t 0) (t 7) (t 8) (t 9)) (kB 1 (kJ (fun t => f83_11) (kB 0 K83)))) = f83_26 L25 (t 0) (t 7) (t 8) (t 9) := (seq_eq (a := (c1 (c1 (c1 (c2 (c1 (c1 (c1 (c2 (c2 (c2 (c2 (c1 (c2 (c2 (c2 (c2 (c2 (c2 (c1 (c2 B83))))))))))))))))))))) (b := (c2 (c1 (c1 (c2 (c1 (c1 (c1 (c2 (c2 (c2 (c2 (c1 (c2 (c2 (c2 (c2 (c2 (c2 (c1 (c2 B83))))))))))))))))))))) (fun t => f83_27_eq L25 t) (by kernel_rfl))
noncomputable def f83_b25 (L25 : AV → AV → AV → AV → M AV) (x0 x7 x8 x9 : AV) : M AV :=
 bd (lnS x0) fun v1 =>
 bd (bi .lss x9 v1) fun v2 =>
 cnd v2 (
 f83_26 L25 x0 x7 x8 x9) (
 f83_11)
theorem f83_b25_eq (L25 : AV → AV → AV → AV → M AV) (t : Tmps) : dcode E83 187 (c1 (c1 (c1 (c2 (c2 (c2 (c2 (c1 (c2 (c2 (c2 (c2 (c2 (c2 (c1 (c2 B83)))))))))))))))) t (kJ (fun t => L25 (t 0) (t 7) (t 8) (t 9)) (kB 1 (kJ (fun t => f83_11) (kB 0 K83)))) = f83_b25 L25 (t 0) (t 7) (t 8) (t 9) := (seq_eq (a := (c1 (c1 (c1 (c1 (c2 (c2 (c2 (c2 (c1 (c2 (c2 (c2 (c2 (c2 (c2 (c1 (c2 B83)))))))))))))))))) (b := (c2 (c1 (c1 (c1 (c2 (c2 (c2 (c2 (c1 (c2 (c2 (c2 (c2 (c2 (c2 (c1 (c2 B83)))))))))))))))))) (fun t => f83_26_eq L25 t) (by kernel_rfl))
noncomputable def f83_l25 : Nat → AV → AV → AV → AV → M AV
  | 0, _, _, _, _ => fail
  | n + 1, x0, x7, x8, x9 => f83_b25 (f83_l25 n) x0 x7 x8 x9
theorem f83_l25_eq (t : Tmps) : dcode E83 187 (c1 (c1 (c2 (c2 (c2 (c2 (c1 (c2 (c2 (c2 (c2 (c2 (c2 (c1 (c2 B83))))))))))))))) t (kB 1 (kJ (fun t => f83_11) (kB 0 K83))) = f83_l25 fuel (t 0) (t 7) (t 8) (t 9) :=
  dloop_eq (c := (c1 (c1 (c1 (c2 (c2 (c2 (c2 (c1 (c2 (c2 (c2 (c2 (c2 (c2 (c1 (c2 B83))))))))))))))))) (g := fun n t => f83_l25 n (t 0) (t 7) (t 8) (t 9)) (fun _ => rfl) (fun n t => f83_b25_eq (f83_l25 n) t)
noncomputable def f83_10 (x0 x7 x8 x9 : AV) : M AV :=
 f83_l25 fuel x0 x7 x8 x9
theorem f83_10_eq (t : Tmps) : dcode E83 187 (c2 (c2 (c2 (c2 (c1 (c2 (c2 (c2 (c2 (c2 (c2 (c1 (c2 B83))))))))))))) t (kB 0 K83) = f83_10 (t 0) (t 7) (t 8) (t 9) := (seq_eq (a := (c1 (c2 (c2 (c2 (c2 (c1 (c2 (c2 (c2 (c2 (c2 (c2 (c1 (c2 B83))))))))))))))) (b := (c2 (c2 (c2 (c2 (c2 (c1 (c2 (c2 (c2 (c2 (c2 (c2 (c1 (c2 B83))))))))))))))) (fun t => f83_11_eq t) (f83_l25_eq _))
noncomputable def f83_9 (x0 x7 x8 x9 : AV) : M AV :=
 f83_10 x0 x7 x8 x9
theorem f83_9_eq (t : Tmps) : dcode E83 187 (c2 (c2 (c2 (c1 (c2 (c2 (c2 (c2 (c2 (c2 (c1 (c2 B83)))))))))))) t (kB 0 K83) = f83_9 (t 0) (t 7) (t 8) (t 9) := (seq_eq (a := (c1 (c2 (c2 (c2 (c1 (c2 (c2 (c2 (c2 (c2 (c2 (c1 (c2 B83)))))))))))))) (b := (c2 (c2 (c2 (c2 (c1 (c2 (c2 (c2 (c2 (c2 (c2 (c1 (c2 B83)))))))))))))) (fun t => f83_10_eq t) (by kernel_rfl))
noncomputable def f83_8 (x0 x7 x8 : AV) : M AV :=
 f83_9 x0 x7 x8 x8
theorem f83_8_eq (t : Tmps) : dcode E83 187 (c2 (c2 (c1 (c2 (c2 (c2 (c2 (c2 (c2 (c1 (c2 B83))))))))))) t (kB 0 K83) = f83_8 (t 0) (t 7) (t 8) := (seq_eq (a := (c1 (c2 (c2 (c1 (c2 (c2 (c2 (c2 (c2 (c2 (c1 (c2 B83))))))))))))) (b := (c2 (c2 (c2 (c1 (c2 (c2 (c2 (c2 (c2 (c2 (c1 (c2 B83))))))))))))) (fun t => f83_9_eq t) (by kernel_rfl))
noncomputable def f83_7 (x0 x7 : AV) : M AV :=
 bd (lnS x7) fun v1 =>
 bd (bi .sub v1 (.int .i64 1)) fun v2 =>
 f83_8 x0 x7 v2
theorem f83_7_eq (t : Tmps) : dcode E83 187 (c2 (c1 (c2 (c2 (c2 (c2 (c2 (c2 (c1 (c2 B83)))))))))) t (kB 0 K83) = f83_7 (t 0) (t 7) := (seq_eq (a := (c1 (c2 (c1 (c2 (c2 (c2 (c2 (c2 (c2 (c1 (c2 B83)))))))))))) (b := (c2 (c2 (c1 (c2 (c2 (c2 (c2 (c2 (c2 (c1 (c2 B83)))))))))))) (fun t => f83_8_eq t) (by kernel_rfl))
noncomputable def f83_6 (x0 x1 x183 : AV) : M AV :=
 cnd x183 (
 ret (.int .i64 (-1))) (
 bd (i2s x1) fun v1 =>
 f83_7 x0 v1)
theorem f83_6_eq (t : Tmps) : dcode E83 187 (c2 (c2 (c2 (c2 (c2 (c1 (c2 B83))))))) t (kB 0 K83) = f83_6 (t 0) (t 1) (t 183) := (cond_eq (a := c1 (c2 (c2 (c2 (c2 (c2 (c1 (c2 B83)))))))) (b := c2 (c2 (c2 (c2 (c2 (c2 (c1 (c2 B83)))))))) (by kernel_rfl) (seq_eq (a := (c1 (c1 (c2 (c2 (c2 (c2 (c2 (c2 (c1 (c2 B83))))))))))) (b := (c2 (c1 (c2 (c2 (c2 (c2 (c2 (c2 (c1 (c2 B83))))))))))) (fun t => f83_7_eq t) (by kernel_rfl)))
noncomputable def f83_2 (x0 x1 x171 : AV) : M AV :=
 cnd x171 (
 bd (rgs x0) fun v1 =>
 f83_4 v1) (
 bd (f98 x1) fun v2 =>
 bd (un .not v2) fun v3 =>
 f83_6 x0 x1 v3)
theorem f83_2_eq (t : Tmps) : dcode E83 187 (c2 (c2 (c2 (c1 (c2 B83))))) t (kB 0 K83) = f83_2 (t 0) (t 1) (t 171) := (cond_eq (a := c1 (c2 (c2 (c2 (c1 (c2 B83)))))) (b := c2 (c2 (c2 (c2 (c1 (c2 B83)))))) (seq_eq (a := (c1 (c1 (c2 (c2 (c2 (c1 (c2 B83)))))))) (b := (c2 (c1 (c2 (c2 (c2 (c1 (c2 B83)))))))) (fun t => f83_3_eq t) (seq_eq (a := (c1 (c1 (c1 (c2 (c2 (c2 (c1 (c2 B83))))))))) (b := (c2 (c1 (c1 (c2 (c2 (c2 (c1 (c2 B83))))))))) (fun t => f83_4_eq t) (by kernel_rfl))) (seq_eq (a := (c1 (c2 (c2 (c2 (c2 (c1 (c2 B83)))))))) (b := (c2 (c2 (c2 (c2 (c2 (c1 (c2 B83)))))))) (fun t => f83_6_eq t) (by kernel_rfl)))
noncomputable def f83_1 (x0 x1 x160 : AV) : M AV :=
 cnd x160 (
 bd (ci .u8 x1) fun v1 =>
 bd (f68 x0 v1) fun v2 =>
 ret v2) (
 bd (bi .eql x1 (.int .i32 65533)) fun v3 =>
 f83_2 x0 x1 v3)
theorem f83_1_eq (t : Tmps) : dcode E83 187 (c2 (c1 (c2 B83))) t (kB 0 K83) = f83_1 (t 0) (t 1) (t 160) := (cond_eq (a := c1 (c2 (c1 (c2 B83)))) (b := c2 (c2 (c1 (c2 B83)))) (by kernel_rfl) (seq_eq (a := (c1 (c2 (c2 (c1 (c2 B83)))))) (b := (c2 (c2 (c2 (c1 (c2 B83)))))) (fun t => f83_2_eq t) (by kernel_rfl)))
noncomputable def f83_0 (x0 x1 : AV) : M AV :=
 bd (bi .leq (.int .i32 0) x1) fun v1 =>
 bd (gd v1 true (ret x1)) fun v2 =>
 bd (gd v1 true (bi .lss v2 (.int .i32 128))) fun v3 =>
 bd (pk v1 v3 (.bool false)) fun v4 =>
 f83_1 x0 x1 v4
theorem f83_0_eq (t : Tmps) : dcode E83 187 (c2 B83) t K83 = f83_0 (t 0) (t 1) := (seq_eq (a := (c1 (c1 (c2 B83)))) (b := (c2 (c1 (c2 B83)))) (fun t => f83_1_eq t) (by kernel_rfl))
noncomputable def f83 (x0 x1 : AV) : M AV :=
 f83_0 x0 x1
theorem f83_top (t : Tmps) : dcode E83 187 B83 t K83 = f83 (t 0) (t 1) := (seq_eq (a := (c1 B83)) (b := (c2 B83)) (fun t => f83_0_eq t) (by kernel_rfl))
theorem f83_eq (x0 x1 : AV) : dfn E83 Go.Proofs.Tryd.f83 [x0, x1] = f83 x0 x1 := dfn_eq (c := B83) (nt := 187) (K := K83) (by kernel_rfl) (by kernel_rfl) rfl (by kernel_rfl) (f83_top (argT [x0, x1]))
theorem O83 : EnvOK E83 := ⟨fun g xs => (ok_if (S68 xs) (ok_if (N88 xs) (ok_if (S98 xs) ok_fail))), ap_fail⟩
theorem S83 (xs : List AV) : CallOK Go.Proofs.Tryd.prog 3 83 xs (L2 f83 xs) := ok_L2 (fun x0 x1 => ok_fn (E := E83) (fn := Go.Proofs.Tryd.f83) O83 rfl rfl (by kernel_rfl) (by kernel_rfl) (f83_eq x0 x1)) xs

/-! ### strings.shouldUseASCIISet: function 84 -/
noncomputable def C84 (g : FuncId) (xs : List AV) : M AV := fail
noncomputable def E84 : Env := ⟨Go.Proofs.Tryd.prog, 3, C84, fun _ _ => fail, fun _ => [], 84, none⟩
noncomputable def B84 : Code := bodyOf Go.Proofs.Tryd.f84
noncomputable def K84 : KT := dK Go.Proofs.Tryd.prog Go.Proofs.Tryd.f84.results.toList
noncomputable def f84 (x0 : AV) : M AV :=
 bd (bi .gtr x0 (.int .i64 8)) fun v1 =>
 ret v1
theorem f84_eq (x0 : AV) : dfn E84 Go.Proofs.Tryd.f84 [x0] = f84 x0 := dfn_eq (c := B84) (nt := 5) (K := K84) (by kernel_rfl) (by kernel_rfl) rfl (by kernel_rfl) (by kernel_rfl)
theorem O84 : EnvOK E84 := ⟨fun g xs => ok_fail, ap_fail⟩
theorem S84 (xs : List AV) : CallOK Go.Proofs.Tryd.prog 3 84 xs (L1 f84 xs) := ok_L1 (fun x0 => ok_fn (E := E84) (fn := Go.Proofs.Tryd.f84) O84 rfl rfl (by kernel_rfl) (by kernel_rfl) (f84_eq x0)) xs

/-! ### strings.makeASCIISet: function 85 -/
noncomputable def C85 (g : FuncId) (xs : List AV) : M AV := fail
noncomputable def E85 : Env := ⟨Go.Proofs.Tryd.prog, 3, C85, fun _ _ => fail, fun _ => [], 85, none⟩
noncomputable def B85 : Code := bodyOf Go.Proofs.Tryd.f85
noncomputable def K85 : KT := dK Go.Proofs.Tryd.prog Go.Proofs.Tryd.f85.results.toList
noncomputable def f85_1 (x2 : AV) : M AV :=
 bd (lda 256 x2) fun v1 =>
 bd (sta 256 x2 v1) fun _ =>
 bd (lda 256 x2) fun v2 => ret (.tuple [v2, (.bool true)])
theorem f85_1_eq (t : Tmps) : dcode E85 21 (c2 (c2 B85)) t K85 = f85_1 (t 2) := by kernel_rfl
noncomputable def f85_b3 (L3 : AV → AV → AV → M AV) (x0 x2 x4 : AV) : M AV :=
 bd (lnS x0) fun v1 =>
 bd (bi .lss x4 v1) fun v2 =>
 cnd v2 (
 bd (ixs x0 x4) fun v3 =>
 bd (bi .geq v3 (.int .u8 128)) fun v4 =>
 cnd v4 (
 bd (lda 256 x2) fun v5 =>
 bd (sta 256 x2 v5) fun _ =>
 bd (lda 256 x2) fun v6 => ret (.tuple [v6, (.bool false)])) (
 bd (ixpa 1 256 x2 v3) fun v7 =>
 bd (st v7 (.bool true)) fun _ =>
 bd (bi .add x4 (.int .i64 1)) fun v8 =>
 L3 x0 x2 v8)) (
 f85_1 x2)
theorem f85_b3_eq (L3 : AV → AV → AV → M AV) (t : Tmps) : dcode E85 21 (c1 (c1 (c2 (c1 (c2 B85))))) t (kJ (fun t => L3 (t 0) (t 2) (t 4)) (kB 0 (kJ (fun t => f85_1 (t 2)) K85))) = f85_b3 L3 (t 0) (t 2) (t 4) := by kernel_rfl
noncomputable def f85_l3 : Nat → AV → AV → AV → M AV
  | 0, _, _, _ => fail
  | n + 1, x0, x2, x4 => f85_b3 (f85_l3 n) x0 x2 x4
theorem f85_l3_eq (t : Tmps) : dcode E85 21 (c1 (c2 (c1 (c2 B85)))) t (kB 0 (kJ (fun t => f85_1 (t 2)) K85)) = f85_l3 fuel (t 0) (t 2) (t 4) :=
  dloop_eq (c := (c1 (c1 (c2 (c1 (c2 B85)))))) (g := fun n t => f85_l3 n (t 0) (t 2) (t 4)) (fun _ => rfl) (fun n t => f85_b3_eq (f85_l3 n) t)
noncomputable def f85_2 (x0 x2 x4 : AV) : M AV :=
 f85_l3 fuel x0 x2 x4
theorem f85_2_eq (t : Tmps) : dcode E85 21 (c2 (c1 (c2 B85))) t (kJ (fun t => f85_1 (t 2)) K85) = f85_2 (t 0) (t 2) (t 4) := (f85_l3_eq _)
noncomputable def f85_0 (x0 x2 : AV) : M AV :=
 f85_2 x0 x2 (.int .i64 0)
theorem f85_0_eq (t : Tmps) : dcode E85 21 (c2 B85) t K85 = f85_0 (t 0) (t 2) := (seq_eq (a := (c1 (c2 B85))) (b := (c2 (c2 B85))) (fun t => f85_1_eq t) (seq_eq (a := (c1 (c1 (c2 B85)))) (b := (c2 (c1 (c2 B85)))) (fun t => f85_2_eq t) (by kernel_rfl)))
noncomputable def f85 (x0 : AV) : M AV :=
 bd (bx 103 (.agg (rep [(.bool false)] 256))) fun v1 =>
 f85_0 x0 v1
theorem f85_top (t : Tmps) : dcode E85 21 B85 t K85 = f85 (t 0) := (seq_eq (a := (c1 B85)) (b := (c2 B85)) (fun t => f85_0_eq t) (by kernel_rfl))
theorem f85_eq (x0 : AV) : dfn E85 Go.Proofs.Tryd.f85 [x0] = f85 x0 := dfn_eq (c := B85) (nt := 21) (K := K85) (by kernel_rfl) (by kernel_rfl) rfl (by kernel_rfl) (f85_top (argT [x0]))
theorem O85 : EnvOK E85 := ⟨fun g xs => ok_fail, ap_fail⟩
theorem S85 (xs : List AV) : CallOK Go.Proofs.Tryd.prog 3 85 xs (L1 f85 xs) := ok_L1 (fun x0 => ok_fn (E := E85) (fn := Go.Proofs.Tryd.f85) O85 rfl rfl (by kernel_rfl) (by kernel_rfl) (f85_eq x0)) xs

/-! ### (*strings.asciiSet).contains: function 86 -/
noncomputable def C86 (g : FuncId) (xs : List AV) : M AV := fail
noncomputable def E86 : Env := ⟨Go.Proofs.Tryd.prog, 3, C86, fun _ _ => fail, fun _ => [], 86, none⟩
noncomputable def B86 : Code := bodyOf Go.Proofs.Tryd.f86
noncomputable def K86 : KT := dK Go.Proofs.Tryd.prog Go.Proofs.Tryd.f86.results.toList
noncomputable def f86 (x0 x1 : AV) : M AV :=
 bd (nck x0) fun v1 =>
 bd (ixpa 1 256 v1 x1) fun v2 =>
 bd (ld v2) fun v3 =>
 ret v3
theorem f86_eq (x0 x1 : AV) : dfn E86 Go.Proofs.Tryd.f86 [x0, x1] = f86 x0 x1 := dfn_eq (c := B86) (nt := 10) (K := K86) (by kernel_rfl) (by kernel_rfl) rfl (by kernel_rfl) (by kernel_rfl)
theorem O86 : EnvOK E86 := ⟨fun g xs => ok_fail, ap_fail⟩
theorem S86 (xs : List AV) : CallOK Go.Proofs.Tryd.prog 3 86 xs (L2 f86 xs) := ok_L2 (fun x0 x1 => ok_fn (E := E86) (fn := Go.Proofs.Tryd.f86) O86 rfl rfl (by kernel_rfl) (by kernel_rfl) (f86_eq x0 x1)) xs

/-! ### strings.IndexAny: function 70 -/
noncomputable def C70 (g : FuncId) (xs : List AV) : M AV := bif Nat.beq g 83 then L2 f83 xs else bif Nat.beq g 84 then L1 f84 xs else bif Nat.beq g 85 then L1 f85 xs else bif Nat.beq g 86 then L2 f86 xs else fail
noncomputable def E70 : Env := ⟨Go.Proofs.Tryd.prog, 3, C70, fun _ _ => fail, fun _ => [], 70, none⟩
noncomputable def B70 : Code := bodyOf Go.Proofs.Tryd.f70
noncomputable def K70 : KT := dK Go.Proofs.Tryd.prog Go.Proofs.Tryd.f70.results.toList
noncomputable def f70_4 : M AV :=
 ret (.int .i64 (-1))
theorem f70_4_eq (t : Tmps) : dcode E70 55 (c2 (c2 (c2 (c2 (c2 B70))))) t K70 = f70_4 := by kernel_rfl
noncomputable def f70_b6 (L6 : AV → AV → M AV) (x1 x45 : AV) : M AV :=
 bd (nxs x45) fun v1 =>
 bd (ex v1 0) fun v2 =>
 cnd v2 (
 bd (ex v1 1) fun v3 =>
 bd (ex v1 2) fun v4 =>
 bd (f83 x1 v4) fun v5 =>
 bd (bi .geq v5 (.int .i64 0)) fun v6 =>
 cnd v6 (
 ret v3) (
 L6 x1 x45)) (
 f70_4)
theorem f70_b6_eq (L6 : AV → AV → M AV) (t : Tmps) : dcode E70 55 (c1 (c1 (c2 (c1 (c2 (c2 (c2 (c2 B70)))))))) t (kJ (fun t => L6 (t 1) (t 45)) (kB 2 (kJ (fun t => f70_4) K70))) = f70_b6 L6 (t 1) (t 45) := by kernel_rfl
noncomputable def f70_l6 : Nat → AV → AV → M AV
  | 0, _, _ => fail
  | n + 1, x1, x45 => f70_b6 (f70_l6 n) x1 x45
theorem f70_l6_eq (t : Tmps) : dcode E70 55 (c1 (c2 (c1 (c2 (c2 (c2 (c2 B70))))))) t (kB 2 (kJ (fun t => f70_4) K70)) = f70_l6 fuel (t 1) (t 45) :=
  dloop_eq (c := (c1 (c1 (c2 (c1 (c2 (c2 (c2 (c2 B70))))))))) (g := fun n t => f70_l6 n (t 1) (t 45)) (fun _ => rfl) (fun n t => f70_b6_eq (f70_l6 n) t)
noncomputable def f70_5 (x1 x45 : AV) : M AV :=
 f70_l6 fuel x1 x45
theorem f70_5_eq (t : Tmps) : dcode E70 55 (c2 (c1 (c2 (c2 (c2 (c2 B70)))))) t (kJ (fun t => f70_4) K70) = f70_5 (t 1) (t 45) := (f70_l6_eq _)
noncomputable def f70_3 (x0 x1 : AV) : M AV :=
 bd (rgs x0) fun v1 =>
 f70_5 x1 v1
theorem f70_3_eq (t : Tmps) : dcode E70 55 (c2 (c2 (c2 (c2 B70)))) t K70 = f70_3 (t 0) (t 1) := (seq_eq (a := (c1 (c2 (c2 (c2 (c2 B70)))))) (b := (c2 (c2 (c2 (c2 (c2 B70)))))) (fun t => f70_4_eq t) (seq_eq (a := (c1 (c1 (c2 (c2 (c2 (c2 B70))))))) (b := (c2 (c1 (c2 (c2 (c2 (c2 B70))))))) (fun t => f70_5_eq t) (by kernel_rfl)))
noncomputable def f70_10 : M AV :=
 ret (.int .i64 (-1))
theorem f70_10_eq (t : Tmps) : dcode E70 55 (c2 (c1 (c2 (c2 (c1 (c2 (c1 (c2 (c2 (c2 B70)))))))))) t (kJ (fun t => f70_3 (t 0) (t 1)) K70) = f70_10 := by kernel_rfl
noncomputable def f70_b12 (L12 : AV → AV → AV → M AV) (x0 x6 x8 : AV) : M AV :=
 bd (lnS x0) fun v1 =>
 bd (bi .lss x8 v1) fun v2 =>
 cnd v2 (
 bd (ixs x0 x8) fun v3 =>
 bd (f86 x6 v3) fun v4 =>
 cnd v4 (
 ret x8) (
 bd (bi .add x8 (.int .i64 1)) fun v5 =>
 L12 x0 x6 v5)) (
 f70_10)
theorem f70_b12_eq (L12 : AV → AV → AV → M AV) (t : Tmps) : dcode E70 55 (c1 (c1 (c2 (c1 (c1 (c2 (c2 (c1 (c2 (c1 (c2 (c2 (c2 B70))))))))))))) t (kJ (fun t => L12 (t 0) (t 6) (t 8)) (kB 0 (kJ (fun t => f70_10) (kJ (fun t => f70_3 (t 0) (t 1)) K70)))) = f70_b12 L12 (t 0) (t 6) (t 8) := by kernel_rfl
noncomputable def f70_l12 : Nat → AV → AV → AV → M AV
  | 0, _, _, _ => fail
  | n + 1, x0, x6, x8 => f70_b12 (f70_l12 n) x0 x6 x8
theorem f70_l12_eq (t : Tmps) : dcode E70 55 (c1 (c2 (c1 (c1 (c2 (c2 (c1 (c2 (c1 (c2 (c2 (c2 B70)))))))))))) t (kB 0 (kJ (fun t => f70_10) (kJ (fun t => f70_3 (t 0) (t 1)) K70))) = f70_l12 fuel (t 0) (t 6) (t 8) :=
  dloop_eq (c := (c1 (c1 (c2 (c1 (c1 (c2 (c2 (c1 (c2 (c1 (c2 (c2 (c2 B70)))))))))))))) (g := fun n t => f70_l12 n (t 0) (t 6) (t 8)) (fun _ => rfl) (fun n t => f70_b12_eq (f70_l12 n) t)
noncomputable def f70_11 (x0 x6 x8 : AV) : M AV :=
 f70_l12 fuel x0 x6 x8
theorem f70_11_eq (t : Tmps) : dcode E70 55 (c2 (c1 (c1 (c2 (c2 (c1 (c2 (c1 (c2 (c2 (c2 B70))))))))))) t (kJ (fun t => f70_10) (kJ (fun t => f70_3 (t 0) (t 1)) K70)) = f70_11 (t 0) (t 6) (t 8) := (f70_l12_eq _)
noncomputable def f70_9 (x0 x1 x6 x32 : AV) : M AV :=
 cnd x32 (
 f70_11 x0 x6 (.int .i64 0)) (
 f70_3 x0 x1)
theorem f70_9_eq (t : Tmps) : dcode E70 55 (c2 (c2 (c1 (c2 (c1 (c2 (c2 (c2 B70)))))))) t (kJ (fun t => f70_3 (t 0) (t 1)) K70) = f70_9 (t 0) (t 1) (t 6) (t 32) := (cond_eq (a := c1 (c2 (c2 (c1 (c2 (c1 (c2 (c2 (c2 B70))))))))) (b := c2 (c2 (c2 (c1 (c2 (c1 (c2 (c2 (c2 B70))))))))) (seq_eq (a := (c1 (c1 (c2 (c2 (c1 (c2 (c1 (c2 (c2 (c2 B70))))))))))) (b := (c2 (c1 (c2 (c2 (c1 (c2 (c1 (c2 (c2 (c2 B70))))))))))) (fun t => f70_10_eq t) (seq_eq (a := (c1 (c1 (c1 (c2 (c2 (c1 (c2 (c1 (c2 (c2 (c2 B70)))))))))))) (b := (c2 (c1 (c1 (c2 (c2 (c1 (c2 (c1 (c2 (c2 (c2 B70)))))))))))) (fun t => f70_11_eq t) (by kernel_rfl))) (by kernel_rfl))
noncomputable def f70_8 (x0 x1 x6 x7 : AV) : M AV :=
 f70_9 x0 x1 x6 x7
theorem f70_8_eq (t : Tmps) : dcode E70 55 (c2 (c1 (c2 (c1 (c2 (c2 (c2 B70))))))) t (kJ (fun t => f70_3 (t 0) (t 1)) K70) = f70_8 (t 0) (t 1) (t 6) (t 7) := (seq_eq (a := (c1 (c2 (c1 (c2 (c1 (c2 (c2 (c2 B70))))))))) (b := (c2 (c2 (c1 (c2 (c1 (c2 (c2 (c2 B70))))))))) (fun t => f70_9_eq t) (by kernel_rfl))
noncomputable def f70_7 (x0 x1 x26 : AV) : M AV :=
 cnd x26 (
 bd (f85 x1) fun v1 =>
 bd (ex v1 0) fun v2 =>
 bd (ex v1 1) fun v3 =>
 bd (bx 103 (.agg (rep [(.bool false)] 256))) fun v4 =>
 bd (sta 256 v4 v2) fun _ =>
 f70_8 x0 x1 v4 v3) (
 f70_3 x0 x1)
theorem f70_7_eq (t : Tmps) : dcode E70 55 (c2 (c1 (c2 (c2 (c2 B70))))) t (kJ (fun t => f70_3 (t 0) (t 1)) K70) = f70_7 (t 0) (t 1) (t 26) := (cond_eq (a := c1 (c2 (c1 (c2 (c2 (c2 B70)))))) (b := c2 (c2 (c1 (c2 (c2 (c2 B70)))))) (seq_eq (a := (c1 (c1 (c2 (c1 (c2 (c2 (c2 B70)))))))) (b := (c2 (c1 (c2 (c1 (c2 (c2 (c2 B70)))))))) (fun t => f70_8_eq t) (by kernel_rfl)) (by kernel_rfl))
noncomputable def f70_2 (x0 x1 : AV) : M AV :=
 bd (lnS x0) fun v1 =>
 bd (f84 v1) fun v2 =>
 f70_7 x0 x1 v2
theorem f70_2_eq (t : Tmps) : dcode E70 55 (c2 (c2 (c2 B70))) t K70 = f70_2 (t 0) (t 1) := (seq_eq (a := (c1 (c2 (c2 (c2 B70))))) (b := (c2 (c2 (c2 (c2 B70))))) (fun t => f70_3_eq t) (seq_eq (a := (c1 (c1 (c2 (c2 (c2 B70)))))) (b := (c2 (c1 (c2 (c2 (c2 B70)))))) (fun t => f70_7_eq t) (by kernel_rfl)))
noncomputable def f70_15 (x0 x5 : AV) : M AV :=
 bd (f83 x0 x5) fun v1 =>
 ret v1
theorem f70_15_eq (t : Tmps) : dcode E70 55 (c2 (c2 (c1 (c2 (c1 (c2 (c2 B70))))))) t (kJ (fun t => f70_2 (t 0) (t 1)) K70) = f70_15 (t 0) (t 5) := by kernel_rfl
noncomputable def f70_14 (x0 x5 : AV) : M AV :=
 bd (bi .geq x5 (.int .i32 128)) fun v1 =>
 cnd v1 (
 f70_15 x0 (.int .i32 65533)) (
 f70_15 x0 x5)
theorem f70_14_eq (t : Tmps) : dcode E70 55 (c2 (c1 (c2 (c1 (c2 (c2 B70)))))) t (kJ (fun t => f70_2 (t 0) (t 1)) K70) = f70_14 (t 0) (t 5) := (seq_eq (a := (c1 (c2 (c1 (c2 (c1 (c2 (c2 B70)))))))) (b := (c2 (c2 (c1 (c2 (c1 (c2 (c2 B70)))))))) (fun t => f70_15_eq t) (by kernel_rfl))
noncomputable def f70_13 (x0 x1 x15 : AV) : M AV :=
 cnd x15 (
 bd (ixs x1 (.int .i64 0)) fun v1 =>
 bd (ci .i32 v1) fun v2 =>
 f70_14 x0 v2) (
 f70_2 x0 x1)
theorem f70_13_eq (t : Tmps) : dcode E70 55 (c2 (c1 (c2 (c2 B70)))) t (kJ (fun t => f70_2 (t 0) (t 1)) K70) = f70_13 (t 0) (t 1) (t 15) := (cond_eq (a := c1 (c2 (c1 (c2 (c2 B70))))) (b := c2 (c2 (c1 (c2 (c2 B70))))) (seq_eq (a := (c1 (c1 (c2 (c1 (c2 (c2 B70))))))) (b := (c2 (c1 (c2 (c1 (c2 (c2 B70))))))) (fun t => f70_14_eq t) (by kernel_rfl)) (by kernel_rfl))
noncomputable def f70_1 (x0 x1 : AV) : M AV :=
 bd (lnS x1) fun v1 =>
 bd (bi .eql v1 (.int .i64 1)) fun v2 =>
 f70_13 x0 x1 v2
theorem f70_1_eq (t : Tmps) : dcode E70 55 (c2 (c2 B70)) t K70 = f70_1 (t 0) (t 1) := (seq_eq (a := (c1 (c2 (c2 B70)))) (b := (c2 (c2 (c2 B70)))) (fun t => f70_2_eq t) (seq_eq (a := (c1 (c1 (c2 (c2 B70))))) (b := (c2 (c1 (c2 (c2 B70))))) (fun t => f70_13_eq t) (by kernel_rfl)))
noncomputable def f70_0 (x0 x1 : AV) : M AV :=
 bd (bi .eql x1 (.str [])) fun v1 =>
 cnd v1 (
 ret (.int .i64 (-1))) (
 f70_1 x0 x1)
theorem f70_0_eq (t : Tmps) : dcode E70 55 (c2 B70) t K70 = f70_0 (t 0) (t 1) := (seq_eq (a := (c1 (c2 B70))) (b := (c2 (c2 B70))) (fun t => f70_1_eq t) (by kernel_rfl))
noncomputable def f70 (x0 x1 : AV) : M AV :=
 f70_0 x0 x1
theorem f70_top (t : Tmps) : dcode E70 55 B70 t K70 = f70 (t 0) (t 1) := (seq_eq (a := (c1 B70)) (b := (c2 B70)) (fun t => f70_0_eq t) (by kernel_rfl))
theorem f70_eq (x0 x1 : AV) : dfn E70 Go.Proofs.Tryd.f70 [x0, x1] = f70 x0 x1 := dfn_eq (c := B70) (nt := 55) (K := K70) (by kernel_rfl) (by kernel_rfl) rfl (by kernel_rfl) (f70_top (argT [x0, x1]))
theorem O70 : EnvOK E70 := ⟨fun g xs => (ok_if (S83 xs) (ok_if (S84 xs) (ok_if (S85 xs) (ok_if (S86 xs) ok_fail)))), ap_fail⟩
theorem S70 (xs : List AV) : CallOK Go.Proofs.Tryd.prog 3 70 xs (L2 f70 xs) := ok_L2 (fun x0 x1 => ok_fn (E := E70) (fn := Go.Proofs.Tryd.f70) O70 rfl rfl (by kernel_rfl) (by kernel_rfl) (f70_eq x0 x1)) xs

/-! ### strings.ContainsAny: function 49 -/
noncomputable def C49 (g : FuncId) (xs : List AV) : M AV := bif Nat.beq g 70 then L2 f70 xs else fail
noncomputable def E49 : Env := ⟨Go.Proofs.Tryd.prog, 3, C49, fun _ _ => fail, fun _ => [], 49, none⟩
noncomputable def B49 : Code := bodyOf Go.Proofs.Tryd.f49
noncomputable def K49 : KT := dK Go.Proofs.Tryd.prog Go.Proofs.Tryd.f49.results.toList
noncomputable def f49 (x0 x1 : AV) : M AV :=
 bd (f70 x0 x1) fun v1 =>
 bd (bi .geq v1 (.int .i64 0)) fun v2 =>
 ret v2
theorem f49_eq (x0 x1 : AV) : dfn E49 Go.Proofs.Tryd.f49 [x0, x1] = f49 x0 x1 := dfn_eq (c := B49) (nt := 9) (K := K49) (by kernel_rfl) (by kernel_rfl) rfl (by kernel_rfl) (by kernel_rfl)
theorem O49 : EnvOK E49 := ⟨fun g xs => (ok_if (S70 xs) ok_fail), ap_fail⟩
theorem S49 (xs : List AV) : CallOK Go.Proofs.Tryd.prog 3 49 xs (L2 f49 xs) := ok_L2 (fun x0 x1 => ok_fn (E := E49) (fn := Go.Proofs.Tryd.f49) O49 rfl rfl (by kernel_rfl) (by kernel_rfl) (f49_eq x0 x1)) xs

/-! ### etui/iri.hex: function 50 -/
noncomputable def C50 (g : FuncId) (xs : List AV) : M AV := bif Nat.beq g 68 then L2 f68 xs else fail
noncomputable def E50 : Env := ⟨Go.Proofs.Tryd.prog, 3, C50, fun _ _ => fail, fun _ => [], 50, none⟩
noncomputable def B50 : Code := bodyOf Go.Proofs.Tryd.f50
noncomputable def K50 : KT := dK Go.Proofs.Tryd.prog Go.Proofs.Tryd.f50.results.toList
noncomputable def f50 (x0 : AV) : M AV :=
 bd (f68 (.str [48, 49, 50, 51, 52, 53, 54, 55, 56, 57, 97, 98, 99, 100, 101, 102, 65, 66, 67, 68, 69, 70]) x0) fun v1 =>
 bd (bi .geq v1 (.int .i64 0)) fun v2 =>
 ret v2
theorem f50_eq (x0 : AV) : dfn E50 Go.Proofs.Tryd.f50 [x0] = f50 x0 := dfn_eq (c := B50) (nt := 6) (K := K50) (by kernel_rfl) (by kernel_rfl) rfl (by kernel_rfl) (by kernel_rfl)
theorem O50 : EnvOK E50 := ⟨fun g xs => (ok_if (S68 xs) ok_fail), ap_fail⟩
theorem S50 (xs : List AV) : CallOK Go.Proofs.Tryd.prog 3 50 xs (L1 f50 xs) := ok_L1 (fun x0 => ok_fn (E := E50) (fn := Go.Proofs.Tryd.f50) O50 rfl rfl (by kernel_rfl) (by kernel_rfl) (f50_eq x0)) xs

/-! ### etui/iri.right: function 21 -/
noncomputable def C21 (g : FuncId) (xs : List AV) : M AV := bif Nat.beq g 49 then L2 f49 xs else bif Nat.beq g 50 then L1 f50 xs else fail
noncomputable def E21 : Env := ⟨Go.Proofs.Tryd.prog, 3, C21, fun _ _ => fail, fun _ => [], 21, none⟩
noncomputable def B21 : Code := bodyOf Go.Proofs.Tryd.f21
noncomputable def K21 : KT := dK Go.Proofs.Tryd.prog Go.Proofs.Tryd.f21.results.toList
noncomputable def f21_2 : M AV :=
 ret (.bool true)
theorem f21_2_eq (t : Tmps) : dcode E21 54 (c2 (c2 (c2 B21))) t K21 = f21_2 := by kernel_rfl
noncomputable def f21_b4 (L4 : AV → AV → AV → M AV) (x0 x13 x14 : AV) : M AV :=
 bd (bi .lss x14 x13) fun v1 =>
 cnd v1 (
 bd (ixs x0 x14) fun v2 =>
 bd (bi .leq v2 (.int .u8 32)) fun v3 =>
 bd (gd v3 false (ret v2)) fun v4 =>
 bd (gd v3 false (bi .eql v4 (.int .u8 127))) fun v5 =>
 bd (pk v3 (.bool true) v5) fun v6 =>
 cnd v6 (
 ret (.bool false)) (
 bd (bi .eql v2 (.int .u8 37)) fun v7 =>
 bd (gd v7 true (ret x14)) fun v8 =>
 bd (gd v7 true (bi .add v8 (.int .i64 2))) fun v9 =>
 bd (gd v7 true (ret x0)) fun v10 =>
 bd (gd v7 true (lnS v10)) fun v11 =>
 bd (gd v7 true (bi .geq v9 v11)) fun v12 =>
 bd (gd v7 true (ret v12)) fun v13 =>
 bd (gd v13 false (ret x0)) fun v14 =>
 bd (gd v13 false (ret x14)) fun v15 =>
 bd (gd v13 false (bi .add v15 (.int .i64 1))) fun v16 =>
 bd (gd v13 false (ixs v14 v16)) fun v17 =>
 bd (gd v13 false (f50 v17)) fun v18 =>
 bd (gd v13 false (un .not v18)) fun v19 =>
 bd (gd v7 true (pk v13 (.bool true) v19)) fun v20 =>
 bd (gd v7 true (ret v20)) fun v21 =>
 bd (gd v21 false (ret x0)) fun v22 =>
 bd (gd v21 false (ret x14)) fun v23 =>
 bd (gd v21 false (bi .add v23 (.int .i64 2))) fun v24 =>
 bd (gd v21 false (ixs v22 v24)) fun v25 =>
 bd (gd v21 false (f50 v25)) fun v26 =>
 bd (gd v21 false (un .not v26)) fun v27 =>
 bd (gd v7 true (pk v21 (.bool true) v27)) fun v28 =>
 bd (pk v7 v28 (.bool false)) fun v29 =>
 cnd v29 (
 ret (.bool false)) (
 bd (bi .add x14 (.int .i64 1)) fun v30 =>
 L4 x0 x13 v30))) (
 f21_2)
theorem f21_b4_eq (L4 : AV → AV → AV → M AV) (t : Tmps) : dcode E21 54 (c1 (c1 (c2 (c1 (c2 (c2 B21)))))) t (kJ (fun t => L4 (t 0) (t 13) (t 14)) (kB 0 (kJ (fun t => f21_2) K21))) = f21_b4 L4 (t 0) (t 13) (t 14) := by kernel_rfl
noncomputable def f21_l4 : Nat → AV → AV → AV → M AV
  | 0, _, _, _ => fail
  | n + 1, x0, x13, x14 => f21_b4 (f21_l4 n) x0 x13 x14
theorem f21_l4_eq (t : Tmps) : dcode E21 54 (c1 (c2 (c1 (c2 (c2 B21))))) t (kB 0 (kJ (fun t => f21_2) K21)) = f21_l4 fuel (t 0) (t 13) (t 14) :=
  dloop_eq (c := (c1 (c1 (c2 (c1 (c2 (c2 B21))))))) (g := fun n t => f21_l4 n (t 0) (t 13) (t 14)) (fun _ => rfl) (fun n t => f21_b4_eq (f21_l4 n) t)
noncomputable def f21_3 (x0 x13 x14 : AV) : M AV :=
 f21_l4 fuel x0 x13 x14
theorem f21_3_eq (t : Tmps) : dcode E21 54 (c2 (c1 (c2 (c2 B21)))) t (kJ (fun t => f21_2) K21) = f21_3 (t 0) (t 13) (t 14) := (f21_l4_eq _)
noncomputable def f21_1 (x0 : AV) : M AV :=
 bd (lnS x0) fun v1 =>
 f21_3 x0 v1 (.int .i64 0)
theorem f21_1_eq (t : Tmps) : dcode E21 54 (c2 (c2 B21)) t K21 = f21_1 (t 0) := (seq_eq (a := (c1 (c2 (c2 B21)))) (b := (c2 (c2 (c2 B21)))) (fun t => f21_2_eq t) (seq_eq (a := (c1 (c1 (c2 (c2 B21))))) (b := (c2 (c1 (c2 (c2 B21))))) (fun t => f21_3_eq t) (by kernel_rfl)))
noncomputable def f21_0 (x0 : AV) : M AV :=
 bd (lnS x0) fun v1 =>
 bd (bi .gtr v1 (.int .i64 1000)) fun v2 =>
 bd (gd v2 false (ret x0)) fun v3 =>
 bd (gd v2 false (f49 v3 (.str [34, 60, 62, 92, 94, 123, 124, 125, 96]))) fun v4 =>
 bd (pk v2 (.bool true) v4) fun v5 =>
 cnd v5 (
 ret (.bool false)) (
 f21_1 x0)
theorem f21_0_eq (t : Tmps) : dcode E21 54 (c2 B21) t K21 = f21_0 (t 0) := (seq_eq (a := (c1 (c2 B21))) (b := (c2 (c2 B21))) (fun t => f21_1_eq t) (by kernel_rfl))
noncomputable def f21 (x0 : AV) : M AV :=
 f21_0 x0
theorem f21_top (t : Tmps) : dcode E21 54 B21 t K21 = f21 (t 0) := (seq_eq (a := (c1 B21)) (b := (c2 B21)) (fun t => f21_0_eq t) (by kernel_rfl))
theorem f21_eq (x0 : AV) : dfn E21 Go.Proofs.Tryd.f21 [x0] = f21 x0 := dfn_eq (c := B21) (nt := 54) (K := K21) (by kernel_rfl) (by kernel_rfl) rfl (by kernel_rfl) (f21_top (argT [x0]))
theorem O21 : EnvOK E21 := ⟨fun g xs => (ok_if (S49 xs) (ok_if (S50 xs) ok_fail)), ap_fail⟩
theorem S21 (xs : List AV) : CallOK Go.Proofs.Tryd.prog 3 21 xs (L1 f21 xs) := ok_L1 (fun x0 => ok_fn (E := E21) (fn := Go.Proofs.Tryd.f21) O21 rfl rfl (by kernel_rfl) (by kernel_rfl) (f21_eq x0)) xs

/-! ### etui/iri.anyAt: function 51 -/
noncomputable def C51 (g : FuncId) (xs : List AV) : M AV := fail
noncomputable def E51 : Env := ⟨Go.Proofs.Tryd.prog, 3, C51, fun _ _ => fail, fun _ => [], 51, none⟩
noncomputable def B51 : Code := bodyOf Go.Proofs.Tryd.f51
noncomputable def K51 : KT := dK Go.Proofs.Tryd.prog Go.Proofs.Tryd.f51.results.toList
noncomputable def f51_1 : M AV :=
 ret (.int .i64 (-1))
theorem f51_1_eq (t : Tmps) : dcode E51 24 (c2 (c2 B51)) t K51 = f51_1 := by kernel_rfl
noncomputable def f51_b8 (L3 : AV → AV → M AV) (L8 : AV → AV → AV → AV → AV → M AV) (x1 x5 x6 x10 x16 : AV) : M AV :=
 bd (nxs x16) fun v1 =>
 bd (ex v1 0) fun v2 =>
 cnd v2 (
 bd (ex v1 2) fun v3 =>
 bd (bi .eql x6 v3) fun v4 =>
 cnd v4 (
 ret x5) (
 L8 x1 x5 x6 x10 x16)) (
 L3 x1 x10)
theorem f51_b8_eq (L3 : AV → AV → M AV) (L8 : AV → AV → AV → AV → AV → M AV) (t : Tmps) : dcode E51 24 (c1 (c1 (c2 (c2 (c1 (c2 (c2 (c1 (c1 (c2 (c1 (c2 B51)))))))))))) t (kJ (fun t => L8 (t 1) (t 5) (t 6) (t 10) (t 16)) (kB 2 (kB 1 (kJ (fun t => L3 (t 1) (t 10)) (kB 0 (kJ (fun t => f51_1) K51)))))) = f51_b8 L3 L8 (t 1) (t 5) (t 6) (t 10) (t 16) := by kernel_rfl
noncomputable def f51_l8 (L3 : AV → AV → M AV) : Nat → AV → AV → AV → AV → AV → M AV
  | 0, _, _, _, _, _ => fail
  | n + 1, x1, x5, x6, x10, x16 => f51_b8 L3 (f51_l8 L3 n) x1 x5 x6 x10 x16
theorem f51_l8_eq (L3 : AV → AV → M AV) (t : Tmps) : dcode E51 24 (c1 (c2 (c2 (c1 (c2 (c2 (c1 (c1 (c2 (c1 (c2 B51))))))))))) t (kB 2 (kB 1 (kJ (fun t => L3 (t 1) (t 10)) (kB 0 (kJ (fun t => f51_1) K51))))) = f51_l8 L3 fuel (t 1) (t 5) (t 6) (t 10) (t 16) :=
  dloop_eq (c := (c1 (c1 (c2 (c2 (c1 (c2 (c2 (c1 (c1 (c2 (c1 (c2 B51))))))))))))) (g := fun n t => f51_l8 L3 n (t 1) (t 5) (t 6) (t 10) (t 16)) (fun _ => rfl) (fun n t => f51_b8_eq L3 (f51_l8 L3 n) t)
noncomputable def f51_7 (L3 : AV → AV → M AV) (x1 x5 x6 x10 x16 : AV) : M AV :=
 f51_l8 L3 fuel x1 x5 x6 x10 x16
theorem f51_7_eq (L3 : AV → AV → M AV) (t : Tmps) : dcode E51 24 (c2 (c2 (c1 (c2 (c2 (c1 (c1 (c2 (c1 (c2 B51)))))))))) t (kB 1 (kJ (fun t => L3 (t 1) (t 10)) (kB 0 (kJ (fun t => f51_1) K51)))) = f51_7 L3 (t 1) (t 5) (t 6) (t 10) (t 16) := (f51_l8_eq L3 _)
noncomputable def f51_6 (L3 : AV → AV → M AV) (x1 x5 x6 x10 : AV) : M AV :=
 bd (rgs x1) fun v1 =>
 f51_7 L3 x1 x5 x6 x10 v1
theorem f51_6_eq (L3 : AV → AV → M AV) (t : Tmps) : dcode E51 24 (c2 (c1 (c2 (c2 (c1 (c1 (c2 (c1 (c2 B51))))))))) t (kB 1 (kJ (fun t => L3 (t 1) (t 10)) (kB 0 (kJ (fun t => f51_1) K51)))) = f51_6 L3 (t 1) (t 5) (t 6) (t 10) := (seq_eq (a := (c1 (c2 (c1 (c2 (c2 (c1 (c1 (c2 (c1 (c2 B51))))))))))) (b := (c2 (c2 (c1 (c2 (c2 (c1 (c1 (c2 (c1 (c2 B51))))))))))) (fun t => f51_7_eq L3 t) (by kernel_rfl))
noncomputable def f51_5 (L3 : AV → AV → M AV) (x1 x10 x11 : AV) : M AV :=
 bd (ex x11 1) fun v1 =>
 bd (ex x11 2) fun v2 =>
 f51_6 L3 x1 v1 v2 x10
theorem f51_5_eq (L3 : AV → AV → M AV) (t : Tmps) : dcode E51 24 (c2 (c2 (c1 (c1 (c2 (c1 (c2 B51))))))) t (kJ (fun t => L3 (t 1) (t 10)) (kB 0 (kJ (fun t => f51_1) K51))) = f51_5 L3 (t 1) (t 10) (t 11) := (seq_eq (a := (c1 (c1 (c2 (c2 (c1 (c1 (c2 (c1 (c2 B51)))))))))) (b := (c2 (c1 (c2 (c2 (c1 (c1 (c2 (c1 (c2 B51)))))))))) (fun t => f51_6_eq L3 t) (by kernel_rfl))
noncomputable def f51_4 (L3 : AV → AV → M AV) (x1 x10 x11 x12 : AV) : M AV :=
 cnd x12 (
 f51_5 L3 x1 x10 x11) (
 f51_1)
theorem f51_4_eq (L3 : AV → AV → M AV) (t : Tmps) : dcode E51 24 (c2 (c1 (c1 (c2 (c1 (c2 B51)))))) t (kJ (fun t => L3 (t 1) (t 10)) (kB 0 (kJ (fun t => f51_1) K51))) = f51_4 L3 (t 1) (t 10) (t 11) (t 12) := (seq_eq (a := (c1 (c2 (c1 (c1 (c2 (c1 (c2 B51)))))))) (b := (c2 (c2 (c1 (c1 (c2 (c1 (c2 B51)))))))) (fun t => f51_5_eq L3 t) (by kernel_rfl))
noncomputable def f51_b3 (L3 : AV → AV → M AV) (x1 x10 : AV) : M AV :=
 bd (nxs x10) fun v1 =>
 bd (ex v1 0) fun v2 =>
 f51_4 L3 x1 x10 v1 v2
theorem f51_b3_eq (L3 : AV → AV → M AV) (t : Tmps) : dcode E51 24 (c1 (c1 (c2 (c1 (c2 B51))))) t (kJ (fun t => L3 (t 1) (t 10)) (kB 0 (kJ (fun t => f51_1) K51))) = f51_b3 L3 (t 1) (t 10) := (seq_eq (a := (c1 (c1 (c1 (c2 (c1 (c2 B51))))))) (b := (c2 (c1 (c1 (c2 (c1 (c2 B51))))))) (fun t => f51_4_eq L3 t) (by kernel_rfl))
noncomputable def f51_l3 : Nat → AV → AV → M AV
  | 0, _, _ => fail
  | n + 1, x1, x10 => f51_b3 (f51_l3 n) x1 x10
theorem f51_l3_eq (t : Tmps) : dcode E51 24 (c1 (c2 (c1 (c2 B51)))) t (kB 0 (kJ (fun t => f51_1) K51)) = f51_l3 fuel (t 1) (t 10) :=
  dloop_eq (c := (c1 (c1 (c2 (c1 (c2 B51)))))) (g := fun n t => f51_l3 n (t 1) (t 10)) (fun _ => rfl) (fun n t => f51_b3_eq (f51_l3 n) t)
noncomputable def f51_2 (x1 x10 : AV) : M AV :=
 f51_l3 fuel x1 x10
theorem f51_2_eq (t : Tmps) : dcode E51 24 (c2 (c1 (c2 B51))) t (kJ (fun t => f51_1) K51) = f51_2 (t 1) (t 10) := (f51_l3_eq _)
noncomputable def f51_0 (x0 x1 : AV) : M AV :=
 bd (rgs x0) fun v1 =>
 f51_2 x1 v1
theorem f51_0_eq (t : Tmps) : dcode E51 24 (c2 B51) t K51 = f51_0 (t 0) (t 1) := (seq_eq (a := (c1 (c2 B51))) (b := (c2 (c2 B51))) (fun t => f51_1_eq t) (seq_eq (a := (c1 (c1 (c2 B51)))) (b := (c2 (c1 (c2 B51)))) (fun t => f51_2_eq t) (by kernel_rfl)))
noncomputable def f51 (x0 x1 : AV) : M AV :=
 f51_0 x0 x1
theorem f51_top (t : Tmps) : dcode E51 24 B51 t K51 = f51 (t 0) (t 1) := (seq_eq (a := (c1 B51)) (b := (c2 B51)) (fun t => f51_0_eq t) (by kernel_rfl))
theorem f51_eq (x0 x1 : AV) : dfn E51 Go.Proofs.Tryd.f51 [x0, x1] = f51 x0 x1 := dfn_eq (c := B51) (nt := 24) (K := K51) (by kernel_rfl) (by kernel_rfl) rfl (by kernel_rfl) (f51_top (argT [x0, x1]))
theorem O51 : EnvOK E51 := ⟨fun g xs => ok_fail, ap_fail⟩
theorem S51 (xs : List AV) : CallOK Go.Proofs.Tryd.prog 3 51 xs (L2 f51 xs) := ok_L2 (fun x0 x1 => ok_fn (E := E51) (fn := Go.Proofs.Tryd.f51) O51 rfl rfl (by kernel_rfl) (by kernel_rfl) (f51_eq x0 x1)) xs

/-! ### etui/iri.ahead: function 22 -/
noncomputable def C22 (g : FuncId) (xs : List AV) : M AV := bif Nat.beq g 51 then L2 f51 xs else fail
noncomputable def E22 : Env := ⟨Go.Proofs.Tryd.prog, 3, C22, fun _ _ => fail, fun i => bif Nat.beq i 4 then [0, 1, 2, 3, 4, 5, 6, 7] else [], 22, none⟩
noncomputable def B22 : Code := bodyOf Go.Proofs.Tryd.f22
noncomputable def K22 : KT := dK Go.Proofs.Tryd.prog Go.Proofs.Tryd.f22.results.toList
noncomputable def f22 (x0 x1 : AV) : M AV :=
 bd (f51 x0 x1) fun v1 =>
 bd (bi .lss v1 (.int .i64 0)) fun v2 =>
 cnd v2 (
 ret (.tuple [x0, (.str [])])) (
 bd (ret x0) fun v3 =>
 bd (ret v1) fun v4 =>
 bd (ss v3 none (some v4)) fun v5 =>
 bd (ret x0) fun v6 =>
 bd (ret v1) fun v7 =>
 bd (ss v6 (some v7) none) fun v8 =>
 bd (ret v5) fun v9 =>
 bd (ret v8) fun v10 =>
 ret (.tuple [v9, v10]))
theorem f22_eq (x0 x1 : AV) : dfn E22 Go.Proofs.Tryd.f22 [x0, x1] = f22 x0 x1 := dfn_eq (c := B22) (nt := 19) (K := K22) (by kernel_rfl) (by kernel_rfl) rfl (by kernel_rfl) (by kernel_rfl)
theorem O22 : EnvOK E22 := ⟨fun g xs => (ok_if (S51 xs) ok_fail), ap_fail⟩
theorem S22 (xs : List AV) : CallOK Go.Proofs.Tryd.prog 3 22 xs (L2 f22 xs) := ok_L2 (fun x0 x1 => ok_fn (E := E22) (fn := Go.Proofs.Tryd.f22) O22 rfl rfl (by kernel_rfl) (by kernel_rfl) (f22_eq x0 x1)) xs

/-! ### internal/stringslite.HasPrefix: function 52 -/
noncomputable def C52 (g : FuncId) (xs : List AV) : M AV := fail
noncomputable def E52 : Env := ⟨Go.Proofs.Tryd.prog, 3, C52, fun _ _ => fail, fun _ => [], 52, none⟩
noncomputable def B52 : Code := bodyOf Go.Proofs.Tryd.f52
noncomputable def K52 : KT := dK Go.Proofs.Tryd.prog Go.Proofs.Tryd.f52.results.toList
noncomputable def f52 (x0 x1 : AV) : M AV :=
 bd (lnS x0) fun v1 =>
 bd (lnS x1) fun v2 =>
 bd (bi .geq v1 v2) fun v3 =>
 bd (gd v3 true (ret x0)) fun v4 =>
 bd (gd v3 true (ret x1)) fun v5 =>
 bd (gd v3 true (lnS v5)) fun v6 =>
 bd (gd v3 true (ss v4 none (some v6))) fun v7 =>
 bd (gd v3 true (ret x1)) fun v8 =>
 bd (gd v3 true (bi .eql v7 v8)) fun v9 =>
 bd (pk v3 v9 (.bool false)) fun v10 =>
 ret v10
theorem f52_eq (x0 x1 : AV) : dfn E52 Go.Proofs.Tryd.f52 [x0, x1] = f52 x0 x1 := dfn_eq (c := B52) (nt := 18) (K := K52) (by kernel_rfl) (by kernel_rfl) rfl (by kernel_rfl) (by kernel_rfl)
theorem O52 : EnvOK E52 := ⟨fun g xs => ok_fail, ap_fail⟩
theorem S52 (xs : List AV) : CallOK Go.Proofs.Tryd.prog 3 52 xs (L2 f52 xs) := ok_L2 (fun x0 x1 => ok_fn (E := E52) (fn := Go.Proofs.Tryd.f52) O52 rfl rfl (by kernel_rfl) (by kernel_rfl) (f52_eq x0 x1)) xs

/-! ### strings.HasPrefix: function 23 -/
noncomputable def C23 (g : FuncId) (xs : List AV) : M AV := bif Nat.beq g 52 then L2 f52 xs else fail
noncomputable def E23 : Env := ⟨Go.Proofs.Tryd.prog, 3, C23, fun _ _ => fail, fun _ => [], 23, none⟩
noncomputable def B23 : Code := bodyOf Go.Proofs.Tryd.f23
noncomputable def K23 : KT := dK Go.Proofs.Tryd.prog Go.Proofs.Tryd.f23.results.toList
noncomputable def f23 (x0 x1 : AV) : M AV :=
 bd (f52 x0 x1) fun v1 =>
 ret v1
theorem f23_eq (x0 x1 : AV) : dfn E23 Go.Proofs.Tryd.f23 [x0, x1] = f23 x0 x1 := dfn_eq (c := B23) (nt := 8) (K := K23) (by kernel_rfl) (by kernel_rfl) rfl (by kernel_rfl) (by kernel_rfl)
theorem O23 : EnvOK E23 := ⟨fun g xs => (ok_if (S52 xs) ok_fail), ap_fail⟩
theorem S23 (xs : List AV) : CallOK Go.Proofs.Tryd.prog 3 23 xs (L2 f23 xs) := ok_L2 (fun x0 x1 => ok_fn (E := E23) (fn := Go.Proofs.Tryd.f23) O23 rfl rfl (by kernel_rfl) (by kernel_rfl) (f23_eq x0 x1)) xs

/-! ### strings.indexFunc: function 87 -/
noncomputable def C87 (ap : FuncId → List AV → M AV) (g : FuncId) (xs : List AV) : M AV := fail
noncomputable def E87 (ap : FuncId → List AV → M AV) : Env := ⟨Go.Proofs.Tryd.prog, 3, C87 ap, ap, fun _ => [], 87, none⟩
noncomputable def B87 : Code := bodyOf Go.Proofs.Tryd.f87
noncomputable def K87 : KT := dK Go.Proofs.Tryd.prog Go.Proofs.Tryd.f87.results.toList
noncomputable def f87_1 (ap : FuncId → List AV → M AV) : M AV :=
 ret (.int .i64 (-1))
theorem f87_1_eq (ap : FuncId → List AV → M AV) (t : Tmps) : dcode (E87 ap) 21 (c2 (c2 B87)) t K87 = f87_1 ap := by kernel_rfl
noncomputable def f87_b3 (ap : FuncId → List AV → M AV) (L3 : AV → AV → AV → M AV) (x1 x2 x10 : AV) : M AV :=
 bd (nxs x10) fun v1 =>
 bd (ex v1 0) fun v2 =>
 cnd v2 (
 bd (ex v1 1) fun v3 =>
 bd (ex v1 2) fun v4 =>
 bd (apv ap x1 [v4]) fun v5 =>
 bd (be .b .eql v5 x2) fun v6 =>
 cnd v6 (
 ret v3) (
 L3 x1 x2 x10)) (
 f87_1 ap)
theorem f87_b3_eq (ap : FuncId → List AV → M AV) (L3 : AV → AV → AV → M AV) (t : Tmps) : dcode (E87 ap) 21 (c1 (c1 (c2 (c1 (c2 B87))))) t (kJ (fun t => L3 (t 1) (t 2) (t 10)) (kB 0 (kJ (fun t => f87_1 ap) K87))) = f87_b3 ap L3 (t 1) (t 2) (t 10) := by kernel_rfl
noncomputable def f87_l3 (ap : FuncId → List AV → M AV) : Nat → AV → AV → AV → M AV
  | 0, _, _, _ => fail
  | n + 1, x1, x2, x10 => f87_b3 ap (f87_l3 ap n) x1 x2 x10
theorem f87_l3_eq (ap : FuncId → List AV → M AV) (t : Tmps) : dcode (E87 ap) 21 (c1 (c2 (c1 (c2 B87)))) t (kB 0 (kJ (fun t => f87_1 ap) K87)) = f87_l3 ap fuel (t 1) (t 2) (t 10) :=
  dloop_eq (c := (c1 (c1 (c2 (c1 (c2 B87)))))) (g := fun n t => f87_l3 ap n (t 1) (t 2) (t 10)) (fun _ => rfl) (fun n t => f87_b3_eq ap (f87_l3 ap n) t)
noncomputable def f87_2 (ap : FuncId → List AV → M AV) (x1 x2 x10 : AV) : M AV :=
 f87_l3 ap fuel x1 x2 x10
theorem f87_2_eq (ap : FuncId → List AV → M AV) (t : Tmps) : dcode (E87 ap) 21 (c2 (c1 (c2 B87))) t (kJ (fun t => f87_1 ap) K87) = f87_2 ap (t 1) (t 2) (t 10) := (f87_l3_eq ap _)
noncomputable def f87_0 (ap : FuncId → List AV → M AV) (x0 x1 x2 : AV) : M AV :=
 bd (rgs x0) fun v1 =>
 f87_2 ap x1 x2 v1
theorem f87_0_eq (ap : FuncId → List AV → M AV) (t : Tmps) : dcode (E87 ap) 21 (c2 B87) t K87 = f87_0 ap (t 0) (t 1) (t 2) := (seq_eq (a := (c1 (c2 B87))) (b := (c2 (c2 B87))) (fun t => f87_1_eq ap t) (seq_eq (a := (c1 (c1 (c2 B87)))) (b := (c2 (c1 (c2 B87)))) (fun t => f87_2_eq ap t) (by kernel_rfl)))
noncomputable def f87 (ap : FuncId → List AV → M AV) (x0 x1 x2 : AV) : M AV :=
 f87_0 ap x0 x1 x2
theorem f87_top (ap : FuncId → List AV → M AV) (t : Tmps) : dcode (E87 ap) 21 B87 t K87 = f87 ap (t 0) (t 1) (t 2) := (seq_eq (a := (c1 B87)) (b := (c2 B87)) (fun t => f87_0_eq ap t) (by kernel_rfl))
theorem f87_eq (ap : FuncId → List AV → M AV) (x0 x1 x2 : AV) : dfn (E87 ap) Go.Proofs.Tryd.f87 [x0, x1, x2] = f87 ap x0 x1 x2 := dfn_eq (c := B87) (nt := 21) (K := K87) (by kernel_rfl) (by kernel_rfl) rfl (by kernel_rfl) (f87_top ap (argT [x0, x1, x2]))
theorem O87 (ap : FuncId → List AV → M AV) (hap : ApOK Go.Proofs.Tryd.prog 3 ap) : EnvOK (E87 ap) := ⟨fun g xs => ok_fail, hap⟩
theorem S87 (ap : FuncId → List AV → M AV) (hap : ApOK Go.Proofs.Tryd.prog 3 ap) (xs : List AV) : CallOK Go.Proofs.Tryd.prog 3 87 xs (L3 (f87 ap) xs) := ok_L3 (fun x0 x1 x2 => ok_fn (E := (E87 ap)) (fn := Go.Proofs.Tryd.f87) (O87 ap hap) rfl rfl (by kernel_rfl) (by kernel_rfl) (f87_eq ap x0 x1 x2)) xs

/-! ### strings.IndexFunc: function 71 -/
noncomputable def C71 (ap : FuncId → List AV → M AV) (g : FuncId) (xs : List AV) : M AV := bif Nat.beq g 87 then L3 (f87 ap) xs else fail
noncomputable def E71 (ap : FuncId → List AV → M AV) : Env := ⟨Go.Proofs.Tryd.prog, 3, C71 ap, ap, fun _ => [], 71, none⟩
noncomputable def B71 : Code := bodyOf Go.Proofs.Tryd.f71
noncomputable def K71 : KT := dK Go.Proofs.Tryd.prog Go.Proofs.Tryd.f71.results.toList
noncomputable def f71 (ap : FuncId → List AV → M AV) (x0 x1 : AV) : M AV :=
 bd (f87 ap x0 x1 (.bool true)) fun v1 =>
 ret v1
theorem f71_eq (ap : FuncId → List AV → M AV) (x0 x1 : AV) : dfn (E71 ap) Go.Proofs.Tryd.f71 [x0, x1] = f71 ap x0 x1 := dfn_eq (c := B71) (nt := 8) (K := K71) (by kernel_rfl) (by kernel_rfl) rfl (by kernel_rfl) (by kernel_rfl)
theorem O71 (ap : FuncId → List AV → M AV) (hap : ApOK Go.Proofs.Tryd.prog 3 ap) : EnvOK (E71 ap) := ⟨fun g xs => (ok_if (S87 ap hap xs) ok_fail), hap⟩
theorem S71 (ap : FuncId → List AV → M AV) (hap : ApOK Go.Proofs.Tryd.prog 3 ap) (xs : List AV) : CallOK Go.Proofs.Tryd.prog 3 71 xs (L2 (f71 ap) xs) := ok_L2 (fun x0 x1 => ok_fn (E := (E71 ap)) (fn := Go.Proofs.Tryd.f71) (O71 ap hap) rfl rfl (by kernel_rfl) (by kernel_rfl) (f71_eq ap x0 x1)) xs

/-! ### strings.ContainsFunc: function 55 -/
noncomputable def C55 (ap : FuncId → List AV → M AV) (g : FuncId) (xs : List AV) : M AV := bif Nat.beq g 71 then L2 (f71 ap) xs else fail
noncomputable def E55 (ap : FuncId → List AV → M AV) : Env := ⟨Go.Proofs.Tryd.prog, 3, C55 ap, ap, fun _ => [], 55, none⟩
noncomputable def B55 : Code := bodyOf Go.Proofs.Tryd.f55
noncomputable def K55 : KT := dK Go.Proofs.Tryd.prog Go.Proofs.Tryd.f55.results.toList
noncomputable def f55 (ap : FuncId → List AV → M AV) (x0 x1 : AV) : M AV :=
 bd (f71 ap x0 x1) fun v1 =>
 bd (bi .geq v1 (.int .i64 0)) fun v2 =>
 ret v2
theorem f55_eq (ap : FuncId → List AV → M AV) (x0 x1 : AV) : dfn (E55 ap) Go.Proofs.Tryd.f55 [x0, x1] = f55 ap x0 x1 := dfn_eq (c := B55) (nt := 9) (K := K55) (by kernel_rfl) (by kernel_rfl) rfl (by kernel_rfl) (by kernel_rfl)
theorem O55 (ap : FuncId → List AV → M AV) (hap : ApOK Go.Proofs.Tryd.prog 3 ap) : EnvOK (E55 ap) := ⟨fun g xs => (ok_if (S71 ap hap xs) ok_fail), hap⟩
theorem S55 (ap : FuncId → List AV → M AV) (hap : ApOK Go.Proofs.Tryd.prog 3 ap) (xs : List AV) : CallOK Go.Proofs.Tryd.prog 3 55 xs (L2 (f55 ap) xs) := ok_L2 (fun x0 x1 => ok_fn (E := (E55 ap)) (fn := Go.Proofs.Tryd.f55) (O55 ap hap) rfl rfl (by kernel_rfl) (by kernel_rfl) (f55_eq ap x0 x1)) xs

/-! ### etui/iri.scheme: function 24 -/
noncomputable def C24 (ap : FuncId → List AV → M AV) (g : FuncId) (xs : List AV) : M AV := bif Nat.beq g 55 then L2 (f55 ap) xs else fail
noncomputable def E24 (ap : FuncId → List AV → M AV) : Env := ⟨Go.Proofs.Tryd.prog, 3, C24 ap, ap, fun i => bif Nat.beq i 3 then [0, 1, 2, 3, 4, 5, 6, 7, 8, 9, 10, 11, 12, 13, 14, 15] else [], 24, none⟩
noncomputable def B24 : Code := bodyOf Go.Proofs.Tryd.f24
noncomputable def K24 : KT := dK Go.Proofs.Tryd.prog Go.Proofs.Tryd.f24.results.toList
noncomputable def f24 (ap : FuncId → List AV → M AV) (x0 : AV) : M AV :=
 bd (bx 76 .nilFunc) fun v1 =>
 bd (st v1 (.func 53 [] [])) fun _ =>
 bd (ret (.func 54 [] [v1])) fun v2 =>
 bd (ret x0) fun v3 =>
 bd (bi .neq v3 (.str [])) fun v4 =>
 bd (ret v4) fun v5 =>
 bd (gd v5 true (ld v1)) fun v6 =>
 bd (gd v5 true (ret x0)) fun v7 =>
 bd (gd v5 true (ixs v7 (.int .i64 0))) fun v8 =>
 bd (gd v5 true (ci .i32 v8)) fun v9 =>
 bd (gd v5 true (apv ap v6 [v9])) fun v10 =>
 bd (pk v5 v10 (.bool false)) fun v11 =>
 bd (ret v11) fun v12 =>
 bd (gd v12 true (ret x0)) fun v13 =>
 bd (gd v12 true (ret v2)) fun v14 =>
 bd (gd v12 true (f55 ap v13 v14)) fun v15 =>
 bd (gd v12 true (un .not v15)) fun v16 =>
 bd (pk v12 v16 (.bool false)) fun v17 =>
 bd (ret v17) fun v18 =>
 ret v18
theorem f24_eq (ap : FuncId → List AV → M AV) (x0 : AV) : dfn (E24 ap) Go.Proofs.Tryd.f24 [x0] = f24 ap x0 := dfn_eq (c := B24) (nt := 21) (K := K24) (by kernel_rfl) (by kernel_rfl) rfl (by kernel_rfl) (by kernel_rfl)
theorem O24 (ap : FuncId → List AV → M AV) (hap : ApOK Go.Proofs.Tryd.prog 3 ap) : EnvOK (E24 ap) := ⟨fun g xs => (ok_if (S55 ap hap xs) ok_fail), hap⟩
theorem S24 (ap : FuncId → List AV → M AV) (hap : ApOK Go.Proofs.Tryd.prog 3 ap) (xs : List AV) : CallOK Go.Proofs.Tryd.prog 3 24 xs (L1 (f24 ap) xs) := ok_L1 (fun x0 => ok_fn (E := (E24 ap)) (fn := Go.Proofs.Tryd.f24) (O24 ap hap) rfl rfl (by kernel_rfl) (by kernel_rfl) (f24_eq ap x0)) xs

/-! ### internal/stringslite.CutPrefix: function 56 -/
noncomputable def C56 (g : FuncId) (xs : List AV) : M AV := bif Nat.beq g 52 then L2 f52 xs else fail
noncomputable def E56 : Env := ⟨Go.Proofs.Tryd.prog, 3, C56, fun _ _ => fail, fun _ => [], 56, none⟩
noncomputable def B56 : Code := bodyOf Go.Proofs.Tryd.f56
noncomputable def K56 : KT := dK Go.Proofs.Tryd.prog Go.Proofs.Tryd.f56.results.toList
noncomputable def f56 (x0 x1 : AV) : M AV :=
 bd (f52 x0 x1) fun v1 =>
 bd (un .not v1) fun v2 =>
 cnd v2 (
 ret (.tuple [x0, (.bool false)])) (
 bd (lnS x1) fun v3 =>
 bd (ss x0 (some v3) none) fun v4 =>
 ret (.tuple [v4, (.bool true)]))
theorem f56_eq (x0 x1 : AV) : dfn E56 Go.Proofs.Tryd.f56 [x0, x1] = f56 x0 x1 := dfn_eq (c := B56) (nt := 15) (K := K56) (by kernel_rfl) (by kernel_rfl) rfl (by kernel_rfl) (by kernel_rfl)
theorem O56 : EnvOK E56 := ⟨fun g xs => (ok_if (S52 xs) ok_fail), ap_fail⟩
theorem S56 (xs : List AV) : CallOK Go.Proofs.Tryd.prog 3 56 xs (L2 f56 xs) := ok_L2 (fun x0 x1 => ok_fn (E := E56) (fn := Go.Proofs.Tryd.f56) O56 rfl rfl (by kernel_rfl) (by kernel_rfl) (f56_eq x0 x1)) xs

/-! ### strings.CutPrefix: function 25 -/
noncomputable def C25 (g : FuncId) (xs : List AV) : M AV := bif Nat.beq g 56 then L2 f56 xs else fail
noncomputable def E25 : Env := ⟨Go.Proofs.Tryd.prog, 3, C25, fun _ _ => fail, fun _ => [], 25, none⟩
noncomputable def B25 : Code := bodyOf Go.Proofs.Tryd.f25
noncomputable def K25 : KT := dK Go.Proofs.Tryd.prog Go.Proofs.Tryd.f25.results.toList
noncomputable def f25 (x0 x1 : AV) : M AV :=
 bd (f56 x0 x1) fun v1 =>
 bd (ex v1 0) fun v2 =>
 bd (ex v1 1) fun v3 =>
 ret (.tuple [v2, v3])
theorem f25_eq (x0 x1 : AV) : dfn E25 Go.Proofs.Tryd.f25 [x0, x1] = f25 x0 x1 := dfn_eq (c := B25) (nt := 11) (K := K25) (by kernel_rfl) (by kernel_rfl) rfl (by kernel_rfl) (by kernel_rfl)
theorem O25 : EnvOK E25 := ⟨fun g xs => (ok_if (S56 xs) ok_fail), ap_fail⟩
theorem S25 (xs : List AV) : CallOK Go.Proofs.Tryd.prog 3 25 xs (L2 f25 xs) := ok_L2 (fun x0 x1 => ok_fn (E := E25) (fn := Go.Proofs.Tryd.f25) O25 rfl rfl (by kernel_rfl) (by kernel_rfl) (f25_eq x0 x1)) xs

/-! ### internal/stringslite.Cut: function 57 -/
noncomputable def C57 (g : FuncId) (xs : List AV) : M AV := bif Nat.beq g 72 then L2 (nIndex 0) xs else fail
noncomputable def E57 : Env := ⟨Go.Proofs.Tryd.prog, 3, C57, fun _ _ => fail, fun i => bif Nat.beq i 3 then [0, 1, 2, 3, 4, 5, 6, 7, 8, 9, 10, 11] else [], 57, none⟩
noncomputable def B57 : Code := bodyOf Go.Proofs.Tryd.f57
noncomputable def K57 : KT := dK Go.Proofs.Tryd.prog Go.Proofs.Tryd.f57.results.toList
noncomputable def f57 (x0 x1 : AV) : M AV :=
 bd ((nIndex 0) x0 x1) fun v1 =>
 bd (bi .geq v1 (.int .i64 0)) fun v2 =>
 cnd v2 (
 bd (ret x0) fun v3 =>
 bd (ret v1) fun v4 =>
 bd (ss v3 none (some v4)) fun v5 =>
 bd (ret x0) fun v6 =>
 bd (ret v1) fun v7 =>
 bd (ret x1) fun v8 =>
 bd (lnS v8) fun v9 =>
 bd (bi .add v7 v9) fun v10 =>
 bd (ss v6 (some v10) none) fun v11 =>
 bd (ret v5) fun v12 =>
 bd (ret v11) fun v13 =>
 bd (ret (.bool true)) fun v14 =>
 ret (.tuple [v12, v13, v14])) (
 ret (.tuple [x0, (.str []), (.bool false)]))
theorem f57_eq (x0 x1 : AV) : dfn E57 Go.Proofs.Tryd.f57 [x0, x1] = f57 x0 x1 := dfn_eq (c := B57) (nt := 23) (K := K57) (by kernel_rfl) (by kernel_rfl) rfl (by kernel_rfl) (by kernel_rfl)
theorem O57 : EnvOK E57 := ⟨fun g xs => (ok_if (N72 xs) ok_fail), ap_fail⟩
theorem S57 (xs : List AV) : CallOK Go.Proofs.Tryd.prog 3 57 xs (L2 f57 xs) := ok_L2 (fun x0 x1 => ok_fn (E := E57) (fn := Go.Proofs.Tryd.f57) O57 rfl rfl (by kernel_rfl) (by kernel_rfl) (f57_eq x0 x1)) xs

/-! ### strings.Cut: function 26 -/
noncomputable def C26 (g : FuncId) (xs : List AV) : M AV := bif Nat.beq g 57 then L2 f57 xs else fail
noncomputable def E26 : Env := ⟨Go.Proofs.Tryd.prog, 3, C26, fun _ _ => fail, fun _ => [], 26, none⟩
noncomputable def B26 : Code := bodyOf Go.Proofs.Tryd.f26
noncomputable def K26 : KT := dK Go.Proofs.Tryd.prog Go.Proofs.Tryd.f26.results.toList
noncomputable def f26 (x0 x1 : AV) : M AV :=
 bd (f57 x0 x1) fun v1 =>
 bd (ex v1 0) fun v2 =>
 bd (ex v1 1) fun v3 =>
 bd (ex v1 2) fun v4 =>
 ret (.tuple [v2, v3, v4])
theorem f26_eq (x0 x1 : AV) : dfn E26 Go.Proofs.Tryd.f26 [x0, x1] = f26 x0 x1 := dfn_eq (c := B26) (nt := 13) (K := K26) (by kernel_rfl) (by kernel_rfl) rfl (by kernel_rfl) (by kernel_rfl)
theorem O26 : EnvOK E26 := ⟨fun g xs => (ok_if (S57 xs) ok_fail), ap_fail⟩
theorem S26 (xs : List AV) : CallOK Go.Proofs.Tryd.prog 3 26 xs (L2 f26 xs) := ok_L2 (fun x0 x1 => ok_fn (E := E26) (fn := Go.Proofs.Tryd.f26) O26 rfl rfl (by kernel_rfl) (by kernel_rfl) (f26_eq x0 x1)) xs

/-! ### etui/iri.Cut: function 9 -/
noncomputable def C9 (ap : FuncId → List AV → M AV) (g : FuncId) (xs : List AV) : M AV := bif Nat.beq g 21 then L1 f21 xs else bif Nat.beq g 22 then L2 f22 xs else bif Nat.beq g 23 then L2 f23 xs else bif Nat.beq g 24 then L1 (f24 ap) xs else bif Nat.beq g 25 then L2 f25 xs else bif Nat.beq g 26 then L2 f26 xs else fail
noncomputable def E9 (ap : FuncId → List AV → M AV) : Env := ⟨Go.Proofs.Tryd.prog, 3, C9 ap, ap, fun i => bif Nat.beq i 5 then [0, 1, 2, 3, 4, 5, 6, 7] else [], 9, none⟩
noncomputable def B9 : Code := bodyOf Go.Proofs.Tryd.f9
noncomputable def K9 : KT := dK Go.Proofs.Tryd.prog Go.Proofs.Tryd.f9.results.toList
noncomputable def f9_3 (ap : FuncId → List AV → M AV) (x0 x2 : AV) : M AV :=
 bd (f26 x0 (.str [35])) fun v1 =>
 bd (ex v1 0) fun v2 =>
 bd (ex v1 1) fun v3 =>
 bd (ex v1 2) fun v4 =>
 bd (fa x2 4) fun v5 =>
 bd (st v5 v3) fun _ =>
 bd (fa x2 8) fun v6 =>
 bd (st v6 v4) fun _ =>
 bd (f26 v2 (.str [63])) fun v7 =>
 bd (ex v7 0) fun v8 =>
 bd (ex v7 1) fun v9 =>
 bd (ex v7 2) fun v10 =>
 bd (fa x2 2) fun v11 =>
 bd (st v11 v8) fun _ =>
 bd (fa x2 3) fun v12 =>
 bd (st v12 v9) fun _ =>
 bd (fa x2 7) fun v13 =>
 bd (st v13 v10) fun _ =>
 bd (lda 9 x2) fun v14 =>
 bd (sta 9 x2 v14) fun _ =>
 bd (lda 9 x2) fun v15 => ret (.tuple [v15, (.bool true)])
theorem f9_3_eq (ap : FuncId → List AV → M AV) (t : Tmps) : dcode (E9 ap) 59 (c2 (c2 (c2 (c2 B9)))) t K9 = f9_3 ap (t 0) (t 2) := by kernel_rfl
noncomputable def f9_2 (ap : FuncId → List AV → M AV) (x0 x2 : AV) : M AV :=
 bd (f25 x0 (.str [47, 47])) fun v1 =>
 bd (ex v1 0) fun v2 =>
 bd (ex v1 1) fun v3 =>
 cnd v3 (
 bd (fa x2 6) fun v4 =>
 bd (st v4 (.bool true)) fun _ =>
 bd (f22 v2 (.str [47, 63, 35])) fun v5 =>
 bd (ex v5 0) fun v6 =>
 bd (ex v5 1) fun v7 =>
 bd (fa x2 1) fun v8 =>
 bd (st v8 v6) fun _ =>
 f9_3 ap v7 x2) (
 f9_3 ap x0 x2)
theorem f9_2_eq (ap : FuncId → List AV → M AV) (t : Tmps) : dcode (E9 ap) 59 (c2 (c2 (c2 B9))) t K9 = f9_2 ap (t 0) (t 2) := (seq_eq (a := (c1 (c2 (c2 (c2 B9))))) (b := (c2 (c2 (c2 (c2 B9))))) (fun t => f9_3_eq ap t) (by kernel_rfl))
noncomputable def f9_1 (ap : FuncId → List AV → M AV) (x0 x2 : AV) : M AV :=
 bd (f22 x0 (.str [58, 47, 63, 35])) fun v1 =>
 bd (ex v1 0) fun v2 =>
 bd (ex v1 1) fun v3 =>
 bd (f23 v3 (.str [58])) fun v4 =>
 bd (gd v4 true (ret v2)) fun v5 =>
 bd (gd v4 true (f24 ap v5)) fun v6 =>
 bd (pk v4 v6 (.bool false)) fun v7 =>
 cnd v7 (
 bd (ret v2) fun v8 =>
 bd (ret v3) fun v9 =>
 bd (ss v9 (some (.int .i64 1)) none) fun v10 =>
 bd (fa x2 5) fun v11 =>
 bd (st v11 (.bool true)) fun v12 =>
 bd (fa x2 0) fun v13 =>
 bd (st v13 v8) fun v14 =>
 bd (ret v10) fun v15 =>
 f9_2 ap v15 x2) (
 f9_2 ap x0 x2)
theorem f9_1_eq (ap : FuncId → List AV → M AV) (t : Tmps) : dcode (E9 ap) 59 (c2 (c2 B9)) t K9 = f9_1 ap (t 0) (t 2) := (seq_eq (a := (c1 (c2 (c2 B9)))) (b := (c2 (c2 (c2 B9)))) (fun t => f9_2_eq ap t) (by kernel_rfl))
noncomputable def f9_0 (ap : FuncId → List AV → M AV) (x0 x2 : AV) : M AV :=
 bd (f21 x0) fun v1 =>
 bd (un .not v1) fun v2 =>
 cnd v2 (
 bd (bu [(.str []), (.str []), (.str []), (.str []), (.str []), (.bool false), (.bool false), (.bool false), (.bool false)] []) fun v3 =>
 bd (sta 9 x2 v3) fun _ =>
 bd (lda 9 x2) fun v4 => ret (.tuple [v4, (.bool false)])) (
 f9_1 ap x0 x2)
theorem f9_0_eq (ap : FuncId → List AV → M AV) (t : Tmps) : dcode (E9 ap) 59 (c2 B9) t K9 = f9_0 ap (t 0) (t 2) := (seq_eq (a := (c1 (c2 B9))) (b := (c2 (c2 B9))) (fun t => f9_1_eq ap t) (by kernel_rfl))
noncomputable def f9 (ap : FuncId → List AV → M AV) (x0 : AV) : M AV :=
 bd (bx 23 (.agg [(.str []), (.str []), (.str []), (.str []), (.str []), (.bool false), (.bool false), (.bool false), (.bool false)])) fun v1 =>
 f9_0 ap x0 v1
theorem f9_top (ap : FuncId → List AV → M AV) (t : Tmps) : dcode (E9 ap) 59 B9 t K9 = f9 ap (t 0) := (seq_eq (a := (c1 B9)) (b := (c2 B9)) (fun t => f9_0_eq ap t) (by kernel_rfl))
theorem f9_eq (ap : FuncId → List AV → M AV) (x0 : AV) : dfn (E9 ap) Go.Proofs.Tryd.f9 [x0] = f9 ap x0 := dfn_eq (c := B9) (nt := 59) (K := K9) (by kernel_rfl) (by kernel_rfl) rfl (by kernel_rfl) (f9_top ap (argT [x0]))
theorem O9 (ap : FuncId → List AV → M AV) (hap : ApOK Go.Proofs.Tryd.prog 3 ap) : EnvOK (E9 ap) := ⟨fun g xs => (ok_if (S21 xs) (ok_if (S22 xs) (ok_if (S23 xs) (ok_if (S24 ap hap xs) (ok_if (S25 xs) (ok_if (S26 xs) ok_fail)))))), hap⟩
theorem S9 (ap : FuncId → List AV → M AV) (hap : ApOK Go.Proofs.Tryd.prog 3 ap) (xs : List AV) : CallOK Go.Proofs.Tryd.prog 3 9 xs (L1 (f9 ap) xs) := ok_L1 (fun x0 => ok_fn (E := (E9 ap)) (fn := Go.Proofs.Tryd.f9) (O9 ap hap) rfl rfl (by kernel_rfl) (by kernel_rfl) (f9_eq ap x0)) xs

/-! ### (*strings.Builder).String: function 31 -/
noncomputable def C31 (g : FuncId) (xs : List AV) : M AV := fail
noncomputable def E31 : Env := ⟨Go.Proofs.Tryd.prog, 3, C31, fun _ _ => fail, fun i => bif Nat.beq i 1 then [0, 1, 2, 3, 4, 5, 6, 7, 8, 9, 10, 11] else [], 31, none⟩
noncomputable def B31 : Code := bodyOf Go.Proofs.Tryd.f31
noncomputable def K31 : KT := dK Go.Proofs.Tryd.prog Go.Proofs.Tryd.f31.results.toList
noncomputable def f31 (x0 : AV) : M AV :=
 bd (ret x0) fun v1 =>
 bd (nck v1) fun v2 =>
 bd (fa v2 1) fun v3 =>
 bd (ld v3) fun v4 =>
 bd (usd v4) fun v5 =>
 bd (ret x0) fun v6 =>
 bd (nck v6) fun v7 =>
 bd (fa v7 1) fun v8 =>
 bd (ld v8) fun v9 =>
 bd (lnL v9) fun v10 =>
 bd (ust 5 v5 v10) fun v11 =>
 bd (ret v11) fun v12 =>
 ret v12
theorem f31_eq (x0 : AV) : dfn E31 Go.Proofs.Tryd.f31 [x0] = f31 x0 := dfn_eq (c := B31) (nt := 14) (K := K31) (by kernel_rfl) (by kernel_rfl) rfl (by kernel_rfl) (by kernel_rfl)
theorem O31 : EnvOK E31 := ⟨fun g xs => ok_fail, ap_fail⟩
theorem S31 (xs : List AV) : CallOK Go.Proofs.Tryd.prog 3 31 xs (L1 f31 xs) := ok_L1 (fun x0 => ok_fn (E := E31) (fn := Go.Proofs.Tryd.f31) O31 rfl rfl (by kernel_rfl) (by kernel_rfl) (f31_eq x0)) xs

/-! ### etui/iri.Join: function 12 -/
noncomputable def C12 (ap : FuncId → List AV → M AV) (g : FuncId) (xs : List AV) : M AV := bif Nat.beq g 31 then L1 f31 xs else fail
noncomputable def E12 (ap : FuncId → List AV → M AV) : Env := ⟨Go.Proofs.Tryd.prog, 3, C12 ap, ap, fun _ => [], 12, none⟩
noncomputable def B12 : Code := bodyOf Go.Proofs.Tryd.f12
noncomputable def K12 : KT := dK Go.Proofs.Tryd.prog Go.Proofs.Tryd.f12.results.toList
noncomputable def f12 (ap : FuncId → List AV → M AV) (x0 : AV) : M AV :=
 bd (bx 23 x0) fun v1 =>
 bd (bx 56 (.agg [(.ptr none), .slN])) fun v2 =>
 bd (ret (.func 29 [] [v2])) fun v3 =>
 bd (fa v1 5) fun v4 =>
 bd (ld v4) fun v5 =>
 bd (fa v1 0) fun v6 =>
 bd (ld v6) fun v7 =>
 bd (bsl 9 1 2 [(.str []), (.str [])] [(0, 1, v7), (1, 1, (.str [58]))]) fun v8 =>
 bd (apv ap v3 [v5, v8]) fun v9 =>
 bd (fa v1 6) fun v10 =>
 bd (ld v10) fun v11 =>
 bd (fa v1 1) fun v12 =>
 bd (ld v12) fun v13 =>
 bd (bsl 9 1 2 [(.str []), (.str [])] [(0, 1, (.str [47, 47])), (1, 1, v13)]) fun v14 =>
 bd (apv ap v3 [v11, v14]) fun v15 =>
 bd (fa v1 2) fun v16 =>
 bd (ld v16) fun v17 =>
 bd (bsl 9 1 1 [(.str [])] [(0, 1, v17)]) fun v18 =>
 bd (apv ap v3 [(.bool true), v18]) fun v19 =>
 bd (fa v1 7) fun v20 =>
 bd (ld v20) fun v21 =>
 bd (fa v1 3) fun v22 =>
 bd (ld v22) fun v23 =>
 bd (bsl 9 1 2 [(.str []), (.str [])] [(0, 1, (.str [63])), (1, 1, v23)]) fun v24 =>
 bd (apv ap v3 [v21, v24]) fun v25 =>
 bd (fa v1 8) fun v26 =>
 bd (ld v26) fun v27 =>
 bd (fa v1 4) fun v28 =>
 bd (ld v28) fun v29 =>
 bd (bsl 9 1 2 [(.str []), (.str [])] [(0, 1, (.str [35])), (1, 1, v29)]) fun v30 =>
 bd (apv ap v3 [v27, v30]) fun v31 =>
 bd (f31 v2) fun v32 =>
 ret v32
theorem f12_eq (ap : FuncId → List AV → M AV) (x0 : AV) : dfn (E12 ap) Go.Proofs.Tryd.f12 [x0] = f12 ap x0 := dfn_eq (c := B12) (nt := 40) (K := K12) (by kernel_rfl) (by kernel_rfl) rfl (by kernel_rfl) (by kernel_rfl)
theorem O12 (ap : FuncId → List AV → M AV) (hap : ApOK Go.Proofs.Tryd.prog 3 ap) : EnvOK (E12 ap) := ⟨fun g xs => (ok_if (S31 xs) ok_fail), hap⟩
theorem S12 (ap : FuncId → List AV → M AV) (hap : ApOK Go.Proofs.Tryd.prog 3 ap) (xs : List AV) : CallOK Go.Proofs.Tryd.prog 3 12 xs (L1 (f12 ap) xs) := ok_L1 (fun x0 => ok_fn (E := (E12 ap)) (fn := Go.Proofs.Tryd.f12) (O12 ap hap) rfl rfl (by kernel_rfl) (by kernel_rfl) (f12_eq ap x0)) xs

/-! ### strings.splitSeq: function 74 -/
noncomputable def C74 (g : FuncId) (xs : List AV) : M AV := fail
noncomputable def E74 : Env := ⟨Go.Proofs.Tryd.prog, 3, C74, fun _ _ => fail, fun _ => [], 74, none⟩
noncomputable def B74 : Code := bodyOf Go.Proofs.Tryd.f74
noncomputable def K74 : KT := dK Go.Proofs.Tryd.prog Go.Proofs.Tryd.f74.results.toList
noncomputable def f74 (x0 x1 x2 : AV) : M AV :=
 bd (bx 9 x0) fun v1 =>
 bd (bx 9 x1) fun v2 =>
 bd (bx 3 x2) fun v3 =>
 bd (ret (.func 91 [] [v2, v1, v3])) fun v4 =>
 ret v4
theorem f74_eq (x0 x1 x2 : AV) : dfn E74 Go.Proofs.Tryd.f74 [x0, x1, x2] = f74 x0 x1 x2 := dfn_eq (c := B74) (nt := 8) (K := K74) (by kernel_rfl) (by kernel_rfl) rfl (by kernel_rfl) (by kernel_rfl)
theorem O74 : EnvOK E74 := ⟨fun g xs => ok_fail, ap_fail⟩
theorem S74 (xs : List AV) : CallOK Go.Proofs.Tryd.prog 3 74 xs (L3 f74 xs) := ok_L3 (fun x0 x1 x2 => ok_fn (E := E74) (fn := Go.Proofs.Tryd.f74) O74 rfl rfl (by kernel_rfl) (by kernel_rfl) (f74_eq x0 x1 x2)) xs

/-! ### strings.SplitSeq: function 60 -/
noncomputable def C60 (g : FuncId) (xs : List AV) : M AV := bif Nat.beq g 74 then L3 f74 xs else fail
noncomputable def E60 : Env := ⟨Go.Proofs.Tryd.prog, 3, C60, fun _ _ => fail, fun _ => [], 60, none⟩
noncomputable def B60 : Code := bodyOf Go.Proofs.Tryd.f60
noncomputable def K60 : KT := dK Go.Proofs.Tryd.prog Go.Proofs.Tryd.f60.results.toList
noncomputable def f60 (x0 x1 : AV) : M AV :=
 bd (f74 x0 x1 (.int .i64 0)) fun v1 =>
 ret v1
theorem f60_eq (x0 x1 : AV) : dfn E60 Go.Proofs.Tryd.f60 [x0, x1] = f60 x0 x1 := dfn_eq (c := B60) (nt := 8) (K := K60) (by kernel_rfl) (by kernel_rfl) rfl (by kernel_rfl) (by kernel_rfl)
theorem O60 : EnvOK E60 := ⟨fun g xs => (ok_if (S74 xs) ok_fail), ap_fail⟩
theorem S60 (xs : List AV) : CallOK Go.Proofs.Tryd.prog 3 60 xs (L2 f60 xs) := ok_L2 (fun x0 x1 => ok_fn (E := E60) (fn := Go.Proofs.Tryd.f60) O60 rfl rfl (by kernel_rfl) (by kernel_rfl) (f60_eq x0 x1)) xs

/-! ### etui/pname.letter: function 67 -/
noncomputable def C67 (g : FuncId) (xs : List AV) : M AV := fail
noncomputable def E67 : Env := ⟨Go.Proofs.Tryd.prog, 3, C67, fun _ _ => fail, fun _ => [], 67, none⟩
noncomputable def B67 : Code := bodyOf Go.Proofs.Tryd.f67
noncomputable def K67 : KT := dK Go.Proofs.Tryd.prog Go.Proofs.Tryd.f67.results.toList
noncomputable def f67 (x0 : AV) : M AV :=
 bd (bi .geq x0 (.int .u8 65)) fun v1 =>
 bd (gd v1 true (ret x0)) fun v2 =>
 bd (gd v1 true (bi .leq v2 (.int .u8 90))) fun v3 =>
 bd (pk v1 v3 (.bool false)) fun v4 =>
 bd (gd v4 false (ret x0)) fun v5 =>
 bd (gd v4 false (bi .geq v5 (.int .u8 97))) fun v6 =>
 bd (gd v4 false (ret v6)) fun v7 =>
 bd (gd v7 true (ret x0)) fun v8 =>
 bd (gd v7 true (bi .leq v8 (.int .u8 122))) fun v9 =>
 bd (gd v4 false (pk v7 v9 (.bool false))) fun v10 =>
 bd (pk v4 (.bool true) v10) fun v11 =>
 ret v11
theorem f67_eq (x0 : AV) : dfn E67 Go.Proofs.Tryd.f67 [x0] = f67 x0 := dfn_eq (c := B67) (nt := 17) (K := K67) (by kernel_rfl) (by kernel_rfl) rfl (by kernel_rfl) (by kernel_rfl)
theorem O67 : EnvOK E67 := ⟨fun g xs => ok_fail, ap_fail⟩
theorem S67 (xs : List AV) : CallOK Go.Proofs.Tryd.prog 3 67 xs (L1 f67 xs) := ok_L1 (fun x0 => ok_fn (E := E67) (fn := Go.Proofs.Tryd.f67) O67 rfl rfl (by kernel_rfl) (by kernel_rfl) (f67_eq x0)) xs

/-! ### etui/pname.digit: function 66 -/
noncomputable def C66 (g : FuncId) (xs : List AV) : M AV := bif Nat.beq g 67 then L1 f67 xs else bif Nat.beq g 68 then L2 f68 xs else fail
noncomputable def E66 : Env := ⟨Go.Proofs.Tryd.prog, 3, C66, fun _ _ => fail, fun _ => [], 66, none⟩
noncomputable def B66 : Code := bodyOf Go.Proofs.Tryd.f66
noncomputable def K66 : KT := dK Go.Proofs.Tryd.prog Go.Proofs.Tryd.f66.results.toList
noncomputable def f66_1 (x0 : AV) : M AV :=
 bd (f68 (.str [48, 49, 50, 51, 52, 53, 54, 55, 56, 57, 65, 66, 67, 68, 69, 70]) x0) fun v1 =>
 ret v1
theorem f66_1_eq (t : Tmps) : dcode E66 9 (c2 (c2 B66)) t K66 = f66_1 (t 0) := by kernel_rfl
noncomputable def f66_0 (x0 : AV) : M AV :=
 bd (f67 x0) fun v1 =>
 cnd v1 (
 bd (bi .andNot x0 (.int .u8 32)) fun v2 =>
 f66_1 v2) (
 f66_1 x0)
theorem f66_0_eq (t : Tmps) : dcode E66 9 (c2 B66) t K66 = f66_0 (t 0) := (seq_eq (a := (c1 (c2 B66))) (b := (c2 (c2 B66))) (fun t => f66_1_eq t) (by kernel_rfl))
noncomputable def f66 (x0 : AV) : M AV :=
 f66_0 x0
theorem f66_top (t : Tmps) : dcode E66 9 B66 t K66 = f66 (t 0) := (seq_eq (a := (c1 B66)) (b := (c2 B66)) (fun t => f66_0_eq t) (by kernel_rfl))
theorem f66_eq (x0 : AV) : dfn E66 Go.Proofs.Tryd.f66 [x0] = f66 x0 := dfn_eq (c := B66) (nt := 9) (K := K66) (by kernel_rfl) (by kernel_rfl) rfl (by kernel_rfl) (f66_top (argT [x0]))
theorem O66 : EnvOK E66 := ⟨fun g xs => (ok_if (S67 xs) (ok_if (S68 xs) ok_fail)), ap_fail⟩
theorem S66 (xs : List AV) : CallOK Go.Proofs.Tryd.prog 3 66 xs (L1 f66 xs) := ok_L1 (fun x0 => ok_fn (E := E66) (fn := Go.Proofs.Tryd.f66) O66 rfl rfl (by kernel_rfl) (by kernel_rfl) (f66_eq x0)) xs

/-! ### etui/pname.told: function 41 -/
noncomputable def C41 (g : FuncId) (xs : List AV) : M AV := bif Nat.beq g 66 then L1 f66 xs else fail
noncomputable def E41 : Env := ⟨Go.Proofs.Tryd.prog, 3, C41, fun _ _ => fail, fun i => bif Nat.beq i 3 then [0, 1, 3, 4, 2, 5, 6, 7] else [], 41, none⟩
noncomputable def B41 : Code := bodyOf Go.Proofs.Tryd.f41
noncomputable def K41 : KT := dK Go.Proofs.Tryd.prog Go.Proofs.Tryd.f41.results.toList
noncomputable def f41 (x0 : AV) : M AV :=
 bd (lnS x0) fun v1 =>
 bd (bi .lss v1 (.int .i64 3)) fun v2 =>
 bd (gd v2 false (ret x0)) fun v3 =>
 bd (gd v2 false (ixs v3 (.int .i64 0))) fun v4 =>
 bd (gd v2 false (bi .neq v4 (.int .u8 37))) fun v5 =>
 bd (pk v2 (.bool true) v5) fun v6 =>
 cnd v6 (
 ret (.tuple [(.int .u8 0), (.bool false)])) (
 bd (ret x0) fun v7 =>
 bd (ixs v7 (.int .i64 1)) fun v8 =>
 bd (ret x0) fun v9 =>
 bd (ixs v9 (.int .i64 2)) fun v10 =>
 bd (f66 v8) fun v11 =>
 bd (f66 v10) fun v12 =>
 bd (ret v11) fun v13 =>
 bd (ret v12) fun v14 =>
 bd (bi .shl v13 (.int .u64 4)) fun v15 =>
 bd (bi .and v14 (.int .i64 15)) fun v16 =>
 bd (bi .or v15 v16) fun v17 =>
 bd (ci .u8 v17) fun v18 =>
 bd (bi .geq v13 (.int .i64 0)) fun v19 =>
 bd (gd v19 true (ret v14)) fun v20 =>
 bd (gd v19 true (bi .geq v20 (.int .i64 0))) fun v21 =>
 bd (pk v19 v21 (.bool false)) fun v22 =>
 ret (.tuple [v18, v22]))
theorem f41_eq (x0 : AV) : dfn E41 Go.Proofs.Tryd.f41 [x0] = f41 x0 := dfn_eq (c := B41) (nt := 32) (K := K41) (by kernel_rfl) (by kernel_rfl) rfl (by kernel_rfl) (by kernel_rfl)
theorem O41 : EnvOK E41 := ⟨fun g xs => (ok_if (S66 xs) ok_fail), ap_fail⟩
theorem S41 (xs : List AV) : CallOK Go.Proofs.Tryd.prog 3 41 xs (L1 f41 xs) := ok_L1 (fun x0 => ok_fn (E := E41) (fn := Go.Proofs.Tryd.f41) O41 rfl rfl (by kernel_rfl) (by kernel_rfl) (f41_eq x0)) xs

/-! ### etui/pname.plain: function 42 -/
noncomputable def C42 (g : FuncId) (xs : List AV) : M AV := bif Nat.beq g 67 then L1 f67 xs else bif Nat.beq g 68 then L2 f68 xs else fail
noncomputable def E42 : Env := ⟨Go.Proofs.Tryd.prog, 3, C42, fun _ _ => fail, fun _ => [], 42, none⟩
noncomputable def B42 : Code := bodyOf Go.Proofs.Tryd.f42
noncomputable def K42 : KT := dK Go.Proofs.Tryd.prog Go.Proofs.Tryd.f42.results.toList
noncomputable def f42 (x0 : AV) : M AV :=
 bd (f67 x0) fun v1 =>
 bd (gd v1 false (ret x0)) fun v2 =>
 bd (gd v1 false (bi .geq v2 (.int .u8 48))) fun v3 =>
 bd (gd v1 false (ret v3)) fun v4 =>
 bd (gd v4 true (ret x0)) fun v5 =>
 bd (gd v4 true (bi .leq v5 (.int .u8 57))) fun v6 =>
 bd (gd v1 false (pk v4 v6 (.bool false))) fun v7 =>
 bd (pk v1 (.bool true) v7) fun v8 =>
 bd (gd v8 false (ret x0)) fun v9 =>
 bd (gd v8 false (f68 (.str [45, 46, 95, 126]) v9)) fun v10 =>
 bd (gd v8 false (bi .geq v10 (.int .i64 0))) fun v11 =>
 bd (pk v8 (.bool true) v11) fun v12 =>
 ret v12
theorem f42_eq (x0 : AV) : dfn E42 Go.Proofs.Tryd.f42 [x0] = f42 x0 := dfn_eq (c := B42) (nt := 18) (K := K42) (by kernel_rfl) (by kernel_rfl) rfl (by kernel_rfl) (by kernel_rfl)
theorem O42 : EnvOK E42 := ⟨fun g xs => (ok_if (S67 xs) (ok_if (S68 xs) ok_fail)), ap_fail⟩
theorem S42 (xs : List AV) : CallOK Go.Proofs.Tryd.prog 3 42 xs (L1 f42 xs) := ok_L1 (fun x0 => ok_fn (E := E42) (fn := Go.Proofs.Tryd.f42) O42 rfl rfl (by kernel_rfl) (by kernel_rfl) (f42_eq x0)) xs

/-! ### etui/pname.sign: function 45 -/
noncomputable def C45 (g : FuncId) (xs : List AV) : M AV := bif Nat.beq g 42 then L1 f42 xs else bif Nat.beq g 68 then L2 f68 xs else fail
noncomputable def E45 : Env := ⟨Go.Proofs.Tryd.prog, 3, C45, fun _ _ => fail, fun _ => [], 45, none⟩
noncomputable def B45 : Code := bodyOf Go.Proofs.Tryd.f45
noncomputable def K45 : KT := dK Go.Proofs.Tryd.prog Go.Proofs.Tryd.f45.results.toList
noncomputable def f45 (x0 : AV) : M AV :=
 bd (f42 x0) fun v1 =>
 bd (gd v1 false (ret x0)) fun v2 =>
 bd (gd v1 false (f68 (.str [33, 36, 38, 39, 40, 41, 42, 43, 44, 59, 61, 58, 64]) v2)) fun v3 =>
 bd (gd v1 false (bi .geq v3 (.int .i64 0))) fun v4 =>
 bd (pk v1 (.bool true) v4) fun v5 =>
 ret v5
theorem f45_eq (x0 : AV) : dfn E45 Go.Proofs.Tryd.f45 [x0] = f45 x0 := dfn_eq (c := B45) (nt := 10) (K := K45) (by kernel_rfl) (by kernel_rfl) rfl (by kernel_rfl) (by kernel_rfl)
theorem O45 : EnvOK E45 := ⟨fun g xs => (ok_if (S42 xs) (ok_if (S68 xs) ok_fail)), ap_fail⟩
theorem S45 (xs : List AV) : CallOK Go.Proofs.Tryd.prog 3 45 xs (L1 f45 xs) := ok_L1 (fun x0 => ok_fn (E := E45) (fn := Go.Proofs.Tryd.f45) O45 rfl rfl (by kernel_rfl) (by kernel_rfl) (f45_eq x0)) xs

/-! ### internal/stringslite.HasSuffix: function 93 -/
noncomputable def C93 (g : FuncId) (xs : List AV) : M AV := fail
noncomputable def E93 : Env := ⟨Go.Proofs.Tryd.prog, 3, C93, fun _ _ => fail, fun _ => [], 93, none⟩
noncomputable def B93 : Code := bodyOf Go.Proofs.Tryd.f93
noncomputable def K93 : KT := dK Go.Proofs.Tryd.prog Go.Proofs.Tryd.f93.results.toList
noncomputable def f93 (x0 x1 : AV) : M AV :=
 bd (lnS x0) fun v1 =>
 bd (lnS x1) fun v2 =>
 bd (bi .geq v1 v2) fun v3 =>
 bd (gd v3 true (ret x0)) fun v4 =>
 bd (gd v3 true (ret x0)) fun v5 =>
 bd (gd v3 true (lnS v5)) fun v6 =>
 bd (gd v3 true (ret x1)) fun v7 =>
 bd (gd v3 true (lnS v7)) fun v8 =>
 bd (gd v3 true (bi .sub v6 v8)) fun v9 =>
 bd (gd v3 true (ss v4 (some v9) none)) fun v10 =>
 bd (gd v3 true (ret x1)) fun v11 =>
 bd (gd v3 true (bi .eql v10 v11)) fun v12 =>
 bd (pk v3 v12 (.bool false)) fun v13 =>
 ret v13
theorem f93_eq (x0 x1 : AV) : dfn E93 Go.Proofs.Tryd.f93 [x0, x1] = f93 x0 x1 := dfn_eq (c := B93) (nt := 21) (K := K93) (by kernel_rfl) (by kernel_rfl) rfl (by kernel_rfl) (by kernel_rfl)
theorem O93 : EnvOK E93 := ⟨fun g xs => ok_fail, ap_fail⟩
theorem S93 (xs : List AV) : CallOK Go.Proofs.Tryd.prog 3 93 xs (L2 f93 xs) := ok_L2 (fun x0 x1 => ok_fn (E := E93) (fn := Go.Proofs.Tryd.f93) O93 rfl rfl (by kernel_rfl) (by kernel_rfl) (f93_eq x0 x1)) xs

/-! ### strings.HasSuffix: function 75 -/
noncomputable def C75 (g : FuncId) (xs : List AV) : M AV := bif Nat.beq g 93 then L2 f93 xs else fail
noncomputable def E75 : Env := ⟨Go.Proofs.Tryd.prog, 3, C75, fun _ _ => fail, fun _ => [], 75, none⟩
noncomputable def B75 : Code := bodyOf Go.Proofs.Tryd.f75
noncomputable def K75 : KT := dK Go.Proofs.Tryd.prog Go.Proofs.Tryd.f75.results.toList
noncomputable def f75 (x0 x1 : AV) : M AV :=
 bd (f93 x0 x1) fun v1 =>
 ret v1
theorem f75_eq (x0 x1 : AV) : dfn E75 Go.Proofs.Tryd.f75 [x0, x1] = f75 x0 x1 := dfn_eq (c := B75) (nt := 8) (K := K75) (by kernel_rfl) (by kernel_rfl) rfl (by kernel_rfl) (by kernel_rfl)
theorem O75 : EnvOK E75 := ⟨fun g xs => (ok_if (S93 xs) ok_fail), ap_fail⟩
theorem S75 (xs : List AV) : CallOK Go.Proofs.Tryd.prog 3 75 xs (L2 f75 xs) := ok_L2 (fun x0 x1 => ok_fn (E := E75) (fn := Go.Proofs.Tryd.f75) O75 rfl rfl (by kernel_rfl) (by kernel_rfl) (f75_eq x0 x1)) xs

/-! ### etui/pname.segment: function 61 -/
noncomputable def C61 (g : FuncId) (xs : List AV) : M AV := bif Nat.beq g 41 then L1 f41 xs else bif Nat.beq g 42 then L1 f42 xs else bif Nat.beq g 45 then L1 f45 xs else bif Nat.beq g 75 then L2 f75 xs else fail
noncomputable def E61 : Env := ⟨Go.Proofs.Tryd.prog, 3, C61, fun _ _ => fail, fun _ => [], 61, none⟩
noncomputable def B61 : Code := bodyOf Go.Proofs.Tryd.f61
noncomputable def K61 : KT := dK Go.Proofs.Tryd.prog Go.Proofs.Tryd.f61.results.toList
noncomputable def f61_2 : M AV :=
 ret (.bool true)
theorem f61_2_eq (t : Tmps) : dcode E61 47 (c2 (c2 (c2 B61))) t K61 = f61_2 := by kernel_rfl
noncomputable def f61_b3 (L3 : AV → M AV) (x0 : AV) : M AV :=
 bd (bi .neq x0 (.str [])) fun v1 =>
 cnd v1 (
 bd (f41 x0) fun v2 =>
 bd (ex v2 0) fun v3 =>
 bd (ex v2 1) fun v4 =>
 bd (gd v4 true (ret v3)) fun v5 =>
 bd (gd v4 true (f42 v5)) fun v6 =>
 bd (gd v4 true (ret v6)) fun v7 =>
 bd (gd v7 false (ret v3)) fun v8 =>
 bd (gd v7 false (bi .eql v8 (.int .u8 47))) fun v9 =>
 bd (gd v4 true (pk v7 (.bool true) v9)) fun v10 =>
 bd (gd v4 true (ret v10)) fun v11 =>
 bd (gd v11 false (ret v3)) fun v12 =>
 bd (gd v11 false (bi .eql v12 (.int .u8 92))) fun v13 =>
 bd (gd v4 true (pk v11 (.bool true) v13)) fun v14 =>
 bd (gd v4 true (ret v14)) fun v15 =>
 bd (gd v15 false (ret v3)) fun v16 =>
 bd (gd v15 false (bi .eql v16 (.int .u8 0))) fun v17 =>
 bd (gd v4 true (pk v15 (.bool true) v17)) fun v18 =>
 bd (pk v4 v18 (.bool false)) fun v19 =>
 cnd v19 (
 ret (.bool false)) (
 cnd v4 (
 bd (ss x0 (some (.int .i64 3)) none) fun v20 =>
 L3 v20) (
 bd (ixs x0 (.int .i64 0)) fun v21 =>
 bd (f45 v21) fun v22 =>
 bd (un .not v22) fun v23 =>
 cnd v23 (
 ret (.bool false)) (
 bd (ss x0 (some (.int .i64 1)) none) fun v24 =>
 L3 v24)))) (
 f61_2)
theorem f61_b3_eq (L3 : AV → M AV) (t : Tmps) : dcode E61 47 (c1 (c1 (c1 (c2 (c2 B61))))) t (kJ (fun t => L3 (t 0)) (kB 0 (kJ (fun t => f61_2) K61))) = f61_b3 L3 (t 0) := by kernel_rfl
noncomputable def f61_l3 : Nat → AV → M AV
  | 0, _ => fail
  | n + 1, x0 => f61_b3 (f61_l3 n) x0
theorem f61_l3_eq (t : Tmps) : dcode E61 47 (c1 (c1 (c2 (c2 B61)))) t (kB 0 (kJ (fun t => f61_2) K61)) = f61_l3 fuel (t 0) :=
  dloop_eq (c := (c1 (c1 (c1 (c2 (c2 B61)))))) (g := fun n t => f61_l3 n (t 0)) (fun _ => rfl) (fun n t => f61_b3_eq (f61_l3 n) t)
noncomputable def f61_1 (x0 : AV) : M AV :=
 f61_l3 fuel x0
theorem f61_1_eq (t : Tmps) : dcode E61 47 (c2 (c2 B61)) t K61 = f61_1 (t 0) := (seq_eq (a := (c1 (c2 (c2 B61)))) (b := (c2 (c2 (c2 B61)))) (fun t => f61_2_eq t) (f61_l3_eq _))
noncomputable def f61_0 (x0 : AV) : M AV :=
 bd (bi .eql x0 (.str [])) fun v1 =>
 bd (gd v1 false (ret x0)) fun v2 =>
 bd (gd v1 false (f75 v2 (.str [46]))) fun v3 =>
 bd (pk v1 (.bool true) v3) fun v4 =>
 cnd v4 (
 ret (.bool false)) (
 f61_1 x0)
theorem f61_0_eq (t : Tmps) : dcode E61 47 (c2 B61) t K61 = f61_0 (t 0) := (seq_eq (a := (c1 (c2 B61))) (b := (c2 (c2 B61))) (fun t => f61_1_eq t) (by kernel_rfl))
noncomputable def f61 (x0 : AV) : M AV :=
 f61_0 x0
theorem f61_top (t : Tmps) : dcode E61 47 B61 t K61 = f61 (t 0) := (seq_eq (a := (c1 B61)) (b := (c2 B61)) (fun t => f61_0_eq t) (by kernel_rfl))
theorem f61_eq (x0 : AV) : dfn E61 Go.Proofs.Tryd.f61 [x0] = f61 x0 := dfn_eq (c := B61) (nt := 47) (K := K61) (by kernel_rfl) (by kernel_rfl) rfl (by kernel_rfl) (f61_top (argT [x0]))
theorem O61 : EnvOK E61 := ⟨fun g xs => (ok_if (S41 xs) (ok_if (S42 xs) (ok_if (S45 xs) (ok_if (S75 xs) ok_fail)))), ap_fail⟩
theorem S61 (xs : List AV) : CallOK Go.Proofs.Tryd.prog 3 61 xs (L1 f61 xs) := ok_L1 (fun x0 => ok_fn (E := E61) (fn := Go.Proofs.Tryd.f61) O61 rfl rfl (by kernel_rfl) (by kernel_rfl) (f61_eq x0)) xs

/-! ### etui/pname.Right: function 35 -/
noncomputable def C35 (ap : FuncId → List AV → M AV) (g : FuncId) (xs : List AV) : M AV := bif Nat.beq g 25 then L2 f25 xs else bif Nat.beq g 60 then L2 f60 xs else bif Nat.beq g 61 then L1 f61 xs else fail
noncomputable def E35 (ap : FuncId → List AV → M AV) : Env := ⟨Go.Proofs.Tryd.prog, 3, C35 ap, ap, fun _ => [], 35, none⟩
noncomputable def B35 : Code := bodyOf Go.Proofs.Tryd.f35
noncomputable def K35 : KT := dK Go.Proofs.Tryd.prog Go.Proofs.Tryd.f35.results.toList
noncomputable def f35_0 (ap : FuncId → List AV → M AV) (i : Nat) (x2 x5 : AV) : M AV :=
 bd (f61 x5) fun v1 =>
 bd (un .not v1) fun v2 =>
 cnd v2 (
 bd (st x2 (.bool false)) fun _ =>
 bd (endR i (some .ret)) fun _ => ret (.bool false)) (
 bd (endR i none) fun _ => ret (.bool true))
theorem f35_0_eq (ap : FuncId → List AV → M AV) (i : Nat) (t : Tmps) : dcode ((E35 ap).at i) 29 (c2 (c1 (c2 (c1 (c2 (c2 (c2 B35))))))) t (kRnd i) = f35_0 ap i (t 2) (t 5) := by kernel_rfl
noncomputable def r35_0 (ap : FuncId → List AV → M AV) (i : Nat) (x2 x25 : AV) : M AV :=
 bd (begR i) fun _ =>
 f35_0 ap i x2 x25
theorem r35_0_eq (ap : FuncId → List AV → M AV) (i : Nat) (x2 x25 : AV) : dcode ((E35 ap).at i) 29 (c1 (c1 (c2 (c1 (c2 (c2 (c2 B35))))))) (psSet [25] [x25] (rTs [2] [x2])) (kAsg ((E35 ap).at i) 29 i (c2 (c1 (c2 (c1 (c2 (c2 (c2 B35)))))))) = r35_0 ap i x2 x25 := asg_eq (S := fun t => f35_0 ap i (t 2) (t 5)) (fun t => f35_0_eq ap i t) (by kernel_rfl)
noncomputable def f35 (ap : FuncId → List AV → M AV) (x0 : AV) : M AV :=
 bd (bx 4 (.bool false)) fun v1 =>
 bd (f25 x0 (.str [47])) fun v2 =>
 bd (ex v2 0) fun v3 =>
 bd (ex v2 1) fun v4 =>
 bd (un .not v4) fun v5 =>
 bd (gd v5 false (ret x0)) fun v6 =>
 bd (gd v5 false (lnS v6)) fun v7 =>
 bd (gd v5 false (bi .lss v7 (.int .i64 2))) fun v8 =>
 bd (pk v5 (.bool true) v8) fun v9 =>
 bd (gd v9 false (ret x0)) fun v10 =>
 bd (gd v9 false (lnS v10)) fun v11 =>
 bd (gd v9 false (bi .gtr v11 (.int .i64 255))) fun v12 =>
 bd (pk v9 (.bool true) v12) fun v13 =>
 cnd v13 (
 bd (st v1 (.bool false)) fun _ =>
 bd (ld v1) fun v14 => ret v14) (
 bd (f60 v3 (.str [47])) fun v15 =>
 bd (lpThere none) fun _ =>
 bd (newO (.loop 35 29 [2] [v1] [25] (c1 (c1 (c2 (c1 (c2 (c2 (c2 B35))))))) (c2 (c1 (c2 (c1 (c2 (c2 (c2 B35))))))) 0 none)) fun v16 =>
 bd (apv ap v15 [.yld v16]) fun _ =>
 bd (endLp v16) fun v17 =>
 rj v17 (
 bd (st v1 (.bool true)) fun _ =>
 bd (ld v1) fun v18 => ret v18) (
 bd (ld v1) fun v19 => ret v19) [])
theorem f35_eq (ap : FuncId → List AV → M AV) (x0 : AV) : dfn (E35 ap) Go.Proofs.Tryd.f35 [x0] = f35 ap x0 := dfn_eq (c := B35) (nt := 29) (K := K35) (by kernel_rfl) (by kernel_rfl) rfl (by kernel_rfl) (by kernel_rfl)
theorem O35 (ap : FuncId → List AV → M AV) (hap : ApOK Go.Proofs.Tryd.prog 3 ap) : EnvOK (E35 ap) := ⟨fun g xs => (ok_if (S25 xs) (ok_if (S60 xs) (ok_if (S61 xs) ok_fail))), hap⟩
theorem S35 (ap : FuncId → List AV → M AV) (hap : ApOK Go.Proofs.Tryd.prog 3 ap) (xs : List AV) : CallOK Go.Proofs.Tryd.prog 3 35 xs (L1 (f35 ap) xs) := ok_L1 (fun x0 => ok_fn (E := (E35 ap)) (fn := Go.Proofs.Tryd.f35) (O35 ap hap) rfl rfl (by kernel_rfl) (by kernel_rfl) (f35_eq ap x0)) xs

/-! ### strings.Index: function 65 -/
noncomputable def C65 (g : FuncId) (xs : List AV) : M AV := bif Nat.beq g 72 then L2 (nIndex 0) xs else fail
noncomputable def E65 : Env := ⟨Go.Proofs.Tryd.prog, 3, C65, fun _ _ => fail, fun _ => [], 65, none⟩
noncomputable def B65 : Code := bodyOf Go.Proofs.Tryd.f65
noncomputable def K65 : KT := dK Go.Proofs.Tryd.prog Go.Proofs.Tryd.f65.results.toList
noncomputable def f65 (x0 x1 : AV) : M AV :=
 bd ((nIndex 0) x0 x1) fun v1 =>
 ret v1
theorem f65_eq (x0 x1 : AV) : dfn E65 Go.Proofs.Tryd.f65 [x0, x1] = f65 x0 x1 := dfn_eq (c := B65) (nt := 8) (K := K65) (by kernel_rfl) (by kernel_rfl) rfl (by kernel_rfl) (by kernel_rfl)
theorem O65 : EnvOK E65 := ⟨fun g xs => (ok_if (N72 xs) ok_fail), ap_fail⟩
theorem S65 (xs : List AV) : CallOK Go.Proofs.Tryd.prog 3 65 xs (L2 f65 xs) := ok_L2 (fun x0 x1 => ok_fn (E := E65) (fn := Go.Proofs.Tryd.f65) O65 rfl rfl (by kernel_rfl) (by kernel_rfl) (f65_eq x0 x1)) xs

/-! ### unicode/utf8.decodeRuneInStringSlow: function 100 -/
noncomputable def C100 (g : FuncId) (xs : List AV) : M AV := fail
noncomputable def E100 : Env := ⟨Go.Proofs.Tryd.prog, 3, C100, fun _ _ => fail, fun _ => [], 100, none⟩
noncomputable def B100 : Code := bodyOf Go.Proofs.Tryd.f100
noncomputable def K100 : KT := dK Go.Proofs.Tryd.prog Go.Proofs.Tryd.f100.results.toList
noncomputable def f100 (x0 : AV) : M AV :=
 bd (lnS x0) fun v1 =>
 bd (bi .lss v1 (.int .i64 1)) fun v2 =>
 cnd v2 (
 ret (.tuple [(.int .i32 65533), (.int .i64 0)])) (
 bd (ixs x0 (.int .i64 0)) fun v3 =>
 bd (ixpa 1 256 (.ptr (some (1, 0))) v3) fun v4 =>
 bd (ld v4) fun v5 =>
 bd (bi .geq v5 (.int .u8 240)) fun v6 =>
 cnd v6 (
 bd (ci .i32 v5) fun v7 =>
 bd (bi .shl v7 (.int .u64 31)) fun v8 =>
 bd (bi .shr v8 (.int .u64 31)) fun v9 =>
 bd (ixs x0 (.int .i64 0)) fun v10 =>
 bd (ci .i32 v10) fun v11 =>
 bd (bi .andNot v11 v9) fun v12 =>
 bd (bi .and (.int .i32 65533) v9) fun v13 =>
 bd (bi .or v12 v13) fun v14 =>
 ret (.tuple [v14, (.int .i64 1)])) (
 bd (bi .and v5 (.int .u8 7)) fun v15 =>
 bd (ci .i64 v15) fun v16 =>
 bd (bi .shr v5 (.int .u64 4)) fun v17 =>
 bd (ixpa 2 16 (.ptr (some (2, 0))) v17) fun v18 =>
 bd (lda 2 v18) fun v19 =>
 bd (bx 115 (.agg [(.int .u8 0), (.int .u8 0)])) fun v20 =>
 bd (sta 2 v20 v19) fun _ =>
 bd (bi .lss v1 v16) fun v21 =>
 cnd v21 (
 ret (.tuple [(.int .i32 65533), (.int .i64 1)])) (
 bd (ixs x0 (.int .i64 1)) fun v22 =>
 bd (fa v20 0) fun v23 =>
 bd (ld v23) fun v24 =>
 bd (bi .lss v22 v24) fun v25 =>
 bd (gd v25 false (fa v20 1)) fun v26 =>
 bd (gd v25 false (ld v26)) fun v27 =>
 bd (gd v25 false (ret v22)) fun v28 =>
 bd (gd v25 false (bi .lss v27 v28)) fun v29 =>
 bd (pk v25 (.bool true) v29) fun v30 =>
 cnd v30 (
 ret (.tuple [(.int .i32 65533), (.int .i64 1)])) (
 bd (bi .leq v16 (.int .i64 2)) fun v31 =>
 cnd v31 (
 bd (bi .and v3 (.int .u8 31)) fun v32 =>
 bd (ci .i32 v32) fun v33 =>
 bd (bi .shl v33 (.int .u64 6)) fun v34 =>
 bd (bi .and v22 (.int .u8 63)) fun v35 =>
 bd (ci .i32 v35) fun v36 =>
 bd (bi .or v34 v36) fun v37 =>
 ret (.tuple [v37, (.int .i64 2)])) (
 bd (ixs x0 (.int .i64 2)) fun v38 =>
 bd (bi .lss v38 (.int .u8 128)) fun v39 =>
 bd (gd v39 false (ret v38)) fun v40 =>
 bd (gd v39 false (bi .lss (.int .u8 191) v40)) fun v41 =>
 bd (pk v39 (.bool true) v41) fun v42 =>
 cnd v42 (
 ret (.tuple [(.int .i32 65533), (.int .i64 1)])) (
 bd (bi .leq v16 (.int .i64 3)) fun v43 =>
 cnd v43 (
 bd (bi .and v3 (.int .u8 15)) fun v44 =>
 bd (ci .i32 v44) fun v45 =>
 bd (bi .shl v45 (.int .u64 12)) fun v46 =>
 bd (bi .and v22 (.int .u8 63)) fun v47 =>
 bd (ci .i32 v47) fun v48 =>
 bd (bi .shl v48 (.int .u64 6)) fun v49 =>
 bd (bi .or v46 v49) fun v50 =>
 bd (bi .and v38 (.int .u8 63)) fun v51 =>
 bd (ci .i32 v51) fun v52 =>
 bd (bi .or v50 v52) fun v53 =>
 ret (.tuple [v53, (.int .i64 3)])) (
 bd (ixs x0 (.int .i64 3)) fun v54 =>
 bd (bi .lss v54 (.int .u8 128)) fun v55 =>
 bd (gd v55 false (ret v54)) fun v56 =>
 bd (gd v55 false (bi .lss (.int .u8 191) v56)) fun v57 =>
 bd (pk v55 (.bool true) v57) fun v58 =>
 cnd v58 (
 ret (.tuple [(.int .i32 65533), (.int .i64 1)])) (
 bd (bi .and v3 (.int .u8 7)) fun v59 =>
 bd (ci .i32 v59) fun v60 =>
 bd (bi .shl v60 (.int .u64 18)) fun v61 =>
 bd (bi .and v22 (.int .u8 63)) fun v62 =>
 bd (ci .i32 v62) fun v63 =>
 bd (bi .shl v63 (.int .u64 12)) fun v64 =>
 bd (bi .or v61 v64) fun v65 =>
 bd (bi .and v38 (.int .u8 63)) fun v66 =>
 bd (ci .i32 v66) fun v67 =>
 bd (bi .shl v67 (.int .u64 6)) fun v68 =>
 bd (bi .or v65 v68) fun v69 =>
 bd (bi .and v54 (.int .u8 63)) fun v70 =>
 bd (ci .i32 v70) fun v71 =>
 bd (bi .or v69 v71) fun v72 =>
 ret (.tuple [v72, (.int .i64 4)])))))))))
theorem f100_eq (x0 : AV) : dfn E100 Go.Proofs.Tryd.f100 [x0] = f100 x0 := dfn_eq (c := B100) (nt := 117) (K := K100) (by kernel_rfl) (by kernel_rfl) rfl (by kernel_rfl) (by kernel_rfl)
theorem O100 : EnvOK E100 := ⟨fun g xs => ok_fail, ap_fail⟩
theorem S100 (xs : List AV) : CallOK Go.Proofs.Tryd.prog 3 100 xs (L1 f100 xs) := ok_L1 (fun x0 => ok_fn (E := E100) (fn := Go.Proofs.Tryd.f100) O100 rfl rfl (by kernel_rfl) (by kernel_rfl) (f100_eq x0)) xs

/-! ### unicode/utf8.DecodeRuneInString: function 92 -/
noncomputable def C92 (g : FuncId) (xs : List AV) : M AV := bif Nat.beq g 100 then L1 f100 xs else fail
noncomputable def E92 : Env := ⟨Go.Proofs.Tryd.prog, 3, C92, fun _ _ => fail, fun _ => [], 92, none⟩
noncomputable def B92 : Code := bodyOf Go.Proofs.Tryd.f92
noncomputable def K92 : KT := dK Go.Proofs.Tryd.prog Go.Proofs.Tryd.f92.results.toList
noncomputable def f92 (x0 : AV) : M AV :=
 bd (bi .neq x0 (.str [])) fun v1 =>
 bd (gd v1 true (ret x0)) fun v2 =>
 bd (gd v1 true (ixs v2 (.int .i64 0))) fun v3 =>
 bd (gd v1 true (bi .lss v3 (.int .u8 128))) fun v4 =>
 bd (pk v1 v4 (.bool false)) fun v5 =>
 cnd v5 (
 bd (ixs x0 (.int .i64 0)) fun v6 =>
 bd (ci .i32 v6) fun v7 =>
 ret (.tuple [v7, (.int .i64 1)])) (
 bd (f100 x0) fun v8 =>
 bd (ex v8 0) fun v9 =>
 bd (ex v8 1) fun v10 =>
 ret (.tuple [v9, v10]))
theorem f92_eq (x0 : AV) : dfn E92 Go.Proofs.Tryd.f92 [x0] = f92 x0 := dfn_eq (c := B92) (nt := 19) (K := K92) (by kernel_rfl) (by kernel_rfl) rfl (by kernel_rfl) (by kernel_rfl)
theorem O92 : EnvOK E92 := ⟨fun g xs => (ok_if (S100 xs) ok_fail), ap_fail⟩
theorem S92 (xs : List AV) : CallOK Go.Proofs.Tryd.prog 3 92 xs (L1 f92 xs) := ok_L1 (fun x0 => ok_fn (E := E92) (fn := Go.Proofs.Tryd.f92) O92 rfl rfl (by kernel_rfl) (by kernel_rfl) (f92_eq x0)) xs

/-! ### unicode/utf8.RuneCountInString: function 94 -/
noncomputable def C94 (g : FuncId) (xs : List AV) : M AV := fail
noncomputable def E94 : Env := ⟨Go.Proofs.Tryd.prog, 3, C94, fun _ _ => fail, fun _ => [], 94, none⟩
noncomputable def B94 : Code := bodyOf Go.Proofs.Tryd.f94
noncomputable def K94 : KT := dK Go.Proofs.Tryd.prog Go.Proofs.Tryd.f94.results.toList
noncomputable def f94_1 (x2 : AV) : M AV :=
 ret x2
theorem f94_1_eq (t : Tmps) : dcode E94 10 (c2 (c2 B94)) t K94 = f94_1 (t 2) := by kernel_rfl
noncomputable def f94_b3 (L3 : AV → AV → M AV) (x2 x4 : AV) : M AV :=
 bd (nxs x4) fun v1 =>
 bd (ex v1 0) fun v2 =>
 cnd v2 (
 bd (bi .add x2 (.int .i64 1)) fun v3 =>
 L3 v3 x4) (
 f94_1 x2)
theorem f94_b3_eq (L3 : AV → AV → M AV) (t : Tmps) : dcode E94 10 (c1 (c1 (c2 (c1 (c2 B94))))) t (kJ (fun t => L3 (t 2) (t 4)) (kB 0 (kJ (fun t => f94_1 (t 2)) K94))) = f94_b3 L3 (t 2) (t 4) := by kernel_rfl
noncomputable def f94_l3 : Nat → AV → AV → M AV
  | 0, _, _ => fail
  | n + 1, x2, x4 => f94_b3 (f94_l3 n) x2 x4
theorem f94_l3_eq (t : Tmps) : dcode E94 10 (c1 (c2 (c1 (c2 B94)))) t (kB 0 (kJ (fun t => f94_1 (t 2)) K94)) = f94_l3 fuel (t 2) (t 4) :=
  dloop_eq (c := (c1 (c1 (c2 (c1 (c2 B94)))))) (g := fun n t => f94_l3 n (t 2) (t 4)) (fun _ => rfl) (fun n t => f94_b3_eq (f94_l3 n) t)
noncomputable def f94_2 (x2 x4 : AV) : M AV :=
 f94_l3 fuel x2 x4
theorem f94_2_eq (t : Tmps) : dcode E94 10 (c2 (c1 (c2 B94))) t (kJ (fun t => f94_1 (t 2)) K94) = f94_2 (t 2) (t 4) := (f94_l3_eq _)
noncomputable def f94_0 (x0 x2 : AV) : M AV :=
 bd (rgs x0) fun v1 =>
 f94_2 x2 v1
theorem f94_0_eq (t : Tmps) : dcode E94 10 (c2 B94) t K94 = f94_0 (t 0) (t 2) := (seq_eq (a := (c1 (c2 B94))) (b := (c2 (c2 B94))) (fun t => f94_1_eq t) (seq_eq (a := (c1 (c1 (c2 B94)))) (b := (c2 (c1 (c2 B94)))) (fun t => f94_2_eq t) (by kernel_rfl)))
noncomputable def f94 (x0 : AV) : M AV :=
 f94_0 x0 (.int .i64 0)
theorem f94_top (t : Tmps) : dcode E94 10 B94 t K94 = f94 (t 0) := (seq_eq (a := (c1 B94)) (b := (c2 B94)) (fun t => f94_0_eq t) (by kernel_rfl))
theorem f94_eq (x0 : AV) : dfn E94 Go.Proofs.Tryd.f94 [x0] = f94 x0 := dfn_eq (c := B94) (nt := 10) (K := K94) (by kernel_rfl) (by kernel_rfl) rfl (by kernel_rfl) (f94_top (argT [x0]))
theorem O94 : EnvOK E94 := ⟨fun g xs => ok_fail, ap_fail⟩
theorem S94 (xs : List AV) : CallOK Go.Proofs.Tryd.prog 3 94 xs (L1 f94 xs) := ok_L1 (fun x0 => ok_fn (E := E94) (fn := Go.Proofs.Tryd.f94) O94 rfl rfl (by kernel_rfl) (by kernel_rfl) (f94_eq x0)) xs

/-! ### strings.explode: function 76 -/
noncomputable def C76 (g : FuncId) (xs : List AV) : M AV := bif Nat.beq g 92 then L1 f92 xs else bif Nat.beq g 94 then L1 f94 xs else fail
noncomputable def E76 : Env := ⟨Go.Proofs.Tryd.prog, 3, C76, fun _ _ => fail, fun _ => [], 76, none⟩
noncomputable def B76 : Code := bodyOf Go.Proofs.Tryd.f76
noncomputable def K76 : KT := dK Go.Proofs.Tryd.prog Go.Proofs.Tryd.f76.results.toList
noncomputable def f76_5 (x6 : AV) : M AV :=
 ret x6
theorem f76_5_eq (t : Tmps) : dcode E76 50 (c2 (c2 (c2 (c2 (c2 (c2 B76)))))) t K76 = f76_5 (t 6) := by kernel_rfl
noncomputable def f76_4 (x0 x1 x6 : AV) : M AV :=
 bd (bi .gtr x1 (.int .i64 0)) fun v1 =>
 cnd v1 (
 bd (bi .sub x1 (.int .i64 1)) fun v2 =>
 bd (ixp 1 x6 v2) fun v3 =>
 bd (st v3 x0) fun _ =>
 f76_5 x6) (
 f76_5 x6)
theorem f76_4_eq (t : Tmps) : dcode E76 50 (c2 (c2 (c2 (c2 (c2 B76))))) t K76 = f76_4 (t 0) (t 1) (t 6) := (seq_eq (a := (c1 (c2 (c2 (c2 (c2 (c2 B76))))))) (b := (c2 (c2 (c2 (c2 (c2 (c2 B76))))))) (fun t => f76_5_eq t) (by kernel_rfl))
noncomputable def f76_b7 (L7 : AV → AV → AV → AV → M AV) (x0 x1 x6 x7 : AV) : M AV :=
 bd (bi .sub x1 (.int .i64 1)) fun v1 =>
 bd (bi .lss x7 v1) fun v2 =>
 cnd v2 (
 bd (f92 x0) fun v3 =>
 bd (ex v3 0) fun v4 =>
 bd (ex v3 1) fun v5 =>
 bd (ss x0 none (some v5)) fun v6 =>
 bd (ixp 1 x6 x7) fun v7 =>
 bd (st v7 v6) fun _ =>
 bd (ss x0 (some v5) none) fun v8 =>
 bd (bi .add x7 (.int .i64 1)) fun v9 =>
 L7 v8 x1 x6 v9) (
 f76_4 x0 x1 x6)
theorem f76_b7_eq (L7 : AV → AV → AV → AV → M AV) (t : Tmps) : dcode E76 50 (c1 (c1 (c2 (c1 (c2 (c2 (c2 (c2 B76)))))))) t (kJ (fun t => L7 (t 0) (t 1) (t 6) (t 7)) (kB 0 (kJ (fun t => f76_4 (t 0) (t 1) (t 6)) K76))) = f76_b7 L7 (t 0) (t 1) (t 6) (t 7) := by kernel_rfl
noncomputable def f76_l7 : Nat → AV → AV → AV → AV → M AV
  | 0, _, _, _, _ => fail
  | n + 1, x0, x1, x6, x7 => f76_b7 (f76_l7 n) x0 x1 x6 x7
theorem f76_l7_eq (t : Tmps) : dcode E76 50 (c1 (c2 (c1 (c2 (c2 (c2 (c2 B76))))))) t (kB 0 (kJ (fun t => f76_4 (t 0) (t 1) (t 6)) K76)) = f76_l7 fuel (t 0) (t 1) (t 6) (t 7) :=
  dloop_eq (c := (c1 (c1 (c2 (c1 (c2 (c2 (c2 (c2 B76))))))))) (g := fun n t => f76_l7 n (t 0) (t 1) (t 6) (t 7)) (fun _ => rfl) (fun n t => f76_b7_eq (f76_l7 n) t)
noncomputable def f76_6 (x0 x1 x6 x7 : AV) : M AV :=
 f76_l7 fuel x0 x1 x6 x7
theorem f76_6_eq (t : Tmps) : dcode E76 50 (c2 (c1 (c2 (c2 (c2 (c2 B76)))))) t (kJ (fun t => f76_4 (t 0) (t 1) (t 6)) K76) = f76_6 (t 0) (t 1) (t 6) (t 7) := (f76_l7_eq _)
noncomputable def f76_3 (x0 x1 x6 : AV) : M AV :=
 f76_6 x0 x1 x6 (.int .i64 0)
theorem f76_3_eq (t : Tmps) : dcode E76 50 (c2 (c2 (c2 (c2 B76)))) t K76 = f76_3 (t 0) (t 1) (t 6) := (seq_eq (a := (c1 (c2 (c2 (c2 (c2 B76)))))) (b := (c2 (c2 (c2 (c2 (c2 B76)))))) (fun t => f76_4_eq t) (seq_eq (a := (c1 (c1 (c2 (c2 (c2 (c2 B76))))))) (b := (c2 (c1 (c2 (c2 (c2 (c2 B76))))))) (fun t => f76_6_eq t) (by kernel_rfl)))
noncomputable def f76_2 (x0 x1 : AV) : M AV :=
 bd (ms 9 1 16 [(.str [])] x1 x1) fun v1 =>
 f76_3 x0 x1 v1
theorem f76_2_eq (t : Tmps) : dcode E76 50 (c2 (c2 (c2 B76))) t K76 = f76_2 (t 0) (t 1) := (seq_eq (a := (c1 (c2 (c2 (c2 B76))))) (b := (c2 (c2 (c2 (c2 B76))))) (fun t => f76_3_eq t) (by kernel_rfl))
noncomputable def f76_1 (x0 x1 x5 : AV) : M AV :=
 bd (bi .lss x1 (.int .i64 0)) fun v1 =>
 bd (gd v1 false (ret x1)) fun v2 =>
 bd (gd v1 false (ret x5)) fun v3 =>
 bd (gd v1 false (bi .gtr v2 v3)) fun v4 =>
 bd (pk v1 (.bool true) v4) fun v5 =>
 cnd v5 (
 f76_2 x0 x5) (
 f76_2 x0 x1)
theorem f76_1_eq (t : Tmps) : dcode E76 50 (c2 (c2 B76)) t K76 = f76_1 (t 0) (t 1) (t 5) := (seq_eq (a := (c1 (c2 (c2 B76)))) (b := (c2 (c2 (c2 B76)))) (fun t => f76_2_eq t) (by kernel_rfl))
noncomputable def f76_0 (x0 x1 : AV) : M AV :=
 bd (f94 x0) fun v1 =>
 f76_1 x0 x1 v1
theorem f76_0_eq (t : Tmps) : dcode E76 50 (c2 B76) t K76 = f76_0 (t 0) (t 1) := (seq_eq (a := (c1 (c2 B76))) (b := (c2 (c2 B76))) (fun t => f76_1_eq t) (by kernel_rfl))
noncomputable def f76 (x0 x1 : AV) : M AV :=
 f76_0 x0 x1
theorem f76_top (t : Tmps) : dcode E76 50 B76 t K76 = f76 (t 0) (t 1) := (seq_eq (a := (c1 B76)) (b := (c2 B76)) (fun t => f76_0_eq t) (by kernel_rfl))
theorem f76_eq (x0 x1 : AV) : dfn E76 Go.Proofs.Tryd.f76 [x0, x1] = f76 x0 x1 := dfn_eq (c := B76) (nt := 50) (K := K76) (by kernel_rfl) (by kernel_rfl) rfl (by kernel_rfl) (f76_top (argT [x0, x1]))
theorem O76 : EnvOK E76 := ⟨fun g xs => (ok_if (S92 xs) (ok_if (S94 xs) ok_fail)), ap_fail⟩
theorem S76 (xs : List AV) : CallOK Go.Proofs.Tryd.prog 3 76 xs (L2 f76 xs) := ok_L2 (fun x0 x1 => ok_fn (E := E76) (fn := Go.Proofs.Tryd.f76) O76 rfl rfl (by kernel_rfl) (by kernel_rfl) (f76_eq x0 x1)) xs

/-! ### strings.Count: function 77 -/
noncomputable def C77 (g : FuncId) (xs : List AV) : M AV := bif Nat.beq g 65 then L2 f65 xs else bif Nat.beq g 94 then L1 f94 xs else bif Nat.beq g 95 then L2 nCountString xs else fail
noncomputable def E77 : Env := ⟨Go.Proofs.Tryd.prog, 3, C77, fun _ _ => fail, fun _ => [], 77, none⟩
noncomputable def B77 : Code := bodyOf Go.Proofs.Tryd.f77
noncomputable def K77 : KT := dK Go.Proofs.Tryd.prog Go.Proofs.Tryd.f77.results.toList
noncomputable def f77_b4 (L4 : AV → AV → AV → M AV) (x0 x1 x5 : AV) : M AV :=
 bd (f65 x0 x1) fun v1 =>
 bd (bi .eql v1 (.int .i64 (-1))) fun v2 =>
 cnd v2 (
 ret x5) (
 bd (bi .add x5 (.int .i64 1)) fun v3 =>
 bd (lnS x1) fun v4 =>
 bd (bi .add v1 v4) fun v5 =>
 bd (ss x0 (some v5) none) fun v6 =>
 L4 v6 x1 v3)
theorem f77_b4_eq (L4 : AV → AV → AV → M AV) (t : Tmps) : dcode E77 34 (c1 (c1 (c2 (c2 (c2 (c2 B77)))))) t (kJ (fun t => L4 (t 0) (t 1) (t 5)) (kB 0 K77)) = f77_b4 L4 (t 0) (t 1) (t 5) := by kernel_rfl
noncomputable def f77_l4 : Nat → AV → AV → AV → M AV
  | 0, _, _, _ => fail
  | n + 1, x0, x1, x5 => f77_b4 (f77_l4 n) x0 x1 x5
theorem f77_l4_eq (t : Tmps) : dcode E77 34 (c1 (c2 (c2 (c2 (c2 B77))))) t (kB 0 K77) = f77_l4 fuel (t 0) (t 1) (t 5) :=
  dloop_eq (c := (c1 (c1 (c2 (c2 (c2 (c2 B77))))))) (g := fun n t => f77_l4 n (t 0) (t 1) (t 5)) (fun _ => rfl) (fun n t => f77_b4_eq (f77_l4 n) t)
noncomputable def f77_3 (x0 x1 x5 : AV) : M AV :=
 f77_l4 fuel x0 x1 x5
theorem f77_3_eq (t : Tmps) : dcode E77 34 (c2 (c2 (c2 (c2 B77)))) t K77 = f77_3 (t 0) (t 1) (t 5) := (f77_l4_eq _)
noncomputable def f77_2 (x0 x1 : AV) : M AV :=
 f77_3 x0 x1 (.int .i64 0)
theorem f77_2_eq (t : Tmps) : dcode E77 34 (c2 (c2 (c2 B77))) t K77 = f77_2 (t 0) (t 1) := (seq_eq (a := (c1 (c2 (c2 (c2 B77))))) (b := (c2 (c2 (c2 (c2 B77))))) (fun t => f77_3_eq t) (by kernel_rfl))
noncomputable def f77_1 (x0 x1 : AV) : M AV :=
 bd (lnS x1) fun v1 =>
 bd (bi .eql v1 (.int .i64 1)) fun v2 =>
 cnd v2 (
 bd (ixs x1 (.int .i64 0)) fun v3 =>
 bd (nCountString x0 v3) fun v4 =>
 ret v4) (
 f77_2 x0 x1)
theorem f77_1_eq (t : Tmps) : dcode E77 34 (c2 (c2 B77)) t K77 = f77_1 (t 0) (t 1) := (seq_eq (a := (c1 (c2 (c2 B77)))) (b := (c2 (c2 (c2 B77)))) (fun t => f77_2_eq t) (by kernel_rfl))
noncomputable def f77_0 (x0 x1 : AV) : M AV :=
 bd (lnS x1) fun v1 =>
 bd (bi .eql v1 (.int .i64 0)) fun v2 =>
 cnd v2 (
 bd (f94 x0) fun v3 =>
 bd (bi .add v3 (.int .i64 1)) fun v4 =>
 ret v4) (
 f77_1 x0 x1)
theorem f77_0_eq (t : Tmps) : dcode E77 34 (c2 B77) t K77 = f77_0 (t 0) (t 1) := (seq_eq (a := (c1 (c2 B77))) (b := (c2 (c2 B77))) (fun t => f77_1_eq t) (by kernel_rfl))
noncomputable def f77 (x0 x1 : AV) : M AV :=
 f77_0 x0 x1
theorem f77_top (t : Tmps) : dcode E77 34 B77 t K77 = f77 (t 0) (t 1) := (seq_eq (a := (c1 B77)) (b := (c2 B77)) (fun t => f77_0_eq t) (by kernel_rfl))
theorem f77_eq (x0 x1 : AV) : dfn E77 Go.Proofs.Tryd.f77 [x0, x1] = f77 x0 x1 := dfn_eq (c := B77) (nt := 34) (K := K77) (by kernel_rfl) (by kernel_rfl) rfl (by kernel_rfl) (f77_top (argT [x0, x1]))
theorem O77 : EnvOK E77 := ⟨fun g xs => (ok_if (S65 xs) (ok_if (S94 xs) (ok_if (N95 xs) ok_fail))), ap_fail⟩
theorem S77 (xs : List AV) : CallOK Go.Proofs.Tryd.prog 3 77 xs (L2 f77 xs) := ok_L2 (fun x0 x1 => ok_fn (E := E77) (fn := Go.Proofs.Tryd.f77) O77 rfl rfl (by kernel_rfl) (by kernel_rfl) (f77_eq x0 x1)) xs

/-! ### strings.genSplit: function 62 -/
noncomputable def C62 (g : FuncId) (xs : List AV) : M AV := bif Nat.beq g 65 then L2 f65 xs else bif Nat.beq g 76 then L2 f76 xs else bif Nat.beq g 77 then L2 f77 xs else fail
noncomputable def E62 : Env := ⟨Go.Proofs.Tryd.prog, 3, C62, fun _ _ => fail, fun _ => [], 62, none⟩
noncomputable def B62 : Code := bodyOf Go.Proofs.Tryd.f62
noncomputable def K62 : KT := dK Go.Proofs.Tryd.prog Go.Proofs.Tryd.f62.results.toList
noncomputable def f62_8 (x0 x9 x10 : AV) : M AV :=
 bd (ixp 1 x9 x10) fun v1 =>
 bd (st v1 x0) fun _ =>
 bd (bi .add x10 (.int .i64 1)) fun v2 =>
 bd (sls 1 x9 none (some v2)) fun v3 =>
 ret v3
theorem f62_8_eq (t : Tmps) : dcode E62 66 (c2 (c2 (c2 (c2 (c2 (c2 (c2 (c2 (c2 B62))))))))) t K62 = f62_8 (t 0) (t 9) (t 10) := by kernel_rfl
noncomputable def f62_b9 (L9 : AV → AV → AV → AV → AV → AV → M AV) (x0 x1 x2 x3 x9 x10 : AV) : M AV :=
 bd (bi .lss x10 x3) fun v1 =>
 cnd v1 (
 bd (f65 x0 x1) fun v2 =>
 bd (bi .lss v2 (.int .i64 0)) fun v3 =>
 cnd v3 (
 f62_8 x0 x9 x10) (
 bd (bi .add v2 x2) fun v4 =>
 bd (ss x0 none (some v4)) fun v5 =>
 bd (ixp 1 x9 x10) fun v6 =>
 bd (st v6 v5) fun _ =>
 bd (lnS x1) fun v7 =>
 bd (bi .add v2 v7) fun v8 =>
 bd (ss x0 (some v8) none) fun v9 =>
 bd (bi .add x10 (.int .i64 1)) fun v10 =>
 L9 v9 x1 x2 x3 x9 v10)) (
 f62_8 x0 x9 x10)
theorem f62_b9_eq (L9 : AV → AV → AV → AV → AV → AV → M AV) (t : Tmps) : dcode E62 66 (c1 (c1 (c1 (c2 (c2 (c2 (c2 (c2 (c2 (c2 (c2 B62))))))))))) t (kJ (fun t => L9 (t 0) (t 1) (t 2) (t 3) (t 9) (t 10)) (kB 0 (kJ (fun t => f62_8 (t 0) (t 9) (t 10)) K62))) = f62_b9 L9 (t 0) (t 1) (t 2) (t 3) (t 9) (t 10) := by kernel_rfl
noncomputable def f62_l9 : Nat → AV → AV → AV → AV → AV → AV → M AV
  | 0, _, _, _, _, _, _ => fail
  | n + 1, x0, x1, x2, x3, x9, x10 => f62_b9 (f62_l9 n) x0 x1 x2 x3 x9 x10
theorem f62_l9_eq (t : Tmps) : dcode E62 66 (c1 (c1 (c2 (c2 (c2 (c2 (c2 (c2 (c2 (c2 B62)))))))))) t (kB 0 (kJ (fun t => f62_8 (t 0) (t 9) (t 10)) K62)) = f62_l9 fuel (t 0) (t 1) (t 2) (t 3) (t 9) (t 10) :=
  dloop_eq (c := (c1 (c1 (c1 (c2 (c2 (c2 (c2 (c2 (c2 (c2 (c2 B62)))))))))))) (g := fun n t => f62_l9 n (t 0) (t 1) (t 2) (t 3) (t 9) (t 10)) (fun _ => rfl) (fun n t => f62_b9_eq (f62_l9 n) t)
noncomputable def f62_7 (x0 x1 x2 x3 x9 x10 : AV) : M AV :=
 f62_l9 fuel x0 x1 x2 x3 x9 x10
theorem f62_7_eq (t : Tmps) : dcode E62 66 (c2 (c2 (c2 (c2 (c2 (c2 (c2 (c2 B62)))))))) t K62 = f62_7 (t 0) (t 1) (t 2) (t 3) (t 9) (t 10) := (seq_eq (a := (c1 (c2 (c2 (c2 (c2 (c2 (c2 (c2 (c2 B62)))))))))) (b := (c2 (c2 (c2 (c2 (c2 (c2 (c2 (c2 (c2 B62)))))))))) (fun t => f62_8_eq t) (f62_l9_eq _))
noncomputable def f62_6 (x0 x1 x2 x3 x9 : AV) : M AV :=
 f62_7 x0 x1 x2 x3 x9 (.int .i64 0)
theorem f62_6_eq (t : Tmps) : dcode E62 66 (c2 (c2 (c2 (c2 (c2 (c2 (c2 B62))))))) t K62 = f62_6 (t 0) (t 1) (t 2) (t 3) (t 9) := (seq_eq (a := (c1 (c2 (c2 (c2 (c2 (c2 (c2 (c2 B62))))))))) (b := (c2 (c2 (c2 (c2 (c2 (c2 (c2 (c2 B62))))))))) (fun t => f62_7_eq t) (by kernel_rfl))
noncomputable def f62_5 (x0 x1 x2 x3 x9 : AV) : M AV :=
 bd (bi .sub x3 (.int .i64 1)) fun v1 =>
 f62_6 x0 x1 x2 v1 x9
theorem f62_5_eq (t : Tmps) : dcode E62 66 (c2 (c2 (c2 (c2 (c2 (c2 B62)))))) t K62 = f62_5 (t 0) (t 1) (t 2) (t 3) (t 9) := (seq_eq (a := (c1 (c2 (c2 (c2 (c2 (c2 (c2 B62)))))))) (b := (c2 (c2 (c2 (c2 (c2 (c2 (c2 B62)))))))) (fun t => f62_6_eq t) (by kernel_rfl))
noncomputable def f62_4 (x0 x1 x2 x3 : AV) : M AV :=
 bd (ms 9 1 16 [(.str [])] x3 x3) fun v1 =>
 f62_5 x0 x1 x2 x3 v1
theorem f62_4_eq (t : Tmps) : dcode E62 66 (c2 (c2 (c2 (c2 (c2 B62))))) t K62 = f62_4 (t 0) (t 1) (t 2) (t 3) := (seq_eq (a := (c1 (c2 (c2 (c2 (c2 (c2 B62))))))) (b := (c2 (c2 (c2 (c2 (c2 (c2 B62))))))) (fun t => f62_5_eq t) (by kernel_rfl))
noncomputable def f62_3 (x0 x1 x2 x3 : AV) : M AV :=
 bd (lnS x0) fun v1 =>
 bd (bi .add v1 (.int .i64 1)) fun v2 =>
 bd (fold2 mn2 x3 [v2]) fun v3 =>
 f62_4 x0 x1 x2 v3
theorem f62_3_eq (t : Tmps) : dcode E62 66 (c2 (c2 (c2 (c2 B62)))) t K62 = f62_3 (t 0) (t 1) (t 2) (t 3) := (seq_eq (a := (c1 (c2 (c2 (c2 (c2 B62)))))) (b := (c2 (c2 (c2 (c2 (c2 B62)))))) (fun t => f62_4_eq t) (by kernel_rfl))
noncomputable def f62_2 (x0 x1 x2 x3 : AV) : M AV :=
 bd (bi .lss x3 (.int .i64 0)) fun v1 =>
 cnd v1 (
 bd (f77 x0 x1) fun v2 =>
 bd (bi .add v2 (.int .i64 1)) fun v3 =>
 f62_3 x0 x1 x2 v3) (
 f62_3 x0 x1 x2 x3)
theorem f62_2_eq (t : Tmps) : dcode E62 66 (c2 (c2 (c2 B62))) t K62 = f62_2 (t 0) (t 1) (t 2) (t 3) := (seq_eq (a := (c1 (c2 (c2 (c2 B62))))) (b := (c2 (c2 (c2 (c2 B62))))) (fun t => f62_3_eq t) (by kernel_rfl))
noncomputable def f62_1 (x0 x1 x2 x3 : AV) : M AV :=
 bd (bi .eql x1 (.str [])) fun v1 =>
 cnd v1 (
 bd (f76 x0 x3) fun v2 =>
 ret v2) (
 f62_2 x0 x1 x2 x3)
theorem f62_1_eq (t : Tmps) : dcode E62 66 (c2 (c2 B62)) t K62 = f62_1 (t 0) (t 1) (t 2) (t 3) := (seq_eq (a := (c1 (c2 (c2 B62)))) (b := (c2 (c2 (c2 B62)))) (fun t => f62_2_eq t) (by kernel_rfl))
noncomputable def f62_0 (x0 x1 x2 x3 : AV) : M AV :=
 bd (bi .eql x3 (.int .i64 0)) fun v1 =>
 cnd v1 (
 ret .slN) (
 f62_1 x0 x1 x2 x3)
theorem f62_0_eq (t : Tmps) : dcode E62 66 (c2 B62) t K62 = f62_0 (t 0) (t 1) (t 2) (t 3) := (seq_eq (a := (c1 (c2 B62))) (b := (c2 (c2 B62))) (fun t => f62_1_eq t) (by kernel_rfl))
noncomputable def f62 (x0 x1 x2 x3 : AV) : M AV :=
 f62_0 x0 x1 x2 x3
theorem f62_top (t : Tmps) : dcode E62 66 B62 t K62 = f62 (t 0) (t 1) (t 2) (t 3) := (seq_eq (a := (c1 B62)) (b := (c2 B62)) (fun t => f62_0_eq t) (by kernel_rfl))
theorem f62_eq (x0 x1 x2 x3 : AV) : dfn E62 Go.Proofs.Tryd.f62 [x0, x1, x2, x3] = f62 x0 x1 x2 x3 := dfn_eq (c := B62) (nt := 66) (K := K62) (by kernel_rfl) (by kernel_rfl) rfl (by kernel_rfl) (f62_top (argT [x0, x1, x2, x3]))
theorem O62 : EnvOK E62 := ⟨fun g xs => (ok_if (S65 xs) (ok_if (S76 xs) (ok_if (S77 xs) ok_fail))), ap_fail⟩
theorem S62 (xs : List AV) : CallOK Go.Proofs.Tryd.prog 3 62 xs (L4 f62 xs) := ok_L4 (fun x0 x1 x2 x3 => ok_fn (E := E62) (fn := Go.Proofs.Tryd.f62) O62 rfl rfl (by kernel_rfl) (by kernel_rfl) (f62_eq x0 x1 x2 x3)) xs

/-! ### strings.Split: function 36 -/
noncomputable def C36 (g : FuncId) (xs : List AV) : M AV := bif Nat.beq g 62 then L4 f62 xs else fail
noncomputable def E36 : Env := ⟨Go.Proofs.Tryd.prog, 3, C36, fun _ _ => fail, fun _ => [], 36, none⟩
noncomputable def B36 : Code := bodyOf Go.Proofs.Tryd.f36
noncomputable def K36 : KT := dK Go.Proofs.Tryd.prog Go.Proofs.Tryd.f36.results.toList
noncomputable def f36 (x0 x1 : AV) : M AV :=
 bd (f62 x0 x1 (.int .i64 0) (.int .i64 (-1))) fun v1 =>
 ret v1
theorem f36_eq (x0 x1 : AV) : dfn E36 Go.Proofs.Tryd.f36 [x0, x1] = f36 x0 x1 := dfn_eq (c := B36) (nt := 8) (K := K36) (by kernel_rfl) (by kernel_rfl) rfl (by kernel_rfl) (by kernel_rfl)
theorem O36 : EnvOK E36 := ⟨fun g xs => (ok_if (S62 xs) ok_fail), ap_fail⟩
theorem S36 (xs : List AV) : CallOK Go.Proofs.Tryd.prog 3 36 xs (L2 f36 xs) := ok_L2 (fun x0 x1 => ok_fn (E := E36) (fn := Go.Proofs.Tryd.f36) O36 rfl rfl (by kernel_rfl) (by kernel_rfl) (f36_eq x0 x1)) xs

/-! ### (*strings.Builder).copyCheck: function 58 -/
noncomputable def C58 (g : FuncId) (xs : List AV) : M AV := bif Nat.beq g 73 then L1 nNoEscape xs else fail
noncomputable def E58 : Env := ⟨Go.Proofs.Tryd.prog, 3, C58, fun _ _ => fail, fun _ => [], 58, none⟩
noncomputable def B58 : Code := bodyOf Go.Proofs.Tryd.f58
noncomputable def K58 : KT := dK Go.Proofs.Tryd.prog Go.Proofs.Tryd.f58.results.toList
noncomputable def f58 (x0 : AV) : M AV :=
 bd (nck x0) fun v1 =>
 bd (fa v1 0) fun v2 =>
 bd (ld v2) fun v3 =>
 bd (be .p .eql v3 (.ptr none)) fun v4 =>
 cnd v4 (
 bd (p2u x0) fun v5 =>
 bd (nNoEscape v5) fun v6 =>
 bd (u2p 56 2 v6) fun v7 =>
 bd (nck x0) fun v8 =>
 bd (fa v8 0) fun v9 =>
 bd (st v9 v7) fun _ =>
 ret (.tuple [])) (
 bd (nck x0) fun v10 =>
 bd (fa v10 0) fun v11 =>
 bd (ld v11) fun v12 =>
 bd (be .p .neq v12 x0) fun v13 =>
 cnd v13 (
 fail) (
 ret (.tuple [])))
theorem f58_eq (x0 : AV) : dfn E58 Go.Proofs.Tryd.f58 [x0] = f58 x0 := dfn_eq (c := B58) (nt := 20) (K := K58) (by kernel_rfl) (by kernel_rfl) rfl (by kernel_rfl) (by kernel_rfl)
theorem O58 : EnvOK E58 := ⟨fun g xs => (ok_if (N73 xs) ok_fail), ap_fail⟩
theorem S58 (xs : List AV) : CallOK Go.Proofs.Tryd.prog 3 58 xs (L1 f58 xs) := ok_L1 (fun x0 => ok_fn (E := E58) (fn := Go.Proofs.Tryd.f58) O58 rfl rfl (by kernel_rfl) (by kernel_rfl) (f58_eq x0)) xs

/-! ### (*strings.Builder).WriteString: function 30 -/
noncomputable def C30 (g : FuncId) (xs : List AV) : M AV := bif Nat.beq g 58 then L1 f58 xs else fail
noncomputable def E30 : Env := ⟨Go.Proofs.Tryd.prog, 3, C30, fun _ _ => fail, fun _ => [], 30, none⟩
noncomputable def B30 : Code := bodyOf Go.Proofs.Tryd.f30
noncomputable def K30 : KT := dK Go.Proofs.Tryd.prog Go.Proofs.Tryd.f30.results.toList
noncomputable def f30 (x0 x1 : AV) : M AV :=
 bd (f58 x0) fun v1 =>
 bd (nck x0) fun v2 =>
 bd (fa v2 1) fun v3 =>
 bd (ld v3) fun v4 =>
 bd (app 5 1 1 v4 x1) fun v5 =>
 bd (nck x0) fun v6 =>
 bd (fa v6 1) fun v7 =>
 bd (st v7 v5) fun _ =>
 bd (lnS x1) fun v8 =>
 ret (.tuple [v8, .nilIface])
theorem f30_eq (x0 x1 : AV) : dfn E30 Go.Proofs.Tryd.f30 [x0, x1] = f30 x0 x1 := dfn_eq (c := B30) (nt := 19) (K := K30) (by kernel_rfl) (by kernel_rfl) rfl (by kernel_rfl) (by kernel_rfl)
theorem O30 : EnvOK E30 := ⟨fun g xs => (ok_if (S58 xs) ok_fail), ap_fail⟩
theorem S30 (xs : List AV) : CallOK Go.Proofs.Tryd.prog 3 30 xs (L2 f30 xs) := ok_L2 (fun x0 x1 => ok_fn (E := E30) (fn := Go.Proofs.Tryd.f30) O30 rfl rfl (by kernel_rfl) (by kernel_rfl) (f30_eq x0 x1)) xs

/-! ### (*strings.Builder).Len: function 40 -/
noncomputable def C40 (g : FuncId) (xs : List AV) : M AV := fail
noncomputable def E40 : Env := ⟨Go.Proofs.Tryd.prog, 3, C40, fun _ _ => fail, fun _ => [], 40, none⟩
noncomputable def B40 : Code := bodyOf Go.Proofs.Tryd.f40
noncomputable def K40 : KT := dK Go.Proofs.Tryd.prog Go.Proofs.Tryd.f40.results.toList
noncomputable def f40 (x0 : AV) : M AV :=
 bd (nck x0) fun v1 =>
 bd (fa v1 1) fun v2 =>
 bd (ld v2) fun v3 =>
 bd (lnL v3) fun v4 =>
 ret v4
theorem f40_eq (x0 : AV) : dfn E40 Go.Proofs.Tryd.f40 [x0] = f40 x0 := dfn_eq (c := B40) (nt := 8) (K := K40) (by kernel_rfl) (by kernel_rfl) rfl (by kernel_rfl) (by kernel_rfl)
theorem O40 : EnvOK E40 := ⟨fun g xs => ok_fail, ap_fail⟩
theorem S40 (xs : List AV) : CallOK Go.Proofs.Tryd.prog 3 40 xs (L1 f40 xs) := ok_L1 (fun x0 => ok_fn (E := E40) (fn := Go.Proofs.Tryd.f40) O40 rfl rfl (by kernel_rfl) (by kernel_rfl) (f40_eq x0)) xs

/-! ### math/bits.Mul32: function 78 -/
noncomputable def C78 (g : FuncId) (xs : List AV) : M AV := fail
noncomputable def E78 : Env := ⟨Go.Proofs.Tryd.prog, 3, C78, fun _ _ => fail, fun _ => [], 78, none⟩
noncomputable def B78 : Code := bodyOf Go.Proofs.Tryd.f78
noncomputable def K78 : KT := dK Go.Proofs.Tryd.prog Go.Proofs.Tryd.f78.results.toList
noncomputable def f78 (x0 x1 : AV) : M AV :=
 bd (ci .u64 x0) fun v1 =>
 bd (ci .u64 x1) fun v2 =>
 bd (bi .mul v1 v2) fun v3 =>
 bd (bi .shr v3 (.int .u64 32)) fun v4 =>
 bd (ci .u32 v4) fun v5 =>
 bd (ci .u32 v3) fun v6 =>
 ret (.tuple [v5, v6])
theorem f78_eq (x0 x1 : AV) : dfn E78 Go.Proofs.Tryd.f78 [x0, x1] = f78 x0 x1 := dfn_eq (c := B78) (nt := 17) (K := K78) (by kernel_rfl) (by kernel_rfl) rfl (by kernel_rfl) (by kernel_rfl)
theorem O78 : EnvOK E78 := ⟨fun g xs => ok_fail, ap_fail⟩
theorem S78 (xs : List AV) : CallOK Go.Proofs.Tryd.prog 3 78 xs (L2 f78 xs) := ok_L2 (fun x0 x1 => ok_fn (E := E78) (fn := Go.Proofs.Tryd.f78) O78 rfl rfl (by kernel_rfl) (by kernel_rfl) (f78_eq x0 x1)) xs

/-! ### math/bits.Mul64: function 79 -/
noncomputable def C79 (g : FuncId) (xs : List AV) : M AV := fail
noncomputable def E79 : Env := ⟨Go.Proofs.Tryd.prog, 3, C79, fun _ _ => fail, fun _ => [], 79, none⟩
noncomputable def B79 : Code := bodyOf Go.Proofs.Tryd.f79
noncomputable def K79 : KT := dK Go.Proofs.Tryd.prog Go.Proofs.Tryd.f79.results.toList
noncomputable def f79 (x0 x1 : AV) : M AV :=
 bd (bi .and x0 (.int .u64 4294967295)) fun v1 =>
 bd (bi .shr x0 (.int .u64 32)) fun v2 =>
 bd (bi .and x1 (.int .u64 4294967295)) fun v3 =>
 bd (bi .shr x1 (.int .u64 32)) fun v4 =>
 bd (bi .mul v1 v3) fun v5 =>
 bd (bi .mul v2 v3) fun v6 =>
 bd (bi .shr v5 (.int .u64 32)) fun v7 =>
 bd (bi .add v6 v7) fun v8 =>
 bd (bi .and v8 (.int .u64 4294967295)) fun v9 =>
 bd (bi .shr v8 (.int .u64 32)) fun v10 =>
 bd (bi .mul v1 v4) fun v11 =>
 bd (bi .add v9 v11) fun v12 =>
 bd (bi .mul v2 v4) fun v13 =>
 bd (bi .add v13 v10) fun v14 =>
 bd (bi .shr v12 (.int .u64 32)) fun v15 =>
 bd (bi .add v14 v15) fun v16 =>
 bd (bi .mul x0 x1) fun v17 =>
 ret (.tuple [v16, v17])
theorem f79_eq (x0 x1 : AV) : dfn E79 Go.Proofs.Tryd.f79 [x0, x1] = f79 x0 x1 := dfn_eq (c := B79) (nt := 51) (K := K79) (by kernel_rfl) (by kernel_rfl) rfl (by kernel_rfl) (by kernel_rfl)
theorem O79 : EnvOK E79 := ⟨fun g xs => ok_fail, ap_fail⟩
theorem S79 (xs : List AV) : CallOK Go.Proofs.Tryd.prog 3 79 xs (L2 f79 xs) := ok_L2 (fun x0 x1 => ok_fn (E := E79) (fn := Go.Proofs.Tryd.f79) O79 rfl rfl (by kernel_rfl) (by kernel_rfl) (f79_eq x0 x1)) xs

/-! ### math/bits.Mul: function 63 -/
noncomputable def C63 (g : FuncId) (xs : List AV) : M AV := bif Nat.beq g 78 then L2 f78 xs else bif Nat.beq g 79 then L2 f79 xs else fail
noncomputable def E63 : Env := ⟨Go.Proofs.Tryd.prog, 3, C63, fun _ _ => fail, fun _ => [], 63, none⟩
noncomputable def B63 : Code := bodyOf Go.Proofs.Tryd.f63
noncomputable def K63 : KT := dK Go.Proofs.Tryd.prog Go.Proofs.Tryd.f63.results.toList
noncomputable def f63 (x0 x1 : AV) : M AV :=
 cnd (.bool false) (
 bd (ci .u32 x0) fun v1 =>
 bd (ci .u32 x1) fun v2 =>
 bd (f78 v1 v2) fun v3 =>
 bd (ex v3 0) fun v4 =>
 bd (ex v3 1) fun v5 =>
 bd (ci .u64 v4) fun v6 =>
 bd (ci .u64 v5) fun v7 =>
 ret (.tuple [v6, v7])) (
 bd (f79 x0 x1) fun v8 =>
 bd (ex v8 0) fun v9 =>
 bd (ex v8 1) fun v10 =>
 ret (.tuple [v9, v10]))
theorem f63_eq (x0 x1 : AV) : dfn E63 Go.Proofs.Tryd.f63 [x0, x1] = f63 x0 x1 := dfn_eq (c := B63) (nt := 30) (K := K63) (by kernel_rfl) (by kernel_rfl) rfl (by kernel_rfl) (by kernel_rfl)
theorem O63 : EnvOK E63 := ⟨fun g xs => (ok_if (S78 xs) (ok_if (S79 xs) ok_fail)), ap_fail⟩
theorem S63 (xs : List AV) : CallOK Go.Proofs.Tryd.prog 3 63 xs (L2 f63 xs) := ok_L2 (fun x0 x1 => ok_fn (E := E63) (fn := Go.Proofs.Tryd.f63) O63 rfl rfl (by kernel_rfl) (by kernel_rfl) (f63_eq x0 x1)) xs

/-! ### (*strings.Builder).grow: function 80 -/
noncomputable def C80 (g : FuncId) (xs : List AV) : M AV := bif Nat.beq g 96 then L1 (nMakeNoZero 5) xs else fail
noncomputable def E80 : Env := ⟨Go.Proofs.Tryd.prog, 3, C80, fun _ _ => fail, fun i => bif Nat.beq i 0 then [0, 1, 2, 3, 4, 5, 6, 7, 9, 10, 11, 12, 13, 8, 14, 15] else [], 80, none⟩
noncomputable def B80 : Code := bodyOf Go.Proofs.Tryd.f80
noncomputable def K80 : KT := dK Go.Proofs.Tryd.prog Go.Proofs.Tryd.f80.results.toList
noncomputable def f80 (x0 x1 : AV) : M AV :=
 bd (ret x0) fun v1 =>
 bd (nck v1) fun v2 =>
 bd (fa v2 1) fun v3 =>
 bd (ld v3) fun v4 =>
 bd (cpN v4) fun v5 =>
 bd (bi .mul (.int .i64 2) v5) fun v6 =>
 bd (ret x1) fun v7 =>
 bd (bi .add v6 v7) fun v8 =>
 bd (ret x0) fun v9 =>
 bd (nck v9) fun v10 =>
 bd (fa v10 1) fun v11 =>
 bd (ld v11) fun v12 =>
 bd (lnL v12) fun v13 =>
 bd ((nMakeNoZero 5) v8) fun v14 =>
 rck (ld v11) v12 (
 bd (sls 1 v14 none (some v13)) fun v15 =>
 bd (ret v15) fun v16 =>
 bd (nck x0) fun v17 =>
 bd (fa v17 1) fun v18 =>
 bd (ld v18) fun v19 =>
 bd (cpy 1 v16 v19) fun v20 =>
 bd (nck x0) fun v21 =>
 bd (fa v21 1) fun v22 =>
 bd (st v22 v16) fun _ =>
 ret (.tuple []))
theorem f80_eq (x0 x1 : AV) : dfn E80 Go.Proofs.Tryd.f80 [x0, x1] = f80 x0 x1 := dfn_eq (c := B80) (nt := 30) (K := K80) (by kernel_rfl) (by kernel_rfl) rfl (by kernel_rfl) (by kernel_rfl)
theorem O80 : EnvOK E80 := ⟨fun g xs => (ok_if (N96 xs) ok_fail), ap_fail⟩
theorem S80 (xs : List AV) : CallOK Go.Proofs.Tryd.prog 3 80 xs (L2 f80 xs) := ok_L2 (fun x0 x1 => ok_fn (E := E80) (fn := Go.Proofs.Tryd.f80) O80 rfl rfl (by kernel_rfl) (by kernel_rfl) (f80_eq x0 x1)) xs

/-! ### (*strings.Builder).Grow: function 64 -/
noncomputable def C64 (g : FuncId) (xs : List AV) : M AV := bif Nat.beq g 58 then L1 f58 xs else bif Nat.beq g 80 then L2 f80 xs else fail
noncomputable def E64 : Env := ⟨Go.Proofs.Tryd.prog, 3, C64, fun _ _ => fail, fun i => bif Nat.beq i 3 then [0, 1, 2, 3, 4, 5, 6, 7, 8, 9, 10, 11, 12] else [], 64, none⟩
noncomputable def B64 : Code := bodyOf Go.Proofs.Tryd.f64
noncomputable def K64 : KT := dK Go.Proofs.Tryd.prog Go.Proofs.Tryd.f64.results.toList
noncomputable def f64_1 (x0 x1 : AV) : M AV :=
 bd (ret x0) fun v1 =>
 bd (nck v1) fun v2 =>
 bd (fa v2 1) fun v3 =>
 bd (ld v3) fun v4 =>
 bd (cpN v4) fun v5 =>
 bd (ret x0) fun v6 =>
 bd (nck v6) fun v7 =>
 bd (fa v7 1) fun v8 =>
 bd (ld v8) fun v9 =>
 bd (lnL v9) fun v10 =>
 bd (bi .sub v5 v10) fun v11 =>
 bd (ret x1) fun v12 =>
 bd (bi .lss v11 v12) fun v13 =>
 cnd v13 (
 bd (f80 x0 x1) fun v14 =>
 ret (.tuple [])) (
 ret (.tuple []))
theorem f64_1_eq (t : Tmps) : dcode E64 25 (c2 (c2 B64)) t K64 = f64_1 (t 0) (t 1) := by kernel_rfl
noncomputable def f64_0 (x0 x1 : AV) : M AV :=
 bd (bi .lss x1 (.int .i64 0)) fun v1 =>
 cnd v1 (
 bd (fail : M AV) fun v2 =>
 bd (fail : M AV) fun _ =>
 f64_1 x0 x1) (
 f64_1 x0 x1)
theorem f64_0_eq (t : Tmps) : dcode E64 25 (c2 B64) t K64 = f64_0 (t 0) (t 1) := (seq_eq (a := (c1 (c2 B64))) (b := (c2 (c2 B64))) (fun t => f64_1_eq t) (by kernel_rfl))
noncomputable def f64 (x0 x1 : AV) : M AV :=
 bd (f58 x0) fun v1 =>
 f64_0 x0 x1
theorem f64_top (t : Tmps) : dcode E64 25 B64 t K64 = f64 (t 0) (t 1) := (seq_eq (a := (c1 B64)) (b := (c2 B64)) (fun t => f64_0_eq t) (by kernel_rfl))
theorem f64_eq (x0 x1 : AV) : dfn E64 Go.Proofs.Tryd.f64 [x0, x1] = f64 x0 x1 := dfn_eq (c := B64) (nt := 25) (K := K64) (by kernel_rfl) (by kernel_rfl) rfl (by kernel_rfl) (f64_top (argT [x0, x1]))
theorem O64 : EnvOK E64 := ⟨fun g xs => (ok_if (S58 xs) (ok_if (S80 xs) ok_fail)), ap_fail⟩
theorem S64 (xs : List AV) : CallOK Go.Proofs.Tryd.prog 3 64 xs (L2 f64 xs) := ok_L2 (fun x0 x1 => ok_fn (E := E64) (fn := Go.Proofs.Tryd.f64) O64 rfl rfl (by kernel_rfl) (by kernel_rfl) (f64_eq x0 x1)) xs

/-! ### strings.Repeat: function 37 -/
noncomputable def C37 (g : FuncId) (xs : List AV) : M AV := bif Nat.beq g 23 then L2 f23 xs else bif Nat.beq g 30 then L2 f30 xs else bif Nat.beq g 31 then L1 f31 xs else bif Nat.beq g 40 then L1 f40 xs else bif Nat.beq g 63 then L2 f63 xs else bif Nat.beq g 64 then L2 f64 xs else fail
noncomputable def E37 : Env := ⟨Go.Proofs.Tryd.prog, 3, C37, fun _ _ => fail, fun _ => [], 37, none⟩
noncomputable def B37 : Code := bodyOf Go.Proofs.Tryd.f37
noncomputable def K37 : KT := dK Go.Proofs.Tryd.prog Go.Proofs.Tryd.f37.results.toList
noncomputable def f37_13 (x9 : AV) : M AV :=
 bd (f31 x9) fun v1 =>
 ret v1
theorem f37_13_eq (t : Tmps) : dcode E37 125 (c2 (c2 (c2 (c2 (c2 (c2 (c2 (c2 (c2 (c2 (c2 (c2 (c2 (c2 B37)))))))))))))) t K37 = f37_13 (t 9) := by kernel_rfl
noncomputable def f37_b14 (L14 : AV → AV → AV → M AV) (x7 x8 x9 : AV) : M AV :=
 bd (f40 x9) fun v1 =>
 bd (bi .lss v1 x7) fun v2 =>
 cnd v2 (
 bd (f40 x9) fun v3 =>
 bd (bi .sub x7 v3) fun v4 =>
 bd (f40 x9) fun v5 =>
 bd (fold2 mn2 v4 [v5, x8]) fun v6 =>
 bd (f31 x9) fun v7 =>
 bd (ss v7 none (some v6)) fun v8 =>
 bd (f30 x9 v8) fun v9 =>
 L14 x7 x8 x9) (
 f37_13 x9)
theorem f37_b14_eq (L14 : AV → AV → AV → M AV) (t : Tmps) : dcode E37 125 (c1 (c1 (c1 (c2 (c2 (c2 (c2 (c2 (c2 (c2 (c2 (c2 (c2 (c2 (c2 (c2 B37)))))))))))))))) t (kJ (fun t => L14 (t 7) (t 8) (t 9)) (kB 3 (kJ (fun t => f37_13 (t 9)) K37))) = f37_b14 L14 (t 7) (t 8) (t 9) := by kernel_rfl
noncomputable def f37_l14 : Nat → AV → AV → AV → M AV
  | 0, _, _, _ => fail
  | n + 1, x7, x8, x9 => f37_b14 (f37_l14 n) x7 x8 x9
theorem f37_l14_eq (t : Tmps) : dcode E37 125 (c1 (c1 (c2 (c2 (c2 (c2 (c2 (c2 (c2 (c2 (c2 (c2 (c2 (c2 (c2 B37))))))))))))))) t (kB 3 (kJ (fun t => f37_13 (t 9)) K37)) = f37_l14 fuel (t 7) (t 8) (t 9) :=
  dloop_eq (c := (c1 (c1 (c1 (c2 (c2 (c2 (c2 (c2 (c2 (c2 (c2 (c2 (c2 (c2 (c2 (c2 B37))))))))))))))))) (g := fun n t => f37_l14 n (t 7) (t 8) (t 9)) (fun _ => rfl) (fun n t => f37_b14_eq (f37_l14 n) t)
noncomputable def f37_12 (x7 x8 x9 : AV) : M AV :=
 f37_l14 fuel x7 x8 x9
theorem f37_12_eq (t : Tmps) : dcode E37 125 (c2 (c2 (c2 (c2 (c2 (c2 (c2 (c2 (c2 (c2 (c2 (c2 (c2 B37))))))))))))) t K37 = f37_12 (t 7) (t 8) (t 9) := (seq_eq (a := (c1 (c2 (c2 (c2 (c2 (c2 (c2 (c2 (c2 (c2 (c2 (c2 (c2 (c2 B37))))))))))))))) (b := (c2 (c2 (c2 (c2 (c2 (c2 (c2 (c2 (c2 (c2 (c2 (c2 (c2 (c2 B37))))))))))))))) (fun t => f37_13_eq t) (f37_l14_eq _))
noncomputable def f37_11 (x0 x7 x8 x9 : AV) : M AV :=
 bd (f30 x9 x0) fun v1 =>
 f37_12 x7 x8 x9
theorem f37_11_eq (t : Tmps) : dcode E37 125 (c2 (c2 (c2 (c2 (c2 (c2 (c2 (c2 (c2 (c2 (c2 (c2 B37)))))))))))) t K37 = f37_11 (t 0) (t 7) (t 8) (t 9) := (seq_eq (a := (c1 (c2 (c2 (c2 (c2 (c2 (c2 (c2 (c2 (c2 (c2 (c2 (c2 B37)))))))))))))) (b := (c2 (c2 (c2 (c2 (c2 (c2 (c2 (c2 (c2 (c2 (c2 (c2 (c2 B37)))))))))))))) (fun t => f37_12_eq t) (by kernel_rfl))
noncomputable def f37_10 (x0 x7 x8 x9 : AV) : M AV :=
 bd (f64 x9 x7) fun v1 =>
 f37_11 x0 x7 x8 x9
theorem f37_10_eq (t : Tmps) : dcode E37 125 (c2 (c2 (c2 (c2 (c2 (c2 (c2 (c2 (c2 (c2 (c2 B37))))))))))) t K37 = f37_10 (t 0) (t 7) (t 8) (t 9) := (seq_eq (a := (c1 (c2 (c2 (c2 (c2 (c2 (c2 (c2 (c2 (c2 (c2 (c2 B37))))))))))))) (b := (c2 (c2 (c2 (c2 (c2 (c2 (c2 (c2 (c2 (c2 (c2 (c2 B37))))))))))))) (fun t => f37_11_eq t) (by kernel_rfl))
noncomputable def f37_9 (x0 x7 x8 : AV) : M AV :=
 bd (bx 56 (.agg [(.ptr none), .slN])) fun v1 =>
 f37_10 x0 x7 x8 v1
theorem f37_9_eq (t : Tmps) : dcode E37 125 (c2 (c2 (c2 (c2 (c2 (c2 (c2 (c2 (c2 (c2 B37)))))))))) t K37 = f37_9 (t 0) (t 7) (t 8) := (seq_eq (a := (c1 (c2 (c2 (c2 (c2 (c2 (c2 (c2 (c2 (c2 (c2 B37)))))))))))) (b := (c2 (c2 (c2 (c2 (c2 (c2 (c2 (c2 (c2 (c2 (c2 B37)))))))))))) (fun t => f37_10_eq t) (by kernel_rfl))
noncomputable def f37_8 (x0 x7 x8 : AV) : M AV :=
 bd (bi .gtr x7 (.int .i64 8192)) fun v1 =>
 cnd v1 (
 bd (lnS x0) fun v2 =>
 bd (bi .quo (.int .i64 8192) v2) fun v3 =>
 bd (lnS x0) fun v4 =>
 bd (bi .mul v3 v4) fun v5 =>
 bd (bi .eql v5 (.int .i64 0)) fun v6 =>
 cnd v6 (
 bd (lnS x0) fun v7 =>
 f37_9 x0 x7 v7) (
 f37_9 x0 x7 v5)) (
 f37_9 x0 x7 x8)
theorem f37_8_eq (t : Tmps) : dcode E37 125 (c2 (c2 (c2 (c2 (c2 (c2 (c2 (c2 (c2 B37))))))))) t K37 = f37_8 (t 0) (t 7) (t 8) := (seq_eq (a := (c1 (c2 (c2 (c2 (c2 (c2 (c2 (c2 (c2 (c2 B37))))))))))) (b := (c2 (c2 (c2 (c2 (c2 (c2 (c2 (c2 (c2 (c2 B37))))))))))) (fun t => f37_9_eq t) (by kernel_rfl))
noncomputable def f37_7 (x0 x7 : AV) : M AV :=
 f37_8 x0 x7 x7
theorem f37_7_eq (t : Tmps) : dcode E37 125 (c2 (c2 (c2 (c2 (c2 (c2 (c2 (c2 B37)))))))) t K37 = f37_7 (t 0) (t 7) := (seq_eq (a := (c1 (c2 (c2 (c2 (c2 (c2 (c2 (c2 (c2 B37)))))))))) (b := (c2 (c2 (c2 (c2 (c2 (c2 (c2 (c2 (c2 B37)))))))))) (fun t => f37_8_eq t) (by kernel_rfl))
noncomputable def f37_16 (x0 x7 x43 : AV) : M AV :=
 cnd x43 (
 bd (bi .leq x7 (.int .i64 128)) fun v1 =>
 bd (gd v1 true (ret x0)) fun v2 =>
 bd (gd v1 true (f23 (.str [32, 32, 32, 32, 32, 32, 32, 32, 32, 32, 32, 32, 32, 32, 32, 32, 32, 32, 32, 32, 32, 32, 32, 32, 32, 32, 32, 32, 32, 32, 32, 32, 32, 32, 32, 32, 32, 32, 32, 32, 32, 32, 32, 32, 32, 32, 32, 32, 32, 32, 32, 32, 32, 32, 32, 32, 32, 32, 32, 32, 32, 32, 32, 32, 32, 32, 32, 32, 32, 32, 32, 32, 32, 32, 32, 32, 32, 32, 32, 32, 32, 32, 32, 32, 32, 32, 32, 32, 32, 32, 32, 32, 32, 32, 32, 32, 32, 32, 32, 32, 32, 32, 32, 32, 32, 32, 32, 32, 32, 32, 32, 32, 32, 32, 32, 32, 32, 32, 32, 32, 32, 32, 32, 32, 32, 32, 32, 32]) v2)) fun v3 =>
 bd (pk v1 v3 (.bool false)) fun v4 =>
 cnd v4 (
 bd (ss (.str [32, 32, 32, 32, 32, 32, 32, 32, 32, 32, 32, 32, 32, 32, 32, 32, 32, 32, 32, 32, 32, 32, 32, 32, 32, 32, 32, 32, 32, 32, 32, 32, 32, 32, 32, 32, 32, 32, 32, 32, 32, 32, 32, 32, 32, 32, 32, 32, 32, 32, 32, 32, 32, 32, 32, 32, 32, 32, 32, 32, 32, 32, 32, 32, 32, 32, 32, 32, 32, 32, 32, 32, 32, 32, 32, 32, 32, 32, 32, 32, 32, 32, 32, 32, 32, 32, 32, 32, 32, 32, 32, 32, 32, 32, 32, 32, 32, 32, 32, 32, 32, 32, 32, 32, 32, 32, 32, 32, 32, 32, 32, 32, 32, 32, 32, 32, 32, 32, 32, 32, 32, 32, 32, 32, 32, 32, 32, 32]) none (some x7)) fun v5 =>
 ret v5) (
 bd (bi .leq x7 (.int .i64 128)) fun v6 =>
 bd (gd v6 true (ret x0)) fun v7 =>
 bd (gd v6 true (f23 (.str [45, 45, 45, 45, 45, 45, 45, 45, 45, 45, 45, 45, 45, 45, 45, 45, 45, 45, 45, 45, 45, 45, 45, 45, 45, 45, 45, 45, 45, 45, 45, 45, 45, 45, 45, 45, 45, 45, 45, 45, 45, 45, 45, 45, 45, 45, 45, 45, 45, 45, 45, 45, 45, 45, 45, 45, 45, 45, 45, 45, 45, 45, 45, 45, 45, 45, 45, 45, 45, 45, 45, 45, 45, 45, 45, 45, 45, 45, 45, 45, 45, 45, 45, 45, 45, 45, 45, 45, 45, 45, 45, 45, 45, 45, 45, 45, 45, 45, 45, 45, 45, 45, 45, 45, 45, 45, 45, 45, 45, 45, 45, 45, 45, 45, 45, 45, 45, 45, 45, 45, 45, 45, 45, 45, 45, 45, 45, 45]) v7)) fun v8 =>
 bd (pk v6 v8 (.bool false)) fun v9 =>
 cnd v9 (
 bd (ss (.str [45, 45, 45, 45, 45, 45, 45, 45, 45, 45, 45, 45, 45, 45, 45, 45, 45, 45, 45, 45, 45, 45, 45, 45, 45, 45, 45, 45, 45, 45, 45, 45, 45, 45, 45, 45, 45, 45, 45, 45, 45, 45, 45, 45, 45, 45, 45, 45, 45, 45, 45, 45, 45, 45, 45, 45, 45, 45, 45, 45, 45, 45, 45, 45, 45, 45, 45, 45, 45, 45, 45, 45, 45, 45, 45, 45, 45, 45, 45, 45, 45, 45, 45, 45, 45, 45, 45, 45, 45, 45, 45, 45, 45, 45, 45, 45, 45, 45, 45, 45, 45, 45, 45, 45, 45, 45, 45, 45, 45, 45, 45, 45, 45, 45, 45, 45, 45, 45, 45, 45, 45, 45, 45, 45, 45, 45, 45, 45]) none (some x7)) fun v10 =>
 ret v10) (
 bd (bi .leq x7 (.int .i64 64)) fun v11 =>
 bd (gd v11 true (ret x0)) fun v12 =>
 bd (gd v11 true (f23 (.str [48, 48, 48, 48, 48, 48, 48, 48, 48, 48, 48, 48, 48, 48, 48, 48, 48, 48, 48, 48, 48, 48, 48, 48, 48, 48, 48, 48, 48, 48, 48, 48, 48, 48, 48, 48, 48, 48, 48, 48, 48, 48, 48, 48, 48, 48, 48, 48, 48, 48, 48, 48, 48, 48, 48, 48, 48, 48, 48, 48, 48, 48, 48, 48]) v12)) fun v13 =>
 bd (pk v11 v13 (.bool false)) fun v14 =>
 cnd v14 (
 bd (ss (.str [48, 48, 48, 48, 48, 48, 48, 48, 48, 48, 48, 48, 48, 48, 48, 48, 48, 48, 48, 48, 48, 48, 48, 48, 48, 48, 48, 48, 48, 48, 48, 48, 48, 48, 48, 48, 48, 48, 48, 48, 48, 48, 48, 48, 48, 48, 48, 48, 48, 48, 48, 48, 48, 48, 48, 48, 48, 48, 48, 48, 48, 48, 48, 48]) none (some x7)) fun v15 =>
 ret v15) (
 bd (bi .leq x7 (.int .i64 128)) fun v16 =>
 bd (gd v16 true (ret x0)) fun v17 =>
 bd (gd v16 true (f23 (.str [61, 61, 61, 61, 61, 61, 61, 61, 61, 61, 61, 61, 61, 61, 61, 61, 61, 61, 61, 61, 61, 61, 61, 61, 61, 61, 61, 61, 61, 61, 61, 61, 61, 61, 61, 61, 61, 61, 61, 61, 61, 61, 61, 61, 61, 61, 61, 61, 61, 61, 61, 61, 61, 61, 61, 61, 61, 61, 61, 61, 61, 61, 61, 61, 61, 61, 61, 61, 61, 61, 61, 61, 61, 61, 61, 61, 61, 61, 61, 61, 61, 61, 61, 61, 61, 61, 61, 61, 61, 61, 61, 61, 61, 61, 61, 61, 61, 61, 61, 61, 61, 61, 61, 61, 61, 61, 61, 61, 61, 61, 61, 61, 61, 61, 61, 61, 61, 61, 61, 61, 61, 61, 61, 61, 61, 61, 61, 61]) v17)) fun v18 =>
 bd (pk v16 v18 (.bool false)) fun v19 =>
 cnd v19 (
 bd (ss (.str [61, 61, 61, 61, 61, 61, 61, 61, 61, 61, 61, 61, 61, 61, 61, 61, 61, 61, 61, 61, 61, 61, 61, 61, 61, 61, 61, 61, 61, 61, 61, 61, 61, 61, 61, 61, 61, 61, 61, 61, 61, 61, 61, 61, 61, 61, 61, 61, 61, 61, 61, 61, 61, 61, 61, 61, 61, 61, 61, 61, 61, 61, 61, 61, 61, 61, 61, 61, 61, 61, 61, 61, 61, 61, 61, 61, 61, 61, 61, 61, 61, 61, 61, 61, 61, 61, 61, 61, 61, 61, 61, 61, 61, 61, 61, 61, 61, 61, 61, 61, 61, 61, 61, 61, 61, 61, 61, 61, 61, 61, 61, 61, 61, 61, 61, 61, 61, 61, 61, 61, 61, 61, 61, 61, 61, 61, 61, 61]) none (some x7)) fun v20 =>
 ret v20) (
 bd (bi .leq x7 (.int .i64 64)) fun v21 =>
 bd (gd v21 true (ret x0)) fun v22 =>
 bd (gd v21 true (f23 (.str [9, 9, 9, 9, 9, 9, 9, 9, 9, 9, 9, 9, 9, 9, 9, 9, 9, 9, 9, 9, 9, 9, 9, 9, 9, 9, 9, 9, 9, 9, 9, 9, 9, 9, 9, 9, 9, 9, 9, 9, 9, 9, 9, 9, 9, 9, 9, 9, 9, 9, 9, 9, 9, 9, 9, 9, 9, 9, 9, 9, 9, 9, 9, 9]) v22)) fun v23 =>
 bd (pk v21 v23 (.bool false)) fun v24 =>
 cnd v24 (
 bd (ss (.str [9, 9, 9, 9, 9, 9, 9, 9, 9, 9, 9, 9, 9, 9, 9, 9, 9, 9, 9, 9, 9, 9, 9, 9, 9, 9, 9, 9, 9, 9, 9, 9, 9, 9, 9, 9, 9, 9, 9, 9, 9, 9, 9, 9, 9, 9, 9, 9, 9, 9, 9, 9, 9, 9, 9, 9, 9, 9, 9, 9, 9, 9, 9, 9]) none (some x7)) fun v25 =>
 ret v25) (
 f37_7 x0 x7)))))) (
 f37_7 x0 x7)
theorem f37_16_eq (t : Tmps) : dcode E37 125 (c2 (c1 (c2 (c1 (c2 (c2 (c2 (c2 (c2 (c2 (c2 B37))))))))))) t (kB 1 (kJ (fun t => f37_7 (t 0) (t 7)) K37)) = f37_16 (t 0) (t 7) (t 43) := by kernel_rfl
noncomputable def f37_15 (x0 x7 x42 : AV) : M AV :=
 bd (bi .eql x42 (.int .u8 32)) fun v1 =>
 cnd v1 (
 f37_16 x0 x7 v1) (
 bd (bi .eql x42 (.int .u8 45)) fun v2 =>
 cnd v2 (
 f37_16 x0 x7 v2) (
 bd (bi .eql x42 (.int .u8 48)) fun v3 =>
 cnd v3 (
 f37_16 x0 x7 v3) (
 bd (bi .eql x42 (.int .u8 61)) fun v4 =>
 cnd v4 (
 f37_16 x0 x7 v4) (
 bd (bi .eql x42 (.int .u8 9)) fun v5 =>
 f37_16 x0 x7 v5))))
theorem f37_15_eq (t : Tmps) : dcode E37 125 (c2 (c1 (c2 (c2 (c2 (c2 (c2 (c2 (c2 B37))))))))) t (kJ (fun t => f37_7 (t 0) (t 7)) K37) = f37_15 (t 0) (t 7) (t 42) := (seq_eq (a := (c1 (c1 (c2 (c1 (c2 (c2 (c2 (c2 (c2 (c2 (c2 B37)))))))))))) (b := (c2 (c1 (c2 (c1 (c2 (c2 (c2 (c2 (c2 (c2 (c2 B37)))))))))))) (fun t => f37_16_eq t) (by kernel_rfl))
noncomputable def f37_6 (x0 x7 : AV) : M AV :=
 bd (ixs x0 (.int .i64 0)) fun v1 =>
 f37_15 x0 x7 v1
theorem f37_6_eq (t : Tmps) : dcode E37 125 (c2 (c2 (c2 (c2 (c2 (c2 (c2 B37))))))) t K37 = f37_6 (t 0) (t 7) := (seq_eq (a := (c1 (c2 (c2 (c2 (c2 (c2 (c2 (c2 B37))))))))) (b := (c2 (c2 (c2 (c2 (c2 (c2 (c2 (c2 B37))))))))) (fun t => f37_7_eq t) (seq_eq (a := (c1 (c1 (c2 (c2 (c2 (c2 (c2 (c2 (c2 B37)))))))))) (b := (c2 (c1 (c2 (c2 (c2 (c2 (c2 (c2 (c2 B37)))))))))) (fun t => f37_15_eq t) (by kernel_rfl)))
noncomputable def f37_5 (x0 x7 : AV) : M AV :=
 bd (lnS x0) fun v1 =>
 bd (bi .eql v1 (.int .i64 0)) fun v2 =>
 cnd v2 (
 ret (.str [])) (
 f37_6 x0 x7)
theorem f37_5_eq (t : Tmps) : dcode E37 125 (c2 (c2 (c2 (c2 (c2 (c2 B37)))))) t K37 = f37_5 (t 0) (t 7) := (seq_eq (a := (c1 (c2 (c2 (c2 (c2 (c2 (c2 B37)))))))) (b := (c2 (c2 (c2 (c2 (c2 (c2 (c2 B37)))))))) (fun t => f37_6_eq t) (by kernel_rfl))
noncomputable def f37_4 (x0 x6 : AV) : M AV :=
 bd (ci .i64 x6) fun v1 =>
 f37_5 x0 v1
theorem f37_4_eq (t : Tmps) : dcode E37 125 (c2 (c2 (c2 (c2 (c2 B37))))) t K37 = f37_4 (t 0) (t 6) := (seq_eq (a := (c1 (c2 (c2 (c2 (c2 (c2 B37))))))) (b := (c2 (c2 (c2 (c2 (c2 (c2 B37))))))) (fun t => f37_5_eq t) (by kernel_rfl))
noncomputable def f37_3 (x0 x5 x6 : AV) : M AV :=
 bd (bi .gtr x5 (.int .u64 0)) fun v1 =>
 bd (gd v1 false (ret x6)) fun v2 =>
 bd (gd v1 false (bi .gtr v2 (.int .u64 9223372036854775807))) fun v3 =>
 bd (pk v1 (.bool true) v3) fun v4 =>
 cnd v4 (
 bd (fail : M AV) fun v5 =>
 bd (fail : M AV) fun _ =>
 f37_4 x0 x6) (
 f37_4 x0 x6)
theorem f37_3_eq (t : Tmps) : dcode E37 125 (c2 (c2 (c2 (c2 B37)))) t K37 = f37_3 (t 0) (t 5) (t 6) := (seq_eq (a := (c1 (c2 (c2 (c2 (c2 B37)))))) (b := (c2 (c2 (c2 (c2 (c2 B37)))))) (fun t => f37_4_eq t) (by kernel_rfl))
noncomputable def f37_2 (x0 x1 : AV) : M AV :=
 bd (lnS x0) fun v1 =>
 bd (ci .u64 v1) fun v2 =>
 bd (ci .u64 x1) fun v3 =>
 bd (f63 v2 v3) fun v4 =>
 bd (ex v4 0) fun v5 =>
 bd (ex v4 1) fun v6 =>
 f37_3 x0 v5 v6
theorem f37_2_eq (t : Tmps) : dcode E37 125 (c2 (c2 (c2 B37))) t K37 = f37_2 (t 0) (t 1) := (seq_eq (a := (c1 (c2 (c2 (c2 B37))))) (b := (c2 (c2 (c2 (c2 B37))))) (fun t => f37_3_eq t) (by kernel_rfl))
noncomputable def f37_1 (x0 x1 : AV) : M AV :=
 bd (bi .lss x1 (.int .i64 0)) fun v1 =>
 cnd v1 (
 bd (fail : M AV) fun v2 =>
 bd (fail : M AV) fun _ =>
 f37_2 x0 x1) (
 f37_2 x0 x1)
theorem f37_1_eq (t : Tmps) : dcode E37 125 (c2 (c2 B37)) t K37 = f37_1 (t 0) (t 1) := (seq_eq (a := (c1 (c2 (c2 B37)))) (b := (c2 (c2 (c2 B37)))) (fun t => f37_2_eq t) (by kernel_rfl))
noncomputable def f37_0 (x0 x1 : AV) : M AV :=
 bd (bi .eql x1 (.int .i64 0)) fun v1 =>
 cnd v1 (
 ret (.str [])) (
 bd (bi .eql x1 (.int .i64 1)) fun v2 =>
 cnd v2 (
 ret x0) (
 f37_1 x0 x1))
theorem f37_0_eq (t : Tmps) : dcode E37 125 (c2 B37) t K37 = f37_0 (t 0) (t 1) := (seq_eq (a := (c1 (c2 B37))) (b := (c2 (c2 B37))) (fun t => f37_1_eq t) (by kernel_rfl))
noncomputable def f37 (x0 x1 : AV) : M AV :=
 f37_0 x0 x1
theorem f37_top (t : Tmps) : dcode E37 125 B37 t K37 = f37 (t 0) (t 1) := (seq_eq (a := (c1 B37)) (b := (c2 B37)) (fun t => f37_0_eq t) (by kernel_rfl))
theorem f37_eq (x0 x1 : AV) : dfn E37 Go.Proofs.Tryd.f37 [x0, x1] = f37 x0 x1 := dfn_eq (c := B37) (nt := 125) (K := K37) (by kernel_rfl) (by kernel_rfl) rfl (by kernel_rfl) (f37_top (argT [x0, x1]))
theorem O37 : EnvOK E37 := ⟨fun g xs => (ok_if (S23 xs) (ok_if (S30 xs) (ok_if (S31 xs) (ok_if (S40 xs) (ok_if (S63 xs) (ok_if (S64 xs) ok_fail)))))), ap_fail⟩
theorem S37 (xs : List AV) : CallOK Go.Proofs.Tryd.prog 3 37 xs (L2 f37 xs) := ok_L2 (fun x0 x1 => ok_fn (E := E37) (fn := Go.Proofs.Tryd.f37) O37 rfl rfl (by kernel_rfl) (by kernel_rfl) (f37_eq x0 x1)) xs

/-! ### strings.Join: function 38 -/
noncomputable def C38 (g : FuncId) (xs : List AV) : M AV := bif Nat.beq g 30 then L2 f30 xs else bif Nat.beq g 31 then L1 f31 xs else bif Nat.beq g 64 then L2 f64 xs else fail
noncomputable def E38 : Env := ⟨Go.Proofs.Tryd.prog, 3, C38, fun _ _ => fail, fun _ => [], 38, none⟩
noncomputable def B38 : Code := bodyOf Go.Proofs.Tryd.f38
noncomputable def K38 : KT := dK Go.Proofs.Tryd.prog Go.Proofs.Tryd.f38.results.toList
noncomputable def f38_8 (x8 : AV) : M AV :=
 bd (f31 x8) fun v1 =>
 ret v1
theorem f38_8_eq (t : Tmps) : dcode E38 75 (c2 (c2 (c2 (c2 (c2 (c2 (c2 (c2 (c2 B38))))))))) t K38 = f38_8 (t 8) := by kernel_rfl
noncomputable def f38_b10 (L10 : AV → AV → AV → AV → AV → M AV) (x1 x8 x63 x64 x65 : AV) : M AV :=
 bd (bi .lss x65 x64) fun v1 =>
 cnd v1 (
 bd (ixp 1 x63 x65) fun v2 =>
 bd (ld v2) fun v3 =>
 bd (f30 x8 x1) fun v4 =>
 bd (f30 x8 v3) fun v5 =>
 bd (bi .add x65 (.int .i64 1)) fun v6 =>
 L10 x1 x8 x63 x64 v6) (
 f38_8 x8)
theorem f38_b10_eq (L10 : AV → AV → AV → AV → AV → M AV) (t : Tmps) : dcode E38 75 (c1 (c1 (c2 (c1 (c2 (c2 (c2 (c2 (c2 (c2 (c2 (c2 B38)))))))))))) t (kJ (fun t => L10 (t 1) (t 8) (t 63) (t 64) (t 65)) (kB 3 (kJ (fun t => f38_8 (t 8)) K38))) = f38_b10 L10 (t 1) (t 8) (t 63) (t 64) (t 65) := by kernel_rfl
noncomputable def f38_l10 : Nat → AV → AV → AV → AV → AV → M AV
  | 0, _, _, _, _, _ => fail
  | n + 1, x1, x8, x63, x64, x65 => f38_b10 (f38_l10 n) x1 x8 x63 x64 x65
theorem f38_l10_eq (t : Tmps) : dcode E38 75 (c1 (c2 (c1 (c2 (c2 (c2 (c2 (c2 (c2 (c2 (c2 B38))))))))))) t (kB 3 (kJ (fun t => f38_8 (t 8)) K38)) = f38_l10 fuel (t 1) (t 8) (t 63) (t 64) (t 65) :=
  dloop_eq (c := (c1 (c1 (c2 (c1 (c2 (c2 (c2 (c2 (c2 (c2 (c2 (c2 B38))))))))))))) (g := fun n t => f38_l10 n (t 1) (t 8) (t 63) (t 64) (t 65)) (fun _ => rfl) (fun n t => f38_b10_eq (f38_l10 n) t)
noncomputable def f38_9 (x1 x8 x63 x64 x65 : AV) : M AV :=
 f38_l10 fuel x1 x8 x63 x64 x65
theorem f38_9_eq (t : Tmps) : dcode E38 75 (c2 (c1 (c2 (c2 (c2 (c2 (c2 (c2 (c2 (c2 B38)))))))))) t (kJ (fun t => f38_8 (t 8)) K38) = f38_9 (t 1) (t 8) (t 63) (t 64) (t 65) := (f38_l10_eq _)
noncomputable def f38_7 (x0 x1 x8 : AV) : M AV :=
 bd (sls 1 x0 (some (.int .i64 1)) none) fun v1 =>
 bd (lnL v1) fun v2 =>
 f38_9 x1 x8 v1 v2 (.int .i64 0)
theorem f38_7_eq (t : Tmps) : dcode E38 75 (c2 (c2 (c2 (c2 (c2 (c2 (c2 (c2 B38)))))))) t K38 = f38_7 (t 0) (t 1) (t 8) := (seq_eq (a := (c1 (c2 (c2 (c2 (c2 (c2 (c2 (c2 (c2 B38)))))))))) (b := (c2 (c2 (c2 (c2 (c2 (c2 (c2 (c2 (c2 B38)))))))))) (fun t => f38_8_eq t) (seq_eq (a := (c1 (c1 (c2 (c2 (c2 (c2 (c2 (c2 (c2 (c2 B38))))))))))) (b := (c2 (c1 (c2 (c2 (c2 (c2 (c2 (c2 (c2 (c2 B38))))))))))) (fun t => f38_9_eq t) (by kernel_rfl)))
noncomputable def f38_6 (x0 x1 x8 : AV) : M AV :=
 bd (ixp 1 x0 (.int .i64 0)) fun v1 =>
 bd (ld v1) fun v2 =>
 bd (f30 x8 v2) fun v3 =>
 f38_7 x0 x1 x8
theorem f38_6_eq (t : Tmps) : dcode E38 75 (c2 (c2 (c2 (c2 (c2 (c2 (c2 B38))))))) t K38 = f38_6 (t 0) (t 1) (t 8) := (seq_eq (a := (c1 (c2 (c2 (c2 (c2 (c2 (c2 (c2 B38))))))))) (b := (c2 (c2 (c2 (c2 (c2 (c2 (c2 (c2 B38))))))))) (fun t => f38_7_eq t) (by kernel_rfl))
noncomputable def f38_5 (x0 x1 x5 x8 : AV) : M AV :=
 bd (f64 x8 x5) fun v1 =>
 f38_6 x0 x1 x8
theorem f38_5_eq (t : Tmps) : dcode E38 75 (c2 (c2 (c2 (c2 (c2 (c2 B38)))))) t K38 = f38_5 (t 0) (t 1) (t 5) (t 8) := (seq_eq (a := (c1 (c2 (c2 (c2 (c2 (c2 (c2 B38)))))))) (b := (c2 (c2 (c2 (c2 (c2 (c2 (c2 B38)))))))) (fun t => f38_6_eq t) (by kernel_rfl))
noncomputable def f38_4 (x0 x1 x5 : AV) : M AV :=
 bd (bx 56 (.agg [(.ptr none), .slN])) fun v1 =>
 f38_5 x0 x1 x5 v1
theorem f38_4_eq (t : Tmps) : dcode E38 75 (c2 (c2 (c2 (c2 (c2 B38))))) t K38 = f38_4 (t 0) (t 1) (t 5) := (seq_eq (a := (c1 (c2 (c2 (c2 (c2 (c2 B38))))))) (b := (c2 (c2 (c2 (c2 (c2 (c2 B38))))))) (fun t => f38_5_eq t) (by kernel_rfl))
noncomputable def f38_15 (L12 : AV → AV → AV → AV → AV → AV → M AV) (x0 x1 x5 x39 x40 x41 : AV) : M AV :=
 bd (bi .add x41 (.int .i64 1)) fun v1 =>
 L12 x0 x1 x5 x39 x40 v1
theorem f38_15_eq (L12 : AV → AV → AV → AV → AV → AV → M AV) (t : Tmps) : dcode E38 75 (c2 (c2 (c2 (c1 (c1 (c2 (c1 (c2 (c2 (c2 (c2 B38))))))))))) t (kJ (fun t => L12 (t 0) (t 1) (t 5) (t 39) (t 40) (t 41)) (kB 1 (kJ (fun t => f38_4 (t 0) (t 1) (t 5)) K38))) = f38_15 L12 (t 0) (t 1) (t 5) (t 39) (t 40) (t 41) := by kernel_rfl
noncomputable def f38_17 (L12 : AV → AV → AV → AV → AV → AV → M AV) (x0 x1 x5 x7 x39 x40 x41 : AV) : M AV :=
 bd (lnS x7) fun v1 =>
 bd (bi .add x5 v1) fun v2 =>
 f38_15 L12 x0 x1 v2 x39 x40 x41
theorem f38_17_eq (L12 : AV → AV → AV → AV → AV → AV → M AV) (t : Tmps) : dcode E38 75 (c2 (c2 (c1 (c1 (c2 (c2 (c1 (c1 (c2 (c1 (c2 (c2 (c2 (c2 B38)))))))))))))) t (kB 2 (kJ (fun t => f38_15 L12 (t 0) (t 1) (t 5) (t 39) (t 40) (t 41)) (kJ (fun t => L12 (t 0) (t 1) (t 5) (t 39) (t 40) (t 41)) (kB 1 (kJ (fun t => f38_4 (t 0) (t 1) (t 5)) K38))))) = f38_17 L12 (t 0) (t 1) (t 5) (t 7) (t 39) (t 40) (t 41) := by kernel_rfl
noncomputable def f38_16 (L12 : AV → AV → AV → AV → AV → AV → M AV) (x0 x1 x5 x7 x39 x40 x41 : AV) : M AV :=
 bd (lnS x7) fun v1 =>
 bd (bi .sub (.int .i64 9223372036854775807) x5) fun v2 =>
 bd (bi .gtr v1 v2) fun v3 =>
 cnd v3 (
 bd (fail : M AV) fun v4 =>
 bd (fail : M AV) fun _ =>
 f38_17 L12 x0 x1 x5 x7 x39 x40 x41) (
 f38_17 L12 x0 x1 x5 x7 x39 x40 x41)
theorem f38_16_eq (L12 : AV → AV → AV → AV → AV → AV → M AV) (t : Tmps) : dcode E38 75 (c2 (c1 (c1 (c2 (c2 (c1 (c1 (c2 (c1 (c2 (c2 (c2 (c2 B38))))))))))))) t (kB 2 (kJ (fun t => f38_15 L12 (t 0) (t 1) (t 5) (t 39) (t 40) (t 41)) (kJ (fun t => L12 (t 0) (t 1) (t 5) (t 39) (t 40) (t 41)) (kB 1 (kJ (fun t => f38_4 (t 0) (t 1) (t 5)) K38))))) = f38_16 L12 (t 0) (t 1) (t 5) (t 7) (t 39) (t 40) (t 41) := (seq_eq (a := (c1 (c2 (c1 (c1 (c2 (c2 (c1 (c1 (c2 (c1 (c2 (c2 (c2 (c2 B38))))))))))))))) (b := (c2 (c2 (c1 (c1 (c2 (c2 (c1 (c1 (c2 (c1 (c2 (c2 (c2 (c2 B38))))))))))))))) (fun t => f38_17_eq L12 t) (by kernel_rfl))
noncomputable def f38_14 (L12 : AV → AV → AV → AV → AV → AV → M AV) (x0 x1 x5 x39 x40 x41 : AV) : M AV :=
 bd (ixp 1 x39 x41) fun v1 =>
 bd (ld v1) fun v2 =>
 f38_16 L12 x0 x1 x5 v2 x39 x40 x41
theorem f38_14_eq (L12 : AV → AV → AV → AV → AV → AV → M AV) (t : Tmps) : dcode E38 75 (c2 (c2 (c1 (c1 (c2 (c1 (c2 (c2 (c2 (c2 B38)))))))))) t (kJ (fun t => L12 (t 0) (t 1) (t 5) (t 39) (t 40) (t 41)) (kB 1 (kJ (fun t => f38_4 (t 0) (t 1) (t 5)) K38))) = f38_14 L12 (t 0) (t 1) (t 5) (t 39) (t 40) (t 41) := (seq_eq (a := (c1 (c2 (c2 (c1 (c1 (c2 (c1 (c2 (c2 (c2 (c2 B38)))))))))))) (b := (c2 (c2 (c2 (c1 (c1 (c2 (c1 (c2 (c2 (c2 (c2 B38)))))))))))) (fun t => f38_15_eq L12 t) (seq_eq (a := (c1 (c1 (c1 (c2 (c2 (c1 (c1 (c2 (c1 (c2 (c2 (c2 (c2 B38)))))))))))))) (b := (c2 (c1 (c1 (c2 (c2 (c1 (c1 (c2 (c1 (c2 (c2 (c2 (c2 B38)))))))))))))) (fun t => f38_16_eq L12 t) (by kernel_rfl)))
noncomputable def f38_13 (L12 : AV → AV → AV → AV → AV → AV → M AV) (x0 x1 x5 x39 x40 x41 x42 : AV) : M AV :=
 cnd x42 (
 f38_14 L12 x0 x1 x5 x39 x40 x41) (
 f38_4 x0 x1 x5)
theorem f38_13_eq (L12 : AV → AV → AV → AV → AV → AV → M AV) (t : Tmps) : dcode E38 75 (c2 (c1 (c1 (c2 (c1 (c2 (c2 (c2 (c2 B38))))))))) t (kJ (fun t => L12 (t 0) (t 1) (t 5) (t 39) (t 40) (t 41)) (kB 1 (kJ (fun t => f38_4 (t 0) (t 1) (t 5)) K38))) = f38_13 L12 (t 0) (t 1) (t 5) (t 39) (t 40) (t 41) (t 42) := (seq_eq (a := (c1 (c2 (c1 (c1 (c2 (c1 (c2 (c2 (c2 (c2 B38))))))))))) (b := (c2 (c2 (c1 (c1 (c2 (c1 (c2 (c2 (c2 (c2 B38))))))))))) (fun t => f38_14_eq L12 t) (by kernel_rfl))
noncomputable def f38_b12 (L12 : AV → AV → AV → AV → AV → AV → M AV) (x0 x1 x5 x39 x40 x41 : AV) : M AV :=
 bd (bi .lss x41 x40) fun v1 =>
 f38_13 L12 x0 x1 x5 x39 x40 x41 v1
theorem f38_b12_eq (L12 : AV → AV → AV → AV → AV → AV → M AV) (t : Tmps) : dcode E38 75 (c1 (c1 (c2 (c1 (c2 (c2 (c2 (c2 B38)))))))) t (kJ (fun t => L12 (t 0) (t 1) (t 5) (t 39) (t 40) (t 41)) (kB 1 (kJ (fun t => f38_4 (t 0) (t 1) (t 5)) K38))) = f38_b12 L12 (t 0) (t 1) (t 5) (t 39) (t 40) (t 41) := (seq_eq (a := (c1 (c1 (c1 (c2 (c1 (c2 (c2 (c2 (c2 B38)))))))))) (b := (c2 (c1 (c1 (c2 (c1 (c2 (c2 (c2 (c2 B38)))))))))) (fun t => f38_13_eq L12 t) (by kernel_rfl))
noncomputable def f38_l12 : Nat → AV → AV → AV → AV → AV → AV → M AV
  | 0, _, _, _, _, _, _ => fail
  | n + 1, x0, x1, x5, x39, x40, x41 => f38_b12 (f38_l12 n) x0 x1 x5 x39 x40 x41
theorem f38_l12_eq (t : Tmps) : dcode E38 75 (c1 (c2 (c1 (c2 (c2 (c2 (c2 B38))))))) t (kB 1 (kJ (fun t => f38_4 (t 0) (t 1) (t 5)) K38)) = f38_l12 fuel (t 0) (t 1) (t 5) (t 39) (t 40) (t 41) :=
  dloop_eq (c := (c1 (c1 (c2 (c1 (c2 (c2 (c2 (c2 B38))))))))) (g := fun n t => f38_l12 n (t 0) (t 1) (t 5) (t 39) (t 40) (t 41)) (fun _ => rfl) (fun n t => f38_b12_eq (f38_l12 n) t)
noncomputable def f38_11 (x0 x1 x5 x39 x40 x41 : AV) : M AV :=
 f38_l12 fuel x0 x1 x5 x39 x40 x41
theorem f38_11_eq (t : Tmps) : dcode E38 75 (c2 (c1 (c2 (c2 (c2 (c2 B38)))))) t (kJ (fun t => f38_4 (t 0) (t 1) (t 5)) K38) = f38_11 (t 0) (t 1) (t 5) (t 39) (t 40) (t 41) := (f38_l12_eq _)
noncomputable def f38_3 (x0 x1 x5 : AV) : M AV :=
 bd (lnL x0) fun v1 =>
 f38_11 x0 x1 x5 x0 v1 (.int .i64 0)
theorem f38_3_eq (t : Tmps) : dcode E38 75 (c2 (c2 (c2 (c2 B38)))) t K38 = f38_3 (t 0) (t 1) (t 5) := (seq_eq (a := (c1 (c2 (c2 (c2 (c2 B38)))))) (b := (c2 (c2 (c2 (c2 (c2 B38)))))) (fun t => f38_4_eq t) (seq_eq (a := (c1 (c1 (c2 (c2 (c2 (c2 B38))))))) (b := (c2 (c1 (c2 (c2 (c2 (c2 B38))))))) (fun t => f38_11_eq t) (by kernel_rfl)))
noncomputable def f38_19 (x0 x1 x5 : AV) : M AV :=
 bd (lnS x1) fun v1 =>
 bd (lnL x0) fun v2 =>
 bd (bi .sub v2 (.int .i64 1)) fun v3 =>
 bd (bi .mul v1 v3) fun v4 =>
 bd (bi .add x5 v4) fun v5 =>
 f38_3 x0 x1 v5
theorem f38_19_eq (t : Tmps) : dcode E38 75 (c2 (c1 (c2 (c1 (c2 (c2 (c2 B38))))))) t (kJ (fun t => f38_3 (t 0) (t 1) (t 5)) K38) = f38_19 (t 0) (t 1) (t 5) := by kernel_rfl
noncomputable def f38_18 (x0 x1 x5 x22 : AV) : M AV :=
 cnd x22 (
 bd (lnS x1) fun v1 =>
 bd (lnL x0) fun v2 =>
 bd (bi .sub v2 (.int .i64 1)) fun v3 =>
 bd (bi .quo (.int .i64 9223372036854775807) v3) fun v4 =>
 bd (bi .geq v1 v4) fun v5 =>
 cnd v5 (
 bd (fail : M AV) fun v6 =>
 bd (fail : M AV) fun _ =>
 f38_19 x0 x1 x5) (
 f38_19 x0 x1 x5)) (
 f38_3 x0 x1 x5)
theorem f38_18_eq (t : Tmps) : dcode E38 75 (c2 (c1 (c2 (c2 (c2 B38))))) t (kJ (fun t => f38_3 (t 0) (t 1) (t 5)) K38) = f38_18 (t 0) (t 1) (t 5) (t 22) := (cond_eq (a := c1 (c2 (c1 (c2 (c2 (c2 B38)))))) (b := c2 (c2 (c1 (c2 (c2 (c2 B38)))))) (seq_eq (a := (c1 (c1 (c2 (c1 (c2 (c2 (c2 B38)))))))) (b := (c2 (c1 (c2 (c1 (c2 (c2 (c2 B38)))))))) (fun t => f38_19_eq t) (by kernel_rfl)) (by kernel_rfl))
noncomputable def f38_2 (x0 x1 x5 : AV) : M AV :=
 bd (lnS x1) fun v1 =>
 bd (bi .gtr v1 (.int .i64 0)) fun v2 =>
 f38_18 x0 x1 x5 v2
theorem f38_2_eq (t : Tmps) : dcode E38 75 (c2 (c2 (c2 B38))) t K38 = f38_2 (t 0) (t 1) (t 5) := (seq_eq (a := (c1 (c2 (c2 (c2 B38))))) (b := (c2 (c2 (c2 (c2 B38))))) (fun t => f38_3_eq t) (seq_eq (a := (c1 (c1 (c2 (c2 (c2 B38)))))) (b := (c2 (c1 (c2 (c2 (c2 B38)))))) (fun t => f38_18_eq t) (by kernel_rfl)))
noncomputable def f38_1 (x0 x1 : AV) : M AV :=
 f38_2 x0 x1 (.int .i64 0)
theorem f38_1_eq (t : Tmps) : dcode E38 75 (c2 (c2 B38)) t K38 = f38_1 (t 0) (t 1) := (seq_eq (a := (c1 (c2 (c2 B38)))) (b := (c2 (c2 (c2 B38)))) (fun t => f38_2_eq t) (by kernel_rfl))
noncomputable def f38_0 (x0 x1 : AV) : M AV :=
 bd (lnL x0) fun v1 =>
 bd (bi .eql v1 (.int .i64 0)) fun v2 =>
 cnd v2 (
 ret (.str [])) (
 bd (bi .eql v1 (.int .i64 1)) fun v3 =>
 cnd v3 (
 bd (ixp 1 x0 (.int .i64 0)) fun v4 =>
 bd (ld v4) fun v5 =>
 ret v5) (
 f38_1 x0 x1))
theorem f38_0_eq (t : Tmps) : dcode E38 75 (c2 B38) t K38 = f38_0 (t 0) (t 1) := (seq_eq (a := (c1 (c2 B38))) (b := (c2 (c2 B38))) (fun t => f38_1_eq t) (by kernel_rfl))
noncomputable def f38 (x0 x1 : AV) : M AV :=
 f38_0 x0 x1
theorem f38_top (t : Tmps) : dcode E38 75 B38 t K38 = f38 (t 0) (t 1) := (seq_eq (a := (c1 B38)) (b := (c2 B38)) (fun t => f38_0_eq t) (by kernel_rfl))
theorem f38_eq (x0 x1 : AV) : dfn E38 Go.Proofs.Tryd.f38 [x0, x1] = f38 x0 x1 := dfn_eq (c := B38) (nt := 75) (K := K38) (by kernel_rfl) (by kernel_rfl) rfl (by kernel_rfl) (f38_top (argT [x0, x1]))
theorem O38 : EnvOK E38 := ⟨fun g xs => (ok_if (S30 xs) (ok_if (S31 xs) (ok_if (S64 xs) ok_fail))), ap_fail⟩
theorem S38 (xs : List AV) : CallOK Go.Proofs.Tryd.prog 3 38 xs (L2 f38 xs) := ok_L2 (fun x0 x1 => ok_fn (E := E38) (fn := Go.Proofs.Tryd.f38) O38 rfl rfl (by kernel_rfl) (by kernel_rfl) (f38_eq x0 x1)) xs

/-! ### strings.Contains: function 39 -/
noncomputable def C39 (g : FuncId) (xs : List AV) : M AV := bif Nat.beq g 65 then L2 f65 xs else fail
noncomputable def E39 : Env := ⟨Go.Proofs.Tryd.prog, 3, C39, fun _ _ => fail, fun _ => [], 39, none⟩
noncomputable def B39 : Code := bodyOf Go.Proofs.Tryd.f39
noncomputable def K39 : KT := dK Go.Proofs.Tryd.prog Go.Proofs.Tryd.f39.results.toList
noncomputable def f39 (x0 x1 : AV) : M AV :=
 bd (f65 x0 x1) fun v1 =>
 bd (bi .geq v1 (.int .i64 0)) fun v2 =>
 ret v2
theorem f39_eq (x0 x1 : AV) : dfn E39 Go.Proofs.Tryd.f39 [x0, x1] = f39 x0 x1 := dfn_eq (c := B39) (nt := 9) (K := K39) (by kernel_rfl) (by kernel_rfl) rfl (by kernel_rfl) (by kernel_rfl)
theorem O39 : EnvOK E39 := ⟨fun g xs => (ok_if (S65 xs) ok_fail), ap_fail⟩
theorem S39 (xs : List AV) : CallOK Go.Proofs.Tryd.prog 3 39 xs (L2 f39 xs) := ok_L2 (fun x0 x1 => ok_fn (E := E39) (fn := Go.Proofs.Tryd.f39) O39 rfl rfl (by kernel_rfl) (by kernel_rfl) (f39_eq x0 x1)) xs

/-! ### etui/iri.Relative: function 15 -/
noncomputable def C15 (ap : FuncId → List AV → M AV) (g : FuncId) (xs : List AV) : M AV := bif Nat.beq g 26 then L2 f26 xs else bif Nat.beq g 35 then L1 (f35 ap) xs else bif Nat.beq g 36 then L2 f36 xs else bif Nat.beq g 37 then L2 f37 xs else bif Nat.beq g 38 then L2 f38 xs else bif Nat.beq g 39 then L2 f39 xs else fail
noncomputable def E15 (ap : FuncId → List AV → M AV) : Env := ⟨Go.Proofs.Tryd.prog, 3, C15 ap, ap, fun i => bif Nat.beq i 3 then [0, 1, 3, 4, 2, 5, 6, 7] else bif Nat.beq i 4 then [0, 1, 2, 3, 4, 5, 6, 7, 8, 9, 10, 11, 12, 13, 14, 15, 16] else bif Nat.beq i 5 then [0, 1, 2, 3, 4, 5] else [], 15, none⟩
noncomputable def B15 : Code := bodyOf Go.Proofs.Tryd.f15
noncomputable def K15 : KT := dK Go.Proofs.Tryd.prog Go.Proofs.Tryd.f15.results.toList
noncomputable def f15_3 (ap : FuncId → List AV → M AV) (x5 x6 : AV) : M AV :=
 bd (lnL x5) fun v1 =>
 bd (bi .sub v1 (.int .i64 1)) fun v2 =>
 bd (f37 (.str [46, 46, 47]) v2) fun v3 =>
 bd (f38 x6 (.str [47])) fun v4 =>
 bd (bi .add v3 v4) fun v5 =>
 bd (f26 v5 (.str [47])) fun v6 =>
 bd (ex v6 0) fun v7 =>
 bd (ex v6 1) fun v8 =>
 bd (ex v6 2) fun v9 =>
 bd (f39 v7 (.str [58])) fun v10 =>
 cnd v10 (
 bd (bi .add (.str [46, 47]) v5) fun v11 =>
 ret v11) (
 ret v5)
theorem f15_3_eq (ap : FuncId → List AV → M AV) (t : Tmps) : dcode (E15 ap) 68 (c2 (c2 (c2 (c2 B15)))) t K15 = f15_3 ap (t 5) (t 6) := by kernel_rfl
noncomputable def f15_b4 (ap : FuncId → List AV → M AV) (L4 : AV → AV → M AV) (x5 x6 : AV) : M AV :=
 bd (ret x5) fun v1 =>
 bd (lnL v1) fun v2 =>
 bd (bi .gtr v2 (.int .i64 1)) fun v3 =>
 bd (ret v3) fun v4 =>
 bd (gd v4 true (ret x6)) fun v5 =>
 bd (gd v4 true (lnL v5)) fun v6 =>
 bd (gd v4 true (bi .gtr v6 (.int .i64 1))) fun v7 =>
 bd (pk v4 v7 (.bool false)) fun v8 =>
 bd (ret v8) fun v9 =>
 bd (gd v9 true (ret x5)) fun v10 =>
 bd (gd v9 true (ixp 1 v10 (.int .i64 0))) fun v11 =>
 bd (gd v9 true (ld v11)) fun v12 =>
 bd (gd v9 true (ret x6)) fun v13 =>
 bd (gd v9 true (ixp 1 v13 (.int .i64 0))) fun v14 =>
 bd (gd v9 true (ld v14)) fun v15 =>
 bd (gd v9 true (bi .eql v12 v15)) fun v16 =>
 bd (pk v9 v16 (.bool false)) fun v17 =>
 cnd v17 (
 bd (ret x5) fun v18 =>
 bd (sls 1 v18 (some (.int .i64 1)) none) fun v19 =>
 bd (ret x6) fun v20 =>
 bd (sls 1 v20 (some (.int .i64 1)) none) fun v21 =>
 bd (ret v19) fun v22 =>
 bd (ret v21) fun v23 =>
 L4 v22 v23) (
 f15_3 ap x5 x6)
theorem f15_b4_eq (ap : FuncId → List AV → M AV) (L4 : AV → AV → M AV) (t : Tmps) : dcode (E15 ap) 68 (c1 (c1 (c1 (c2 (c2 (c2 B15)))))) t (kJ (fun t => L4 (t 5) (t 6)) (kB 0 (kJ (fun t => f15_3 ap (t 5) (t 6)) K15))) = f15_b4 ap L4 (t 5) (t 6) := by kernel_rfl
noncomputable def f15_l4 (ap : FuncId → List AV → M AV) : Nat → AV → AV → M AV
  | 0, _, _ => fail
  | n + 1, x5, x6 => f15_b4 ap (f15_l4 ap n) x5 x6
theorem f15_l4_eq (ap : FuncId → List AV → M AV) (t : Tmps) : dcode (E15 ap) 68 (c1 (c1 (c2 (c2 (c2 B15))))) t (kB 0 (kJ (fun t => f15_3 ap (t 5) (t 6)) K15)) = f15_l4 ap fuel (t 5) (t 6) :=
  dloop_eq (c := (c1 (c1 (c1 (c2 (c2 (c2 B15))))))) (g := fun n t => f15_l4 ap n (t 5) (t 6)) (fun _ => rfl) (fun n t => f15_b4_eq ap (f15_l4 ap n) t)
noncomputable def f15_2 (ap : FuncId → List AV → M AV) (x5 x6 : AV) : M AV :=
 f15_l4 ap fuel x5 x6
theorem f15_2_eq (ap : FuncId → List AV → M AV) (t : Tmps) : dcode (E15 ap) 68 (c2 (c2 (c2 B15))) t K15 = f15_2 ap (t 5) (t 6) := (seq_eq (a := (c1 (c2 (c2 (c2 B15))))) (b := (c2 (c2 (c2 (c2 B15))))) (fun t => f15_3_eq ap t) (f15_l4_eq ap _))
noncomputable def f15_1 (ap : FuncId → List AV → M AV) (x0 x1 : AV) : M AV :=
 bd (ret x0) fun v1 =>
 bd (ss v1 (some (.int .i64 1)) none) fun v2 =>
 bd (ret x1) fun v3 =>
 bd (ss v3 (some (.int .i64 1)) none) fun v4 =>
 bd (f36 v2 (.str [47])) fun v5 =>
 bd (f36 v4 (.str [47])) fun v6 =>
 bd (ret v5) fun v7 =>
 bd (ret v6) fun v8 =>
 f15_2 ap v7 v8
theorem f15_1_eq (ap : FuncId → List AV → M AV) (t : Tmps) : dcode (E15 ap) 68 (c2 (c2 B15)) t K15 = f15_1 ap (t 0) (t 1) := (seq_eq (a := (c1 (c2 (c2 B15)))) (b := (c2 (c2 (c2 B15)))) (fun t => f15_2_eq ap t) (by kernel_rfl))
noncomputable def f15_0 (ap : FuncId → List AV → M AV) (x0 x1 : AV) : M AV :=
 bd (bi .neq x0 (.str [47])) fun v1 =>
 bd (gd v1 true (ret x0)) fun v2 =>
 bd (gd v1 true (f35 ap v2)) fun v3 =>
 bd (gd v1 true (un .not v3)) fun v4 =>
 bd (pk v1 v4 (.bool false)) fun v5 =>
 bd (gd v5 false (ret x1)) fun v6 =>
 bd (gd v5 false (f35 ap v6)) fun v7 =>
 bd (gd v5 false (un .not v7)) fun v8 =>
 bd (pk v5 (.bool true) v8) fun v9 =>
 cnd v9 (
 ret (.str [])) (
 f15_1 ap x0 x1)
theorem f15_0_eq (ap : FuncId → List AV → M AV) (t : Tmps) : dcode (E15 ap) 68 (c2 B15) t K15 = f15_0 ap (t 0) (t 1) := (seq_eq (a := (c1 (c2 B15))) (b := (c2 (c2 B15))) (fun t => f15_1_eq ap t) (by kernel_rfl))
noncomputable def f15 (ap : FuncId → List AV → M AV) (x0 x1 : AV) : M AV :=
 f15_0 ap x0 x1
theorem f15_top (ap : FuncId → List AV → M AV) (t : Tmps) : dcode (E15 ap) 68 B15 t K15 = f15 ap (t 0) (t 1) := (seq_eq (a := (c1 B15)) (b := (c2 B15)) (fun t => f15_0_eq ap t) (by kernel_rfl))
theorem f15_eq (ap : FuncId → List AV → M AV) (x0 x1 : AV) : dfn (E15 ap) Go.Proofs.Tryd.f15 [x0, x1] = f15 ap x0 x1 := dfn_eq (c := B15) (nt := 68) (K := K15) (by kernel_rfl) (by kernel_rfl) rfl (by kernel_rfl) (f15_top ap (argT [x0, x1]))
theorem O15 (ap : FuncId → List AV → M AV) (hap : ApOK Go.Proofs.Tryd.prog 3 ap) : EnvOK (E15 ap) := ⟨fun g xs => (ok_if (S26 xs) (ok_if (S35 ap hap xs) (ok_if (S36 xs) (ok_if (S37 xs) (ok_if (S38 xs) (ok_if (S39 xs) ok_fail)))))), hap⟩
theorem S15 (ap : FuncId → List AV → M AV) (hap : ApOK Go.Proofs.Tryd.prog 3 ap) (xs : List AV) : CallOK Go.Proofs.Tryd.prog 3 15 xs (L2 (f15 ap) xs) := ok_L2 (fun x0 x1 => ok_fn (E := (E15 ap)) (fn := Go.Proofs.Tryd.f15) (O15 ap hap) rfl rfl (by kernel_rfl) (by kernel_rfl) (f15_eq ap x0 x1)) xs

/-! ### (*strings.Builder).WriteByte: function 43 -/
noncomputable def C43 (g : FuncId) (xs : List AV) : M AV := bif Nat.beq g 58 then L1 f58 xs else fail
noncomputable def E43 : Env := ⟨Go.Proofs.Tryd.prog, 3, C43, fun _ _ => fail, fun _ => [], 43, none⟩
noncomputable def B43 : Code := bodyOf Go.Proofs.Tryd.f43
noncomputable def K43 : KT := dK Go.Proofs.Tryd.prog Go.Proofs.Tryd.f43.results.toList
noncomputable def f43 (x0 x1 : AV) : M AV :=
 bd (f58 x0) fun v1 =>
 bd (nck x0) fun v2 =>
 bd (fa v2 1) fun v3 =>
 bd (ld v3) fun v4 =>
 bd (bsl 5 1 1 [(.int .u8 0)] [(0, 1, x1)]) fun v5 =>
 bd (app 5 1 1 v4 v5) fun v6 =>
 bd (nck x0) fun v7 =>
 bd (fa v7 1) fun v8 =>
 bd (st v8 v6) fun _ =>
 ret .nilIface
theorem f43_eq (x0 x1 : AV) : dfn E43 Go.Proofs.Tryd.f43 [x0, x1] = f43 x0 x1 := dfn_eq (c := B43) (nt := 17) (K := K43) (by kernel_rfl) (by kernel_rfl) rfl (by kernel_rfl) (by kernel_rfl)
theorem O43 : EnvOK E43 := ⟨fun g xs => (ok_if (S58 xs) ok_fail), ap_fail⟩
theorem S43 (xs : List AV) : CallOK Go.Proofs.Tryd.prog 3 43 xs (L2 f43 xs) := ok_L2 (fun x0 x1 => ok_fn (E := E43) (fn := Go.Proofs.Tryd.f43) O43 rfl rfl (by kernel_rfl) (by kernel_rfl) (f43_eq x0 x1)) xs

/-! ### etui/pname.percent: function 44 -/
noncomputable def C44 (g : FuncId) (xs : List AV) : M AV := fail
noncomputable def E44 : Env := ⟨Go.Proofs.Tryd.prog, 3, C44, fun _ _ => fail, fun i => bif Nat.beq i 1 then [0, 1, 2, 3, 4, 5, 6, 7, 8] else [], 44, none⟩
noncomputable def B44 : Code := bodyOf Go.Proofs.Tryd.f44
noncomputable def K44 : KT := dK Go.Proofs.Tryd.prog Go.Proofs.Tryd.f44.results.toList
noncomputable def f44 (x0 : AV) : M AV :=
 bd (ret x0) fun v1 =>
 bd (bi .shr v1 (.int .u64 4)) fun v2 =>
 bd (ixs (.str [48, 49, 50, 51, 52, 53, 54, 55, 56, 57, 65, 66, 67, 68, 69, 70]) v2) fun v3 =>
 bd (ret x0) fun v4 =>
 bd (bi .and v4 (.int .u8 15)) fun v5 =>
 bd (ixs (.str [48, 49, 50, 51, 52, 53, 54, 55, 56, 57, 65, 66, 67, 68, 69, 70]) v5) fun v6 =>
 bd (bsl 5 1 3 [(.int .u8 0), (.int .u8 0), (.int .u8 0)] [(0, 1, (.int .u8 37)), (1, 1, v3), (2, 1, v6)]) fun v7 =>
 bd (b2s v7) fun v8 =>
 bd (ret v8) fun v9 =>
 ret v9
theorem f44_eq (x0 : AV) : dfn E44 Go.Proofs.Tryd.f44 [x0] = f44 x0 := dfn_eq (c := B44) (nt := 11) (K := K44) (by kernel_rfl) (by kernel_rfl) rfl (by kernel_rfl) (by kernel_rfl)
theorem O44 : EnvOK E44 := ⟨fun g xs => ok_fail, ap_fail⟩
theorem S44 (xs : List AV) : CallOK Go.Proofs.Tryd.prog 3 44 xs (L1 f44 xs) := ok_L1 (fun x0 => ok_fn (E := E44) (fn := Go.Proofs.Tryd.f44) O44 rfl rfl (by kernel_rfl) (by kernel_rfl) (f44_eq x0)) xs

end Go.Proofs.YtgljgjnhagidnaaDoor.Den
