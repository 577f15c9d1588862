/- Each function of the program as a denotation, and that its calls come to what the denotation says. -/
import Derived.Test.YtgljgjnhagidnaaGreatDoorProg
import Derived.KernelRfl
import Derived.Test.YtgljgjnhagidnaaGreatDoorDen04
namespace Go.Proofs.YtgljgjnhagidnaaGreatDoor.Den
open Go Go.Dn Go.Dn.M Go.Shelf
set_option maxRecDepth 100000
set_option linter.unusedVariables false

def lays219_ren : Go.Shelf.Ren := ⟨fun | 219 => 79 | 217 => 83 | 225 => 90 | 224 => 91 | 267 => 92 | 266 => 98 | 314 => 100 | n => n, fun | 9 => 9 | 3 => 3 | 4 => 4 | 5 => 5 | 46 => 81 | 146 => 93 | 51 => 92 | n => n, fun | 1 => 0 | n => n⟩
theorem lays219 : Go.Proofs.Lays.n219 Tryz.prog lays219_ren where
  mixed := by kernel_rfl
  f217 := Tryz.func83.trans (congrArg some (by kernel_rfl))
  f219 := Tryz.func79.trans (congrArg some (by kernel_rfl))
  f224 := Tryz.func91.trans (congrArg some (by kernel_rfl))
  f225 := Tryz.func90.trans (congrArg some (by kernel_rfl))
  f266 := Tryz.func98.trans (congrArg some (by kernel_rfl))
  f267 := Tryz.func92.trans (congrArg some (by kernel_rfl))
  f314 := Tryz.func100.trans (congrArg some (by kernel_rfl))
  t3 := Tryz.underlying3
  a3 := Tryz.isAgg3
  z3 := Tryz.sizeOf3
  v3 := Tryz.zeroValue3
  t4 := Tryz.underlying4
  a4 := Tryz.isAgg4
  z4 := Tryz.sizeOf4
  v4 := Tryz.zeroValue4
  t5 := Tryz.underlying5
  a5 := Tryz.isAgg5
  z5 := Tryz.sizeOf5
  v5 := Tryz.zeroValue5
  t9 := Tryz.underlying9
  a9 := Tryz.isAgg9
  z9 := Tryz.sizeOf9
  v9 := Tryz.zeroValue9
  t46 := Tryz.underlying81
  a46 := Tryz.isAgg81
  z46 := Tryz.sizeOf81
  v46 := Tryz.zeroValue81
  t51 := Tryz.underlying92
  a51 := Tryz.isAgg92
  z51 := Tryz.sizeOf92
  v51 := Tryz.zeroValue92
  t146 := Tryz.underlying93
  a146 := Tryz.isAgg93
  z146 := Tryz.sizeOf93
  v146 := Tryz.zeroValue93
  g1 := by kernel_rfl
theorem N79 (xs : List AV) : CallOK Go.Proofs.Tryz.prog 3 79 xs (L2 (nIndex 0) xs) := nIndex_ok (g := 0) (fn := Go.Proofs.Tryz.f79) (by decide) (by kernel_rfl) (by kernel_rfl) (by kernel_rfl) (fun s sub m w h1 h2 => Any.stringslite_Index lays219 s sub m w h1 h2) xs
theorem N82 (xs : List AV) : CallOK Go.Proofs.Tryz.prog 3 82 xs (L1 nNoEscape xs) := nNoEscape_ok (fn := Go.Proofs.Tryz.f82) (by kernel_rfl) (by kernel_rfl) (by kernel_rfl) (by kernel_rfl) (by kernel_rfl) xs
theorem N88 (xs : List AV) : CallOK Go.Proofs.Tryz.prog 3 88 xs (L2 nCountString xs) := nCountString_ok (fn := Go.Proofs.Tryz.f88) (by kernel_rfl) (by kernel_rfl) (by kernel_rfl) (by kernel_rfl) (by kernel_rfl) xs
theorem N89 (xs : List AV) : CallOK Go.Proofs.Tryz.prog 3 89 xs (L1 (nMakeNoZero 5) xs) := nMakeNoZero_ok (t := 59) (e := 5) (fn := Go.Proofs.Tryz.f89) (by kernel_rfl) (by kernel_rfl) (by kernel_rfl) (by kernel_rfl) (by kernel_rfl) (by kernel_rfl) xs
theorem N90 (xs : List AV) : CallOK Go.Proofs.Tryz.prog 3 90 xs (L2 (nIndexString 0) xs) := nIndexString_ok (g := 0) (fn := Go.Proofs.Tryz.f90) (by decide) (by kernel_rfl) (by kernel_rfl) (by kernel_rfl) (by kernel_rfl) (by kernel_rfl) (by kernel_rfl) xs
theorem N98 (xs : List AV) : CallOK Go.Proofs.Tryz.prog 3 98 xs (L2 nIndexByte xs) := nIndexByte_ok (fn := Go.Proofs.Tryz.f98) (by kernel_rfl) (by kernel_rfl) (by kernel_rfl) (by kernel_rfl) (by kernel_rfl) xs

/-! ### internal/stringslite.HasPrefix: function 38 -/
noncomputable def C38 (g : FuncId) (xs : List AV) : M AV := fail
noncomputable def E38 : Env := ⟨Go.Proofs.Tryz.prog, 3, C38, fun _ _ => fail, fun _ => [], 38, none⟩
noncomputable def B38 : Code := bodyOf Go.Proofs.Tryz.f38
noncomputable def K38 : KT := dK Go.Proofs.Tryz.prog Go.Proofs.Tryz.f38.results.toList
noncomputable def f38 (x0 x1 : AV) : M AV :=
 bd (lnS x0) fun v1 =>
 bd (lnS x1) fun v2 =>
 bd (bi .geq v1 v2) fun v3 =>
 bd (gd v3 true (ret x0)) fun v4 =>
 bd (gd v3 true (ret x1)) fun v5 =>
 bd (gd v3 true (lnS v5)) fun v6 =>
 bd (gd v3 true (ss v4 none (some v6))) fun v7 =>
 bd (gd v3 true (ret x1)) fun v8 =>
 bd (gd v3 true (bi .eql v7 v8)) fun v9 =>
 bd (pk v3 v9 (.bool false)) fun v10 =>
 ret v10
theorem f38_eq (x0 x1 : AV) : dfn E38 Go.Proofs.Tryz.f38 [x0, x1] = f38 x0 x1 := dfn_eq (c := B38) (nt := 18) (K := K38) (by kernel_rfl) (by kernel_rfl) rfl (by kernel_rfl) (by kernel_rfl)
theorem O38 : EnvOK E38 := ⟨fun g xs => ok_fail, ap_fail⟩
theorem S38 (xs : List AV) : CallOK Go.Proofs.Tryz.prog 3 38 xs (L2 f38 xs) := ok_L2 (fun x0 x1 => ok_fn (E := E38) (fn := Go.Proofs.Tryz.f38) O38 rfl rfl (by kernel_rfl) (by kernel_rfl) (f38_eq x0 x1)) xs

/-! ### strings.HasPrefix: function 14 -/
noncomputable def C14 (g : FuncId) (xs : List AV) : M AV := bif Nat.beq g 38 then L2 f38 xs else fail
noncomputable def E14 : Env := ⟨Go.Proofs.Tryz.prog, 3, C14, fun _ _ => fail, fun _ => [], 14, none⟩
noncomputable def B14 : Code := bodyOf Go.Proofs.Tryz.f14
noncomputable def K14 : KT := dK Go.Proofs.Tryz.prog Go.Proofs.Tryz.f14.results.toList
noncomputable def f14 (x0 x1 : AV) : M AV :=
 bd (f38 x0 x1) fun v1 =>
 ret v1
theorem f14_eq (x0 x1 : AV) : dfn E14 Go.Proofs.Tryz.f14 [x0, x1] = f14 x0 x1 := dfn_eq (c := B14) (nt := 8) (K := K14) (by kernel_rfl) (by kernel_rfl) rfl (by kernel_rfl) (by kernel_rfl)
theorem O14 : EnvOK E14 := ⟨fun g xs => (ok_if (S38 xs) ok_fail), ap_fail⟩
theorem S14 (xs : List AV) : CallOK Go.Proofs.Tryz.prog 3 14 xs (L2 f14 xs) := ok_L2 (fun x0 x1 => ok_fn (E := E14) (fn := Go.Proofs.Tryz.f14) O14 rfl rfl (by kernel_rfl) (by kernel_rfl) (f14_eq x0 x1)) xs

/-! ### internal/stringslite.Cut: function 56 -/
noncomputable def C56 (g : FuncId) (xs : List AV) : M AV := bif Nat.beq g 79 then L2 (nIndex 0) xs else fail
noncomputable def E56 : Env := ⟨Go.Proofs.Tryz.prog, 3, C56, fun _ _ => fail, fun i => bif Nat.beq i 3 then [0, 1, 2, 3, 4, 5, 6, 7, 8, 9, 10, 11] else [], 56, none⟩
noncomputable def B56 : Code := bodyOf Go.Proofs.Tryz.f56
noncomputable def K56 : KT := dK Go.Proofs.Tryz.prog Go.Proofs.Tryz.f56.results.toList
noncomputable def f56 (x0 x1 : AV) : M AV :=
 bd ((nIndex 0) x0 x1) fun v1 =>
 bd (bi .geq v1 (.int .i64 0)) fun v2 =>
 cnd v2 (
 bd (ret x0) fun v3 =>
 bd (ret v1) fun v4 =>
 bd (ss v3 none (some v4)) fun v5 =>
 bd (ret x0) fun v6 =>
 bd (ret v1) fun v7 =>
 bd (ret x1) fun v8 =>
 bd (lnS v8) fun v9 =>
 bd (bi .add v7 v9) fun v10 =>
 bd (ss v6 (some v10) none) fun v11 =>
 bd (ret v5) fun v12 =>
 bd (ret v11) fun v13 =>
 bd (ret (.bool true)) fun v14 =>
 ret (.tuple [v12, v13, v14])) (
 ret (.tuple [x0, (.str []), (.bool false)]))
theorem f56_eq (x0 x1 : AV) : dfn E56 Go.Proofs.Tryz.f56 [x0, x1] = f56 x0 x1 := dfn_eq (c := B56) (nt := 23) (K := K56) (by kernel_rfl) (by kernel_rfl) rfl (by kernel_rfl) (by kernel_rfl)
theorem O56 : EnvOK E56 := ⟨fun g xs => (ok_if (N79 xs) ok_fail), ap_fail⟩
theorem S56 (xs : List AV) : CallOK Go.Proofs.Tryz.prog 3 56 xs (L2 f56 xs) := ok_L2 (fun x0 x1 => ok_fn (E := E56) (fn := Go.Proofs.Tryz.f56) O56 rfl rfl (by kernel_rfl) (by kernel_rfl) (f56_eq x0 x1)) xs

/-! ### strings.Cut: function 26 -/
noncomputable def C26 (g : FuncId) (xs : List AV) : M AV := bif Nat.beq g 56 then L2 f56 xs else fail
noncomputable def E26 : Env := ⟨Go.Proofs.Tryz.prog, 3, C26, fun _ _ => fail, fun _ => [], 26, none⟩
noncomputable def B26 : Code := bodyOf Go.Proofs.Tryz.f26
noncomputable def K26 : KT := dK Go.Proofs.Tryz.prog Go.Proofs.Tryz.f26.results.toList
noncomputable def f26 (x0 x1 : AV) : M AV :=
 bd (f56 x0 x1) fun v1 =>
 bd (ex v1 0) fun v2 =>
 bd (ex v1 1) fun v3 =>
 bd (ex v1 2) fun v4 =>
 ret (.tuple [v2, v3, v4])
theorem f26_eq (x0 x1 : AV) : dfn E26 Go.Proofs.Tryz.f26 [x0, x1] = f26 x0 x1 := dfn_eq (c := B26) (nt := 13) (K := K26) (by kernel_rfl) (by kernel_rfl) rfl (by kernel_rfl) (by kernel_rfl)
theorem O26 : EnvOK E26 := ⟨fun g xs => (ok_if (S56 xs) ok_fail), ap_fail⟩
theorem S26 (xs : List AV) : CallOK Go.Proofs.Tryz.prog 3 26 xs (L2 f26 xs) := ok_L2 (fun x0 x1 => ok_fn (E := E26) (fn := Go.Proofs.Tryz.f26) O26 rfl rfl (by kernel_rfl) (by kernel_rfl) (f26_eq x0 x1)) xs

/-! ### internal/stringslite.IndexByte: function 83 -/
noncomputable def C83 (g : FuncId) (xs : List AV) : M AV := bif Nat.beq g 98 then L2 nIndexByte xs else fail
noncomputable def E83 : Env := ⟨Go.Proofs.Tryz.prog, 3, C83, fun _ _ => fail, fun _ => [], 83, none⟩
noncomputable def B83 : Code := bodyOf Go.Proofs.Tryz.f83
noncomputable def K83 : KT := dK Go.Proofs.Tryz.prog Go.Proofs.Tryz.f83.results.toList
noncomputable def f83 (x0 x1 : AV) : M AV :=
 bd (nIndexByte x0 x1) fun v1 =>
 ret v1
theorem f83_eq (x0 x1 : AV) : dfn E83 Go.Proofs.Tryz.f83 [x0, x1] = f83 x0 x1 := dfn_eq (c := B83) (nt := 8) (K := K83) (by kernel_rfl) (by kernel_rfl) rfl (by kernel_rfl) (by kernel_rfl)
theorem O83 : EnvOK E83 := ⟨fun g xs => (ok_if (N98 xs) ok_fail), ap_fail⟩
theorem S83 (xs : List AV) : CallOK Go.Proofs.Tryz.prog 3 83 xs (L2 f83 xs) := ok_L2 (fun x0 x1 => ok_fn (E := E83) (fn := Go.Proofs.Tryz.f83) O83 rfl rfl (by kernel_rfl) (by kernel_rfl) (f83_eq x0 x1)) xs

/-! ### strings.IndexByte: function 70 -/
noncomputable def C70 (g : FuncId) (xs : List AV) : M AV := bif Nat.beq g 83 then L2 f83 xs else fail
noncomputable def E70 : Env := ⟨Go.Proofs.Tryz.prog, 3, C70, fun _ _ => fail, fun _ => [], 70, none⟩
noncomputable def B70 : Code := bodyOf Go.Proofs.Tryz.f70
noncomputable def K70 : KT := dK Go.Proofs.Tryz.prog Go.Proofs.Tryz.f70.results.toList
noncomputable def f70 (x0 x1 : AV) : M AV :=
 bd (f83 x0 x1) fun v1 =>
 ret v1
theorem f70_eq (x0 x1 : AV) : dfn E70 Go.Proofs.Tryz.f70 [x0, x1] = f70 x0 x1 := dfn_eq (c := B70) (nt := 8) (K := K70) (by kernel_rfl) (by kernel_rfl) rfl (by kernel_rfl) (by kernel_rfl)
theorem O70 : EnvOK E70 := ⟨fun g xs => (ok_if (S83 xs) ok_fail), ap_fail⟩
theorem S70 (xs : List AV) : CallOK Go.Proofs.Tryz.prog 3 70 xs (L2 f70 xs) := ok_L2 (fun x0 x1 => ok_fn (E := E70) (fn := Go.Proofs.Tryz.f70) O70 rfl rfl (by kernel_rfl) (by kernel_rfl) (f70_eq x0 x1)) xs

/-! ### internal/bytealg.Cutover: function 91 -/
noncomputable def C91 (g : FuncId) (xs : List AV) : M AV := fail
noncomputable def E91 : Env := ⟨Go.Proofs.Tryz.prog, 3, C91, fun _ _ => fail, fun _ => [], 91, none⟩
noncomputable def B91 : Code := bodyOf Go.Proofs.Tryz.f91
noncomputable def K91 : KT := dK Go.Proofs.Tryz.prog Go.Proofs.Tryz.f91.results.toList
noncomputable def f91 (x0 : AV) : M AV :=
 bd (bi .add x0 (.int .i64 16)) fun v1 =>
 bd (bi .quo v1 (.int .i64 8)) fun v2 =>
 ret v2
theorem f91_eq (x0 : AV) : dfn E91 Go.Proofs.Tryz.f91 [x0] = f91 x0 := dfn_eq (c := B91) (nt := 6) (K := K91) (by kernel_rfl) (by kernel_rfl) rfl (by kernel_rfl) (by kernel_rfl)
theorem O91 : EnvOK E91 := ⟨fun g xs => ok_fail, ap_fail⟩
theorem S91 (xs : List AV) : CallOK Go.Proofs.Tryz.prog 3 91 xs (L1 f91 xs) := ok_L1 (fun x0 => ok_fn (E := E91) (fn := Go.Proofs.Tryz.f91) O91 rfl rfl (by kernel_rfl) (by kernel_rfl) (f91_eq x0)) xs

/-! ### unicode/utf8.ValidRune: function 101 -/
noncomputable def C101 (g : FuncId) (xs : List AV) : M AV := fail
noncomputable def E101 : Env := ⟨Go.Proofs.Tryz.prog, 3, C101, fun _ _ => fail, fun _ => [], 101, none⟩
noncomputable def B101 : Code := bodyOf Go.Proofs.Tryz.f101
noncomputable def K101 : KT := dK Go.Proofs.Tryz.prog Go.Proofs.Tryz.f101.results.toList
noncomputable def f101 (x0 : AV) : M AV :=
 bd (bi .leq (.int .i32 0) x0) fun v1 =>
 bd (gd v1 true (ret x0)) fun v2 =>
 bd (gd v1 true (bi .lss v2 (.int .i32 55296))) fun v3 =>
 bd (pk v1 v3 (.bool false)) fun v4 =>
 cnd v4 (
 ret (.bool true)) (
 bd (bi .lss (.int .i32 57343) x0) fun v5 =>
 bd (gd v5 true (ret x0)) fun v6 =>
 bd (gd v5 true (bi .leq v6 (.int .i32 1114111))) fun v7 =>
 bd (pk v5 v7 (.bool false)) fun v8 =>
 cnd v8 (
 ret (.bool true)) (
 ret (.bool false)))
theorem f101_eq (x0 : AV) : dfn E101 Go.Proofs.Tryz.f101 [x0] = f101 x0 := dfn_eq (c := B101) (nt := 17) (K := K101) (by kernel_rfl) (by kernel_rfl) rfl (by kernel_rfl) (by kernel_rfl)
theorem O101 : EnvOK E101 := ⟨fun g xs => ok_fail, ap_fail⟩
theorem S101 (xs : List AV) : CallOK Go.Proofs.Tryz.prog 3 101 xs (L1 f101 xs) := ok_L1 (fun x0 => ok_fn (E := E101) (fn := Go.Proofs.Tryz.f101) O101 rfl rfl (by kernel_rfl) (by kernel_rfl) (f101_eq x0)) xs

/-! ### strings.IndexRune: function 93 -/
noncomputable def C93 (g : FuncId) (xs : List AV) : M AV := bif Nat.beq g 70 then L2 f70 xs else bif Nat.beq g 90 then L2 (nIndexString 0) xs else bif Nat.beq g 101 then L1 f101 xs else fail
noncomputable def E93 : Env := ⟨Go.Proofs.Tryz.prog, 3, C93, fun _ _ => fail, fun i => bif Nat.beq i 6 then [0, 1, 2, 3, 4, 5, 6] else bif Nat.beq i 7 then [0, 1, 2, 3, 4, 5, 6, 7, 8] else bif Nat.beq i 14 then [0, 1, 2, 3, 4, 5, 6, 7, 8, 9, 10] else bif Nat.beq i 31 then [0, 1, 2, 3, 4, 5, 6, 7, 8, 9, 10] else [], 93, none⟩
noncomputable def B93 : Code := bodyOf Go.Proofs.Tryz.f93
noncomputable def K93 : KT := dK Go.Proofs.Tryz.prog Go.Proofs.Tryz.f93.results.toList
noncomputable def f93_3 : M AV :=
 ret (.int .i64 (-1))
theorem f93_3_eq (t : Tmps) : dcode E93 187 (c2 (c1 (c2 (c2 (c2 (c1 (c2 B93))))))) t (kB 0 K93) = f93_3 := by kernel_rfl
noncomputable def f93_b5 (L5 : AV → M AV) (x175 : AV) : M AV :=
 bd (nxs x175) fun v1 =>
 bd (ex v1 0) fun v2 =>
 cnd v2 (
 bd (ex v1 1) fun v3 =>
 bd (ex v1 2) fun v4 =>
 bd (bi .eql v4 (.int .i32 65533)) fun v5 =>
 cnd v5 (
 ret v3) (
 L5 x175)) (
 f93_3)
theorem f93_b5_eq (L5 : AV → M AV) (t : Tmps) : dcode E93 187 (c1 (c1 (c2 (c1 (c1 (c2 (c2 (c2 (c1 (c2 B93)))))))))) t (kJ (fun t => L5 (t 175)) (kB 9 (kJ (fun t => f93_3) (kB 0 K93)))) = f93_b5 L5 (t 175) := by kernel_rfl
noncomputable def f93_l5 : Nat → AV → M AV
  | 0, _ => fail
  | n + 1, x175 => f93_b5 (f93_l5 n) x175
theorem f93_l5_eq (t : Tmps) : dcode E93 187 (c1 (c2 (c1 (c1 (c2 (c2 (c2 (c1 (c2 B93))))))))) t (kB 9 (kJ (fun t => f93_3) (kB 0 K93))) = f93_l5 fuel (t 175) :=
  dloop_eq (c := (c1 (c1 (c2 (c1 (c1 (c2 (c2 (c2 (c1 (c2 B93))))))))))) (g := fun n t => f93_l5 n (t 175)) (fun _ => rfl) (fun n t => f93_b5_eq (f93_l5 n) t)
noncomputable def f93_4 (x175 : AV) : M AV :=
 f93_l5 fuel x175
theorem f93_4_eq (t : Tmps) : dcode E93 187 (c2 (c1 (c1 (c2 (c2 (c2 (c1 (c2 B93)))))))) t (kJ (fun t => f93_3) (kB 0 K93)) = f93_4 (t 175) := (f93_l5_eq _)
noncomputable def f93_14 : M AV :=
 ret (.int .i64 (-1))
theorem f93_14_eq (t : Tmps) : dcode E93 187 (c2 (c2 (c2 (c2 (c2 (c2 (c2 (c2 (c1 (c2 (c2 (c2 (c2 (c2 (c2 (c1 (c2 B93))))))))))))))))) t (kB 0 K93) = f93_14 := by kernel_rfl
noncomputable def f93_20 (L18 : AV → AV → AV → AV → AV → AV → M AV) (x0 x7 x8 x9 x14 x15 : AV) : M AV :=
 bd (bi .add x9 (.int .i64 1)) fun v1 =>
 L18 x0 x7 x8 v1 x14 x15
theorem f93_20_eq (L18 : AV → AV → AV → AV → AV → AV → M AV) (t : Tmps) : dcode E93 187 (c2 (c2 (c1 (c1 (c2 (c2 (c2 (c1 (c2 (c1 (c2 (c2 (c2 (c2 (c2 (c2 (c2 (c1 (c2 (c2 (c2 (c2 (c2 (c2 (c1 (c2 B93)))))))))))))))))))))))))) t (kJ (fun t => L18 (t 0) (t 7) (t 8) (t 9) (t 14) (t 15)) (kB 5 (kJ (fun t => f93_14) (kB 0 K93)))) = f93_20 L18 (t 0) (t 7) (t 8) (t 9) (t 14) (t 15) := by kernel_rfl
noncomputable def f93_22 (L18 : AV → AV → AV → AV → AV → AV → M AV) (x8 x9 : AV) : M AV :=
 bd (bi .sub x9 x8) fun v1 =>
 ret v1
theorem f93_22_eq (L18 : AV → AV → AV → AV → AV → AV → M AV) (t : Tmps) : dcode E93 187 (c2 (c1 (c2 (c1 (c1 (c2 (c1 (c1 (c2 (c2 (c2 (c1 (c2 (c1 (c2 (c2 (c2 (c2 (c2 (c2 (c2 (c1 (c2 (c2 (c2 (c2 (c2 (c2 (c1 (c2 B93)))))))))))))))))))))))))))))) t (kB 6 (kJ (fun t => f93_20 L18 (t 0) (t 7) (t 8) (t 9) (t 14) (t 15)) (kJ (fun t => L18 (t 0) (t 7) (t 8) (t 9) (t 14) (t 15)) (kB 5 (kJ (fun t => f93_14) (kB 0 K93)))))) = f93_22 L18 (t 8) (t 9) := by kernel_rfl
noncomputable def f93_b24 (L18 : AV → AV → AV → AV → AV → AV → M AV) (L24 : AV → AV → AV → AV → AV → AV → AV → M AV) (x0 x7 x8 x9 x14 x15 x16 : AV) : M AV :=
 bd (lnS x7) fun v1 =>
 bd (bi .lss x16 v1) fun v2 =>
 cnd v2 (
 bd (ret x0) fun v3 =>
 bd (ret x9) fun v4 =>
 bd (ret x16) fun v5 =>
 bd (bi .sub v4 v5) fun v6 =>
 bd (ixs v3 v6) fun v7 =>
 bd (ret x7) fun v8 =>
 bd (ret x8) fun v9 =>
 bd (ret x16) fun v10 =>
 bd (bi .sub v9 v10) fun v11 =>
 bd (ixs v8 v11) fun v12 =>
 bd (bi .neq v7 v12) fun v13 =>
 cnd v13 (
 f93_20 L18 x0 x7 x8 x9 x14 x15) (
 bd (bi .add x16 (.int .i64 1)) fun v14 =>
 L24 x0 x7 x8 x9 x14 x15 v14)) (
 f93_22 L18 x8 x9)
theorem f93_b24_eq (L18 : AV → AV → AV → AV → AV → AV → M AV) (L24 : AV → AV → AV → AV → AV → AV → AV → M AV) (t : Tmps) : dcode E93 187 (c1 (c1 (c2 (c1 (c1 (c2 (c1 (c1 (c2 (c1 (c1 (c2 (c2 (c2 (c1 (c2 (c1 (c2 (c2 (c2 (c2 (c2 (c2 (c2 (c1 (c2 (c2 (c2 (c2 (c2 (c2 (c1 (c2 B93))))))))))))))))))))))))))))))))) t (kJ (fun t => L24 (t 0) (t 7) (t 8) (t 9) (t 14) (t 15) (t 16)) (kB 7 (kJ (fun t => f93_22 L18 (t 8) (t 9)) (kB 6 (kJ (fun t => f93_20 L18 (t 0) (t 7) (t 8) (t 9) (t 14) (t 15)) (kJ (fun t => L18 (t 0) (t 7) (t 8) (t 9) (t 14) (t 15)) (kB 5 (kJ (fun t => f93_14) (kB 0 K93))))))))) = f93_b24 L18 L24 (t 0) (t 7) (t 8) (t 9) (t 14) (t 15) (t 16) := by kernel_rfl
noncomputable def f93_l24 (L18 : AV → AV → AV → AV → AV → AV → M AV) : Nat → AV → AV → AV → AV → AV → AV → AV → M AV
  | 0, _, _, _, _, _, _, _ => fail
  | n + 1, x0, x7, x8, x9, x14, x15, x16 => f93_b24 L18 (f93_l24 L18 n) x0 x7 x8 x9 x14 x15 x16
theorem f93_l24_eq (L18 : AV → AV → AV → AV → AV → AV → M AV) (t : Tmps) : dcode E93 187 (c1 (c2 (c1 (c1 (c2 (c1 (c1 (c2 (c1 (c1 (c2 (c2 (c2 (c1 (c2 (c1 (c2 (c2 (c2 (c2 (c2 (c2 (c2 (c1 (c2 (c2 (c2 (c2 (c2 (c2 (c1 (c2 B93)))))))))))))))))))))))))))))))) t (kB 7 (kJ (fun t => f93_22 L18 (t 8) (t 9)) (kB 6 (kJ (fun t => f93_20 L18 (t 0) (t 7) (t 8) (t 9) (t 14) (t 15)) (kJ (fun t => L18 (t 0) (t 7) (t 8) (t 9) (t 14) (t 15)) (kB 5 (kJ (fun t => f93_14) (kB 0 K93)))))))) = f93_l24 L18 fuel (t 0) (t 7) (t 8) (t 9) (t 14) (t 15) (t 16) :=
  dloop_eq (c := (c1 (c1 (c2 (c1 (c1 (c2 (c1 (c1 (c2 (c1 (c1 (c2 (c2 (c2 (c1 (c2 (c1 (c2 (c2 (c2 (c2 (c2 (c2 (c2 (c1 (c2 (c2 (c2 (c2 (c2 (c2 (c1 (c2 B93)))))))))))))))))))))))))))))))))) (g := fun n t => f93_l24 L18 n (t 0) (t 7) (t 8) (t 9) (t 14) (t 15) (t 16)) (fun _ => rfl) (fun n t => f93_b24_eq L18 (f93_l24 L18 n) t)
noncomputable def f93_23 (L18 : AV → AV → AV → AV → AV → AV → M AV) (x0 x7 x8 x9 x14 x15 x16 : AV) : M AV :=
 f93_l24 L18 fuel x0 x7 x8 x9 x14 x15 x16
theorem f93_23_eq (L18 : AV → AV → AV → AV → AV → AV → M AV) (t : Tmps) : dcode E93 187 (c2 (c1 (c1 (c2 (c1 (c1 (c2 (c1 (c1 (c2 (c2 (c2 (c1 (c2 (c1 (c2 (c2 (c2 (c2 (c2 (c2 (c2 (c1 (c2 (c2 (c2 (c2 (c2 (c2 (c1 (c2 B93))))))))))))))))))))))))))))))) t (kJ (fun t => f93_22 L18 (t 8) (t 9)) (kB 6 (kJ (fun t => f93_20 L18 (t 0) (t 7) (t 8) (t 9) (t 14) (t 15)) (kJ (fun t => L18 (t 0) (t 7) (t 8) (t 9) (t 14) (t 15)) (kB 5 (kJ (fun t => f93_14) (kB 0 K93))))))) = f93_23 L18 (t 0) (t 7) (t 8) (t 9) (t 14) (t 15) (t 16) := (f93_l24_eq L18 _)
noncomputable def f93_21 (L18 : AV → AV → AV → AV → AV → AV → M AV) (x0 x7 x8 x9 x14 x15 x139 : AV) : M AV :=
 cnd x139 (
 f93_23 L18 x0 x7 x8 x9 x14 x15 (.int .i64 2)) (
 f93_20 L18 x0 x7 x8 x9 x14 x15)
theorem f93_21_eq (L18 : AV → AV → AV → AV → AV → AV → M AV) (t : Tmps) : dcode E93 187 (c2 (c1 (c1 (c2 (c1 (c1 (c2 (c2 (c2 (c1 (c2 (c1 (c2 (c2 (c2 (c2 (c2 (c2 (c2 (c1 (c2 (c2 (c2 (c2 (c2 (c2 (c1 (c2 B93)))))))))))))))))))))))))))) t (kB 6 (kJ (fun t => f93_20 L18 (t 0) (t 7) (t 8) (t 9) (t 14) (t 15)) (kJ (fun t => L18 (t 0) (t 7) (t 8) (t 9) (t 14) (t 15)) (kB 5 (kJ (fun t => f93_14) (kB 0 K93)))))) = f93_21 L18 (t 0) (t 7) (t 8) (t 9) (t 14) (t 15) (t 139) := (cond_eq (a := c1 (c2 (c1 (c1 (c2 (c1 (c1 (c2 (c2 (c2 (c1 (c2 (c1 (c2 (c2 (c2 (c2 (c2 (c2 (c2 (c1 (c2 (c2 (c2 (c2 (c2 (c2 (c1 (c2 B93))))))))))))))))))))))))))))) (b := c2 (c2 (c1 (c1 (c2 (c1 (c1 (c2 (c2 (c2 (c1 (c2 (c1 (c2 (c2 (c2 (c2 (c2 (c2 (c2 (c1 (c2 (c2 (c2 (c2 (c2 (c2 (c1 (c2 B93))))))))))))))))))))))))))))) (seq_eq (a := (c1 (c1 (c2 (c1 (c1 (c2 (c1 (c1 (c2 (c2 (c2 (c1 (c2 (c1 (c2 (c2 (c2 (c2 (c2 (c2 (c2 (c1 (c2 (c2 (c2 (c2 (c2 (c2 (c1 (c2 B93))))))))))))))))))))))))))))))) (b := (c2 (c1 (c2 (c1 (c1 (c2 (c1 (c1 (c2 (c2 (c2 (c1 (c2 (c1 (c2 (c2 (c2 (c2 (c2 (c2 (c2 (c1 (c2 (c2 (c2 (c2 (c2 (c2 (c1 (c2 B93))))))))))))))))))))))))))))))) (fun t => f93_22_eq L18 t) (seq_eq (a := (c1 (c1 (c1 (c2 (c1 (c1 (c2 (c1 (c1 (c2 (c2 (c2 (c1 (c2 (c1 (c2 (c2 (c2 (c2 (c2 (c2 (c2 (c1 (c2 (c2 (c2 (c2 (c2 (c2 (c1 (c2 B93)))))))))))))))))))))))))))))))) (b := (c2 (c1 (c1 (c2 (c1 (c1 (c2 (c1 (c1 (c2 (c2 (c2 (c1 (c2 (c1 (c2 (c2 (c2 (c2 (c2 (c2 (c2 (c1 (c2 (c2 (c2 (c2 (c2 (c2 (c1 (c2 B93)))))))))))))))))))))))))))))))) (fun t => f93_23_eq L18 t) (by kernel_rfl))) (by kernel_rfl))
noncomputable def f93_19 (L18 : AV → AV → AV → AV → AV → AV → M AV) (x0 x7 x8 x9 x14 x15 : AV) : M AV :=
 bd (ixs x0 x9) fun v1 =>
 bd (bi .eql v1 x14) fun v2 =>
 bd (gd v2 true (ret x0)) fun v3 =>
 bd (gd v2 true (ret x9)) fun v4 =>
 bd (gd v2 true (bi .sub v4 (.int .i64 1))) fun v5 =>
 bd (gd v2 true (ixs v3 v5)) fun v6 =>
 bd (gd v2 true (ret x15)) fun v7 =>
 bd (gd v2 true (bi .eql v6 v7)) fun v8 =>
 bd (pk v2 v8 (.bool false)) fun v9 =>
 f93_21 L18 x0 x7 x8 x9 x14 x15 v9
theorem f93_19_eq (L18 : AV → AV → AV → AV → AV → AV → M AV) (t : Tmps) : dcode E93 187 (c2 (c1 (c1 (c2 (c2 (c2 (c1 (c2 (c1 (c2 (c2 (c2 (c2 (c2 (c2 (c2 (c1 (c2 (c2 (c2 (c2 (c2 (c2 (c1 (c2 B93))))))))))))))))))))))))) t (kJ (fun t => L18 (t 0) (t 7) (t 8) (t 9) (t 14) (t 15)) (kB 5 (kJ (fun t => f93_14) (kB 0 K93)))) = f93_19 L18 (t 0) (t 7) (t 8) (t 9) (t 14) (t 15) := (seq_eq (a := (c1 (c2 (c1 (c1 (c2 (c2 (c2 (c1 (c2 (c1 (c2 (c2 (c2 (c2 (c2 (c2 (c2 (c1 (c2 (c2 (c2 (c2 (c2 (c2 (c1 (c2 B93))))))))))))))))))))))))))) (b := (c2 (c2 (c1 (c1 (c2 (c2 (c2 (c1 (c2 (c1 (c2 (c2 (c2 (c2 (c2 (c2 (c2 (c1 (c2 (c2 (c2 (c2 (c2 (c2 (c1 (c2 B93))))))))))))))))))))))))))) (fun t => f93_20_eq L18 t) (seq_eq (a := (c1 (c1 (c1 (c2 (c1 (c1 (c2 (c2 (c2 (c1 (c2 (c1 (c2 (c2 (c2 (c2 (c2 (c2 (c2 (c1 (c2 (c2 (c2 (c2 (c2 (c2 (c1 (c2 B93))))))))))))))))))))))))))))) (b := (c2 (c1 (c1 (c2 (c1 (c1 (c2 (c2 (c2 (c1 (c2 (c1 (c2 (c2 (c2 (c2 (c2 (c2 (c2 (c1 (c2 (c2 (c2 (c2 (c2 (c2 (c1 (c2 B93))))))))))))))))))))))))))))) (fun t => f93_21_eq L18 t) (by kernel_rfl)))
noncomputable def f93_b18 (L18 : AV → AV → AV → AV → AV → AV → M AV) (x0 x7 x8 x9 x14 x15 : AV) : M AV :=
 bd (lnS x0) fun v1 =>
 bd (bi .lss x9 v1) fun v2 =>
 cnd v2 (
 f93_19 L18 x0 x7 x8 x9 x14 x15) (
 f93_14)
theorem f93_b18_eq (L18 : AV → AV → AV → AV → AV → AV → M AV) (t : Tmps) : dcode E93 187 (c1 (c1 (c2 (c2 (c2 (c1 (c2 (c1 (c2 (c2 (c2 (c2 (c2 (c2 (c2 (c1 (c2 (c2 (c2 (c2 (c2 (c2 (c1 (c2 B93)))))))))))))))))))))))) t (kJ (fun t => L18 (t 0) (t 7) (t 8) (t 9) (t 14) (t 15)) (kB 5 (kJ (fun t => f93_14) (kB 0 K93)))) = f93_b18 L18 (t 0) (t 7) (t 8) (t 9) (t 14) (t 15) := (seq_eq (a := (c1 (c1 (c1 (c2 (c2 (c2 (c1 (c2 (c1 (c2 (c2 (c2 (c2 (c2 (c2 (c2 (c1 (c2 (c2 (c2 (c2 (c2 (c2 (c1 (c2 B93)))))))))))))))))))))))))) (b := (c2 (c1 (c1 (c2 (c2 (c2 (c1 (c2 (c1 (c2 (c2 (c2 (c2 (c2 (c2 (c2 (c1 (c2 (c2 (c2 (c2 (c2 (c2 (c1 (c2 B93)))))))))))))))))))))))))) (fun t => f93_19_eq L18 t) (by kernel_rfl))
noncomputable def f93_l18 : Nat → AV → AV → AV → AV → AV → AV → M AV
  | 0, _, _, _, _, _, _ => fail
  | n + 1, x0, x7, x8, x9, x14, x15 => f93_b18 (f93_l18 n) x0 x7 x8 x9 x14 x15
theorem f93_l18_eq (t : Tmps) : dcode E93 187 (c1 (c2 (c2 (c2 (c1 (c2 (c1 (c2 (c2 (c2 (c2 (c2 (c2 (c2 (c1 (c2 (c2 (c2 (c2 (c2 (c2 (c1 (c2 B93))))))))))))))))))))))) t (kB 5 (kJ (fun t => f93_14) (kB 0 K93))) = f93_l18 fuel (t 0) (t 7) (t 8) (t 9) (t 14) (t 15) :=
  dloop_eq (c := (c1 (c1 (c2 (c2 (c2 (c1 (c2 (c1 (c2 (c2 (c2 (c2 (c2 (c2 (c2 (c1 (c2 (c2 (c2 (c2 (c2 (c2 (c1 (c2 B93))))))))))))))))))))))))) (g := fun n t => f93_l18 n (t 0) (t 7) (t 8) (t 9) (t 14) (t 15)) (fun _ => rfl) (fun n t => f93_b18_eq (f93_l18 n) t)
noncomputable def f93_17 (x0 x7 x8 x9 x14 x15 : AV) : M AV :=
 f93_l18 fuel x0 x7 x8 x9 x14 x15
theorem f93_17_eq (t : Tmps) : dcode E93 187 (c2 (c2 (c2 (c1 (c2 (c1 (c2 (c2 (c2 (c2 (c2 (c2 (c2 (c1 (c2 (c2 (c2 (c2 (c2 (c2 (c1 (c2 B93)))))))))))))))))))))) t (kJ (fun t => f93_14) (kB 0 K93)) = f93_17 (t 0) (t 7) (t 8) (t 9) (t 14) (t 15) := (f93_l18_eq _)
noncomputable def f93_16 (x0 x7 x8 x9 x14 x15 : AV) : M AV :=
 f93_17 x0 x7 x8 x9 x14 x15
theorem f93_16_eq (t : Tmps) : dcode E93 187 (c2 (c2 (c1 (c2 (c1 (c2 (c2 (c2 (c2 (c2 (c2 (c2 (c1 (c2 (c2 (c2 (c2 (c2 (c2 (c1 (c2 B93))))))))))))))))))))) t (kJ (fun t => f93_14) (kB 0 K93)) = f93_16 (t 0) (t 7) (t 8) (t 9) (t 14) (t 15) := (seq_eq (a := (c1 (c2 (c2 (c1 (c2 (c1 (c2 (c2 (c2 (c2 (c2 (c2 (c2 (c1 (c2 (c2 (c2 (c2 (c2 (c2 (c1 (c2 B93))))))))))))))))))))))) (b := (c2 (c2 (c2 (c1 (c2 (c1 (c2 (c2 (c2 (c2 (c2 (c2 (c2 (c1 (c2 (c2 (c2 (c2 (c2 (c2 (c1 (c2 B93))))))))))))))))))))))) (fun t => f93_17_eq t) (by kernel_rfl))
noncomputable def f93_15 (x0 x7 x8 x9 x14 : AV) : M AV :=
 bd (bi .sub x8 (.int .i64 1)) fun v1 =>
 bd (ixs x7 v1) fun v2 =>
 f93_16 x0 x7 x8 x9 x14 v2
theorem f93_15_eq (t : Tmps) : dcode E93 187 (c2 (c1 (c2 (c1 (c2 (c2 (c2 (c2 (c2 (c2 (c2 (c1 (c2 (c2 (c2 (c2 (c2 (c2 (c1 (c2 B93)))))))))))))))))))) t (kJ (fun t => f93_14) (kB 0 K93)) = f93_15 (t 0) (t 7) (t 8) (t 9) (t 14) := (seq_eq (a := (c1 (c2 (c1 (c2 (c1 (c2 (c2 (c2 (c2 (c2 (c2 (c2 (c1 (c2 (c2 (c2 (c2 (c2 (c2 (c1 (c2 B93)))))))))))))))))))))) (b := (c2 (c2 (c1 (c2 (c1 (c2 (c2 (c2 (c2 (c2 (c2 (c2 (c1 (c2 (c2 (c2 (c2 (c2 (c2 (c1 (c2 B93)))))))))))))))))))))) (fun t => f93_16_eq t) (by kernel_rfl))
noncomputable def f93_13 (x0 x1 x7 x8 x9 : AV) : M AV :=
 cnd (.bool true) (
 bd (bi .sub x9 x8) fun v1 =>
 bd (ss x0 (some v1) none) fun v2 =>
 bd (i2s x1) fun v3 =>
 bd ((nIndexString 0) v2 v3) fun v4 =>
 bd (bi .geq v4 (.int .i64 0)) fun v5 =>
 cnd v5 (
 bd (bi .add x9 v4) fun v6 =>
 bd (bi .sub v6 x8) fun v7 =>
 ret v7) (
 f93_14)) (
 bd (ixs x7 x8) fun v8 =>
 f93_15 x0 x7 x8 x9 v8)
theorem f93_13_eq (t : Tmps) : dcode E93 187 (c2 (c2 (c2 (c2 (c2 (c2 (c2 (c1 (c2 (c2 (c2 (c2 (c2 (c2 (c1 (c2 B93)))))))))))))))) t (kB 0 K93) = f93_13 (t 0) (t 1) (t 7) (t 8) (t 9) := (seq_eq (a := (c1 (c2 (c2 (c2 (c2 (c2 (c2 (c2 (c1 (c2 (c2 (c2 (c2 (c2 (c2 (c1 (c2 B93)))))))))))))))))) (b := (c2 (c2 (c2 (c2 (c2 (c2 (c2 (c2 (c1 (c2 (c2 (c2 (c2 (c2 (c2 (c1 (c2 B93)))))))))))))))))) (fun t => f93_14_eq t) (cond_eq (a := c1 (c1 (c2 (c2 (c2 (c2 (c2 (c2 (c2 (c1 (c2 (c2 (c2 (c2 (c2 (c2 (c1 (c2 B93)))))))))))))))))) (b := c2 (c1 (c2 (c2 (c2 (c2 (c2 (c2 (c2 (c1 (c2 (c2 (c2 (c2 (c2 (c2 (c1 (c2 B93)))))))))))))))))) (by kernel_rfl) (seq_eq (a := (c1 (c1 (c2 (c1 (c2 (c2 (c2 (c2 (c2 (c2 (c2 (c1 (c2 (c2 (c2 (c2 (c2 (c2 (c1 (c2 B93))))))))))))))))))))) (b := (c2 (c1 (c2 (c1 (c2 (c2 (c2 (c2 (c2 (c2 (c2 (c1 (c2 (c2 (c2 (c2 (c2 (c2 (c1 (c2 B93))))))))))))))))))))) (fun t => f93_15_eq t) (by kernel_rfl))))
noncomputable def f93_12 (x0 x1 x7 x8 x9 : AV) : M AV :=
 f93_13 x0 x1 x7 x8 x9
theorem f93_12_eq (t : Tmps) : dcode E93 187 (c2 (c2 (c2 (c2 (c2 (c2 (c1 (c2 (c2 (c2 (c2 (c2 (c2 (c1 (c2 B93))))))))))))))) t (kB 0 K93) = f93_12 (t 0) (t 1) (t 7) (t 8) (t 9) := (seq_eq (a := (c1 (c2 (c2 (c2 (c2 (c2 (c2 (c1 (c2 (c2 (c2 (c2 (c2 (c2 (c1 (c2 B93))))))))))))))))) (b := (c2 (c2 (c2 (c2 (c2 (c2 (c2 (c1 (c2 (c2 (c2 (c2 (c2 (c2 (c1 (c2 B93))))))))))))))))) (fun t => f93_13_eq t) (by kernel_rfl))
noncomputable def f93_11 : M AV :=
 ret (.int .i64 (-1))
theorem f93_11_eq (t : Tmps) : dcode E93 187 (c2 (c2 (c2 (c2 (c2 (c1 (c2 (c2 (c2 (c2 (c2 (c2 (c1 (c2 B93)))))))))))))) t (kB 0 K93) = f93_11 := (seq_eq (a := (c1 (c2 (c2 (c2 (c2 (c2 (c1 (c2 (c2 (c2 (c2 (c2 (c2 (c1 (c2 B93)))))))))))))))) (b := (c2 (c2 (c2 (c2 (c2 (c2 (c1 (c2 (c2 (c2 (c2 (c2 (c2 (c1 (c2 B93)))))))))))))))) (fun t => f93_12_eq t) (by kernel_rfl))
noncomputable def f93_28 (L25 : AV → AV → AV → AV → M AV) (x8 x9 : AV) : M AV :=
 bd (bi .sub x9 x8) fun v1 =>
 ret v1
theorem f93_28_eq (L25 : AV → AV → AV → AV → M AV) (t : Tmps) : dcode E93 187 (c2 (c2 (c1 (c1 (c2 (c1 (c1 (c1 (c2 (c2 (c2 (c2 (c1 (c2 (c2 (c2 (c2 (c2 (c2 (c1 (c2 B93))))))))))))))))))))) t (kB 2 (kJ (fun t => L25 (t 0) (t 7) (t 8) (t 9)) (kB 1 (kJ (fun t => f93_11) (kB 0 K93))))) = f93_28 L25 (t 8) (t 9) := by kernel_rfl
noncomputable def f93_b30 (L25 : AV → AV → AV → AV → M AV) (L30 : AV → AV → AV → AV → AV → M AV) (x0 x7 x8 x9 x12 : AV) : M AV :=
 bd (lnS x7) fun v1 =>
 bd (bi .lss x12 v1) fun v2 =>
 cnd v2 (
 bd (ret x0) fun v3 =>
 bd (ret x9) fun v4 =>
 bd (ret x12) fun v5 =>
 bd (bi .sub v4 v5) fun v6 =>
 bd (ixs v3 v6) fun v7 =>
 bd (ret x7) fun v8 =>
 bd (ret x8) fun v9 =>
 bd (ret x12) fun v10 =>
 bd (bi .sub v9 v10) fun v11 =>
 bd (ixs v8 v11) fun v12 =>
 bd (bi .neq v7 v12) fun v13 =>
 cnd v13 (
 fail) (
 bd (bi .add x12 (.int .i64 1)) fun v14 =>
 L30 x0 x7 x8 x9 v14)) (
 f93_28 L25 x8 x9)
theorem f93_b30_eq (L25 : AV → AV → AV → AV → M AV) (L30 : AV → AV → AV → AV → AV → M AV) (t : Tmps) : dcode E93 187 (c1 (c1 (c2 (c1 (c2 (c1 (c1 (c2 (c1 (c1 (c1 (c2 (c2 (c2 (c2 (c1 (c2 (c2 (c2 (c2 (c2 (c2 (c1 (c2 B93)))))))))))))))))))))))) t (kJ (fun t => L30 (t 0) (t 7) (t 8) (t 9) (t 12)) (kB 3 (kJ (fun t => f93_28 L25 (t 8) (t 9)) (kB 2 (kJ (fun t => L25 (t 0) (t 7) (t 8) (t 9)) (kB 1 (kJ (fun t => f93_11) (kB 0 K93)))))))) = f93_b30 L25 L30 (t 0) (t 7) (t 8) (t 9) (t 12) := by kernel_rfl
noncomputable def f93_l30 (L25 : AV → AV → AV → AV → M AV) : Nat → AV → AV → AV → AV → AV → M AV
  | 0, _, _, _, _, _ => fail
  | n + 1, x0, x7, x8, x9, x12 => f93_b30 L25 (f93_l30 L25 n) x0 x7 x8 x9 x12
theorem f93_l30_eq (L25 : AV → AV → AV → AV → M AV) (t : Tmps) : dcode E93 187 (c1 (c2 (c1 (c2 (c1 (c1 (c2 (c1 (c1 (c1 (c2 (c2 (c2 (c2 (c1 (c2 (c2 (c2 (c2 (c2 (c2 (c1 (c2 B93))))))))))))))))))))))) t (kB 3 (kJ (fun t => f93_28 L25 (t 8) (t 9)) (kB 2 (kJ (fun t => L25 (t 0) (t 7) (t 8) (t 9)) (kB 1 (kJ (fun t => f93_11) (kB 0 K93))))))) = f93_l30 L25 fuel (t 0) (t 7) (t 8) (t 9) (t 12) :=
  dloop_eq (c := (c1 (c1 (c2 (c1 (c2 (c1 (c1 (c2 (c1 (c1 (c1 (c2 (c2 (c2 (c2 (c1 (c2 (c2 (c2 (c2 (c2 (c2 (c1 (c2 B93))))))))))))))))))))))))) (g := fun n t => f93_l30 L25 n (t 0) (t 7) (t 8) (t 9) (t 12)) (fun _ => rfl) (fun n t => f93_b30_eq L25 (f93_l30 L25 n) t)
noncomputable def f93_29 (L25 : AV → AV → AV → AV → M AV) (x0 x7 x8 x9 x12 : AV) : M AV :=
 f93_l30 L25 fuel x0 x7 x8 x9 x12
theorem f93_29_eq (L25 : AV → AV → AV → AV → M AV) (t : Tmps) : dcode E93 187 (c2 (c1 (c2 (c1 (c1 (c2 (c1 (c1 (c1 (c2 (c2 (c2 (c2 (c1 (c2 (c2 (c2 (c2 (c2 (c2 (c1 (c2 B93)))))))))))))))))))))) t (kJ (fun t => f93_28 L25 (t 8) (t 9)) (kB 2 (kJ (fun t => L25 (t 0) (t 7) (t 8) (t 9)) (kB 1 (kJ (fun t => f93_11) (kB 0 K93)))))) = f93_29 L25 (t 0) (t 7) (t 8) (t 9) (t 12) := (f93_l30_eq L25 _)
noncomputable def f93_27 (L25 : AV → AV → AV → AV → M AV) (x0 x7 x8 x9 : AV) : M AV :=
 f93_29 L25 x0 x7 x8 x9 (.int .i64 1)
theorem f93_27_eq (L25 : AV → AV → AV → AV → M AV) (t : Tmps) : dcode E93 187 (c2 (c1 (c1 (c2 (c1 (c1 (c1 (c2 (c2 (c2 (c2 (c1 (c2 (c2 (c2 (c2 (c2 (c2 (c1 (c2 B93)))))))))))))))))))) t (kB 2 (kJ (fun t => L25 (t 0) (t 7) (t 8) (t 9)) (kB 1 (kJ (fun t => f93_11) (kB 0 K93))))) = f93_27 L25 (t 0) (t 7) (t 8) (t 9) := (seq_eq (a := (c1 (c2 (c1 (c1 (c2 (c1 (c1 (c1 (c2 (c2 (c2 (c2 (c1 (c2 (c2 (c2 (c2 (c2 (c2 (c1 (c2 B93)))))))))))))))))))))) (b := (c2 (c2 (c1 (c1 (c2 (c1 (c1 (c1 (c2 (c2 (c2 (c2 (c1 (c2 (c2 (c2 (c2 (c2 (c2 (c1 (c2 B93)))))))))))))))))))))) (fun t => f93_28_eq L25 t) (seq_eq (a := (c1 (c1 (c2 (c1 (c1 (c2 (c1 (c1 (c1 (c2 (c2 (c2 (c2 (c1 (c2 (c2 (c2 (c2 (c2 (c2 (c1 (c2 B93))))))))))))))))))))))) (b := (c2 (c1 (c2 (c1 (c1 (c2 (c1 (c1 (c1 (c2 (c2 (c2 (c2 (c1 (c2 (c2 (c2 (c2 (c2 (c2 (c1 (c2 B93))))))))))))))))))))))) (fun t => f93_29_eq L25 t) (by kernel_rfl)))
noncomputable def f93_26 (L25 : AV → AV → AV → AV → M AV) (x0 x7 x8 x9 : AV) : M AV :=
 bd (ret x0) fun v1 =>
 bd (ret x9) fun v2 =>
 bd (ixs v1 v2) fun v3 =>
 bd (ret x7) fun v4 =>
 bd (ret x8) fun v5 =>
 bd (ixs v4 v5) fun v6 =>
 bd (bi .neq v3 v6) fun v7 =>
 cnd v7 (
 bd (ret x0) fun v8 =>
 bd (ret x9) fun v9 =>
 bd (bi .add v9 (.int .i64 1)) fun v10 =>
 bd (ss v8 (some v10) none) fun v11 =>
 bd (ret x7) fun v12 =>
 bd (ret x8) fun v13 =>
 bd (ixs v12 v13) fun v14 =>
 bd (f70 v11 v14) fun v15 =>
 bd (ret v15) fun v16 =>
 bd (bi .lss v16 (.int .i64 0)) fun v17 =>
 cnd v17 (
 ret (.int .i64 (-1))) (
 bd (bi .add v16 (.int .i64 1)) fun v18 =>
 bd (bi .add x9 v18) fun v19 =>
 f93_27 L25 x0 x7 x8 v19)) (
 f93_27 L25 x0 x7 x8 x9)
theorem f93_26_eq (L25 : AV → AV → AV → AV → M AV) (t : Tmps) : dcode E93 187 (c2 (c1 (c1 (c1 (c2 (c2 (c2 (c2 (c1 (c2 (c2 (c2 (c2 (c2 (c2 (c1 (c2 B93))))))))))))))))) t (kJ (fun t => L25 (t 0) (t 7) (t 8) (t 9)) (kB 1 (kJ (fun t => f93_11) (kB 0 K93)))) = f93_26 L25 (t 0) (t 7) (t 8) (t 9) := (seq_eq (a := (c1 (c1 (c1 (c2 (c1 (c1 (c1 (c2 (c2 (c2 (c2 (c1 (c2 (c2 (c2 (c2 (c2 (c2 (c1 (c2 B93))))))))))))))))))))) (b := (c2 (c1 (c1 (c2 (c1 (c1 (c1 (c2 (c2 (c2 (c2 (c1 (c2 (c2 (c2 (c2 (c2 (c2 (c1 (c2 B93))))))))))))))))))))) (fun t => f93_27_eq L25 t) (by kernel_rfl))
noncomputable def f93_b25 (L25 : AV → AV → AV → AV → M AV) (x0 x7 x8 x9 : AV) : M AV :=
 bd (lnS x0) fun v1 =>
 bd (bi .lss x9 v1) fun v2 =>
 cnd v2 (
 f93_26 L25 x0 x7 x8 x9) (
 f93_11)
theorem f93_b25_eq (L25 : AV → AV → AV → AV → M AV) (t : Tmps) : dcode E93 187 (c1 (c1 (c1 (c2 (c2 (c2 (c2 (c1 (c2 (c2 (c2 (c2 (c2 (c2 (c1 (c2 B93)))))))))))))))) t (kJ (fun t => L25 (t 0) (t 7) (t 8) (t 9)) (kB 1 (kJ (fun t => f93_11) (kB 0 K93)))) = f93_b25 L25 (t 0) (t 7) (t 8) (t 9) := (seq_eq (a := (c1 (c1 (c1 (c1 (c2 (c2 (c2 (c2 (c1 (c2 (c2 (c2 (c2 (c2 (c2 (c1 (c2 B93)))))))))))))))))) (b := (c2 (c1 (c1 (c1 (c2 (c2 (c2 (c2 (c1 (c2 (c2 (c2 (c2 (c2 (c2 (c1 (c2 B93)))))))))))))))))) (fun t => f93_26_eq L25 t) (by kernel_rfl))
noncomputable def f93_l25 : Nat → AV → AV → AV → AV → M AV
  | 0, _, _, _, _ => fail
  | n + 1, x0, x7, x8, x9 => f93_b25 (f93_l25 n) x0 x7 x8 x9
theorem f93_l25_eq (t : Tmps) : dcode E93 187 (c1 (c1 (c2 (c2 (c2 (c2 (c1 (c2 (c2 (c2 (c2 (c2 (c2 (c1 (c2 B93))))))))))))))) t (kB 1 (kJ (fun t => f93_11) (kB 0 K93))) = f93_l25 fuel (t 0) (t 7) (t 8) (t 9) :=
  dloop_eq (c := (c1 (c1 (c1 (c2 (c2 (c2 (c2 (c1 (c2 (c2 (c2 (c2 (c2 (c2 (c1 (c2 B93))))))))))))))))) (g := fun n t => f93_l25 n (t 0) (t 7) (t 8) (t 9)) (fun _ => rfl) (fun n t => f93_b25_eq (f93_l25 n) t)
noncomputable def f93_10 (x0 x7 x8 x9 : AV) : M AV :=
 f93_l25 fuel x0 x7 x8 x9
theorem f93_10_eq (t : Tmps) : dcode E93 187 (c2 (c2 (c2 (c2 (c1 (c2 (c2 (c2 (c2 (c2 (c2 (c1 (c2 B93))))))))))))) t (kB 0 K93) = f93_10 (t 0) (t 7) (t 8) (t 9) := (seq_eq (a := (c1 (c2 (c2 (c2 (c2 (c1 (c2 (c2 (c2 (c2 (c2 (c2 (c1 (c2 B93))))))))))))))) (b := (c2 (c2 (c2 (c2 (c2 (c1 (c2 (c2 (c2 (c2 (c2 (c2 (c1 (c2 B93))))))))))))))) (fun t => f93_11_eq t) (f93_l25_eq _))
noncomputable def f93_9 (x0 x7 x8 x9 : AV) : M AV :=
 f93_10 x0 x7 x8 x9
theorem f93_9_eq (t : Tmps) : dcode E93 187 (c2 (c2 (c2 (c1 (c2 (c2 (c2 (c2 (c2 (c2 (c1 (c2 B93)))))))))))) t (kB 0 K93) = f93_9 (t 0) (t 7) (t 8) (t 9) := (seq_eq (a := (c1 (c2 (c2 (c2 (c1 (c2 (c2 (c2 (c2 (c2 (c2 (c1 (c2 B93)))))))))))))) (b := (c2 (c2 (c2 (c2 (c1 (c2 (c2 (c2 (c2 (c2 (c2 (c1 (c2 B93)))))))))))))) (fun t => f93_10_eq t) (by kernel_rfl))
noncomputable def f93_8 (x0 x7 x8 : AV) : M AV :=
 f93_9 x0 x7 x8 x8
theorem f93_8_eq (t : Tmps) : dcode E93 187 (c2 (c2 (c1 (c2 (c2 (c2 (c2 (c2 (c2 (c1 (c2 B93))))))))))) t (kB 0 K93) = f93_8 (t 0) (t 7) (t 8) := (seq_eq (a := (c1 (c2 (c2 (c1 (c2 (c2 (c2 (c2 (c2 (c2 (c1 (c2 B93))))))))))))) (b := (c2 (c2 (c2 (c1 (c2 (c2 (c2 (c2 (c2 (c2 (c1 (c2 B93))))))))))))) (fun t => f93_9_eq t) (by kernel_rfl))
noncomputable def f93_7 (x0 x7 : AV) : M AV :=
 bd (lnS x7) fun v1 =>
 bd (bi .sub v1 (.int .i64 1)) fun v2 =>
 f93_8 x0 x7 v2
theorem f93_7_eq (t : Tmps) : dcode E93 187 (c2 (c1 (c2 (c2 (c2 (c2 (c2 (c2 (c1 (c2 B93)))))))))) t (kB 0 K93) = f93_7 (t 0) (t 7) := (seq_eq (a := (c1 (c2 (c1 (c2 (c2 (c2 (c2 (c2 (c2 (c1 (c2 B93)))))))))))) (b := (c2 (c2 (c1 (c2 (c2 (c2 (c2 (c2 (c2 (c1 (c2 B93)))))))))))) (fun t => f93_8_eq t) (by kernel_rfl))
noncomputable def f93_6 (x0 x1 x183 : AV) : M AV :=
 cnd x183 (
 ret (.int .i64 (-1))) (
 bd (i2s x1) fun v1 =>
 f93_7 x0 v1)
theorem f93_6_eq (t : Tmps) : dcode E93 187 (c2 (c2 (c2 (c2 (c2 (c1 (c2 B93))))))) t (kB 0 K93) = f93_6 (t 0) (t 1) (t 183) := (cond_eq (a := c1 (c2 (c2 (c2 (c2 (c2 (c1 (c2 B93)))))))) (b := c2 (c2 (c2 (c2 (c2 (c2 (c1 (c2 B93)))))))) (by kernel_rfl) (seq_eq (a := (c1 (c1 (c2 (c2 (c2 (c2 (c2 (c2 (c1 (c2 B93))))))))))) (b := (c2 (c1 (c2 (c2 (c2 (c2 (c2 (c2 (c1 (c2 B93))))))))))) (fun t => f93_7_eq t) (by kernel_rfl)))
noncomputable def f93_2 (x0 x1 x171 : AV) : M AV :=
 cnd x171 (
 bd (rgs x0) fun v1 =>
 f93_4 v1) (
 bd (f101 x1) fun v2 =>
 bd (un .not v2) fun v3 =>
 f93_6 x0 x1 v3)
theorem f93_2_eq (t : Tmps) : dcode E93 187 (c2 (c2 (c2 (c1 (c2 B93))))) t (kB 0 K93) = f93_2 (t 0) (t 1) (t 171) := (cond_eq (a := c1 (c2 (c2 (c2 (c1 (c2 B93)))))) (b := c2 (c2 (c2 (c2 (c1 (c2 B93)))))) (seq_eq (a := (c1 (c1 (c2 (c2 (c2 (c1 (c2 B93)))))))) (b := (c2 (c1 (c2 (c2 (c2 (c1 (c2 B93)))))))) (fun t => f93_3_eq t) (seq_eq (a := (c1 (c1 (c1 (c2 (c2 (c2 (c1 (c2 B93))))))))) (b := (c2 (c1 (c1 (c2 (c2 (c2 (c1 (c2 B93))))))))) (fun t => f93_4_eq t) (by kernel_rfl))) (seq_eq (a := (c1 (c2 (c2 (c2 (c2 (c1 (c2 B93)))))))) (b := (c2 (c2 (c2 (c2 (c2 (c1 (c2 B93)))))))) (fun t => f93_6_eq t) (by kernel_rfl)))
noncomputable def f93_1 (x0 x1 x160 : AV) : M AV :=
 cnd x160 (
 bd (ci .u8 x1) fun v1 =>
 bd (f70 x0 v1) fun v2 =>
 ret v2) (
 bd (bi .eql x1 (.int .i32 65533)) fun v3 =>
 f93_2 x0 x1 v3)
theorem f93_1_eq (t : Tmps) : dcode E93 187 (c2 (c1 (c2 B93))) t (kB 0 K93) = f93_1 (t 0) (t 1) (t 160) := (cond_eq (a := c1 (c2 (c1 (c2 B93)))) (b := c2 (c2 (c1 (c2 B93)))) (by kernel_rfl) (seq_eq (a := (c1 (c2 (c2 (c1 (c2 B93)))))) (b := (c2 (c2 (c2 (c1 (c2 B93)))))) (fun t => f93_2_eq t) (by kernel_rfl)))
noncomputable def f93_0 (x0 x1 : AV) : M AV :=
 bd (bi .leq (.int .i32 0) x1) fun v1 =>
 bd (gd v1 true (ret x1)) fun v2 =>
 bd (gd v1 true (bi .lss v2 (.int .i32 128))) fun v3 =>
 bd (pk v1 v3 (.bool false)) fun v4 =>
 f93_1 x0 x1 v4
theorem f93_0_eq (t : Tmps) : dcode E93 187 (c2 B93) t K93 = f93_0 (t 0) (t 1) := (seq_eq (a := (c1 (c1 (c2 B93)))) (b := (c2 (c1 (c2 B93)))) (fun t => f93_1_eq t) (by kernel_rfl))
noncomputable def f93 (x0 x1 : AV) : M AV :=
 f93_0 x0 x1
theorem f93_top (t : Tmps) : dcode E93 187 B93 t K93 = f93 (t 0) (t 1) := (seq_eq (a := (c1 B93)) (b := (c2 B93)) (fun t => f93_0_eq t) (by kernel_rfl))
theorem f93_eq (x0 x1 : AV) : dfn E93 Go.Proofs.Tryz.f93 [x0, x1] = f93 x0 x1 := dfn_eq (c := B93) (nt := 187) (K := K93) (by kernel_rfl) (by kernel_rfl) rfl (by kernel_rfl) (f93_top (argT [x0, x1]))
theorem O93 : EnvOK E93 := ⟨fun g xs => (ok_if (S70 xs) (ok_if (N90 xs) (ok_if (S101 xs) ok_fail))), ap_fail⟩
theorem S93 (xs : List AV) : CallOK Go.Proofs.Tryz.prog 3 93 xs (L2 f93 xs) := ok_L2 (fun x0 x1 => ok_fn (E := E93) (fn := Go.Proofs.Tryz.f93) O93 rfl rfl (by kernel_rfl) (by kernel_rfl) (f93_eq x0 x1)) xs

/-! ### strings.shouldUseASCIISet: function 94 -/
noncomputable def C94 (g : FuncId) (xs : List AV) : M AV := fail
noncomputable def E94 : Env := ⟨Go.Proofs.Tryz.prog, 3, C94, fun _ _ => fail, fun _ => [], 94, none⟩
noncomputable def B94 : Code := bodyOf Go.Proofs.Tryz.f94
noncomputable def K94 : KT := dK Go.Proofs.Tryz.prog Go.Proofs.Tryz.f94.results.toList
noncomputable def f94 (x0 : AV) : M AV :=
 bd (bi .gtr x0 (.int .i64 8)) fun v1 =>
 ret v1
theorem f94_eq (x0 : AV) : dfn E94 Go.Proofs.Tryz.f94 [x0] = f94 x0 := dfn_eq (c := B94) (nt := 5) (K := K94) (by kernel_rfl) (by kernel_rfl) rfl (by kernel_rfl) (by kernel_rfl)
theorem O94 : EnvOK E94 := ⟨fun g xs => ok_fail, ap_fail⟩
theorem S94 (xs : List AV) : CallOK Go.Proofs.Tryz.prog 3 94 xs (L1 f94 xs) := ok_L1 (fun x0 => ok_fn (E := E94) (fn := Go.Proofs.Tryz.f94) O94 rfl rfl (by kernel_rfl) (by kernel_rfl) (f94_eq x0)) xs

/-! ### strings.makeASCIISet: function 95 -/
noncomputable def C95 (g : FuncId) (xs : List AV) : M AV := fail
noncomputable def E95 : Env := ⟨Go.Proofs.Tryz.prog, 3, C95, fun _ _ => fail, fun _ => [], 95, none⟩
noncomputable def B95 : Code := bodyOf Go.Proofs.Tryz.f95
noncomputable def K95 : KT := dK Go.Proofs.Tryz.prog Go.Proofs.Tryz.f95.results.toList
noncomputable def f95_1 (x2 : AV) : M AV :=
 bd (lda 256 x2) fun v1 =>
 bd (sta 256 x2 v1) fun _ =>
 bd (lda 256 x2) fun v2 => ret (.tuple [v2, (.bool true)])
theorem f95_1_eq (t : Tmps) : dcode E95 21 (c2 (c2 B95)) t K95 = f95_1 (t 2) := by kernel_rfl
noncomputable def f95_b3 (L3 : AV → AV → AV → M AV) (x0 x2 x4 : AV) : M AV :=
 bd (lnS x0) fun v1 =>
 bd (bi .lss x4 v1) fun v2 =>
 cnd v2 (
 bd (ixs x0 x4) fun v3 =>
 bd (bi .geq v3 (.int .u8 128)) fun v4 =>
 cnd v4 (
 bd (lda 256 x2) fun v5 =>
 bd (sta 256 x2 v5) fun _ =>
 bd (lda 256 x2) fun v6 => ret (.tuple [v6, (.bool false)])) (
 bd (ixpa 1 256 x2 v3) fun v7 =>
 bd (st v7 (.bool true)) fun _ =>
 bd (bi .add x4 (.int .i64 1)) fun v8 =>
 L3 x0 x2 v8)) (
 f95_1 x2)
theorem f95_b3_eq (L3 : AV → AV → AV → M AV) (t : Tmps) : dcode E95 21 (c1 (c1 (c2 (c1 (c2 B95))))) t (kJ (fun t => L3 (t 0) (t 2) (t 4)) (kB 0 (kJ (fun t => f95_1 (t 2)) K95))) = f95_b3 L3 (t 0) (t 2) (t 4) := by kernel_rfl
noncomputable def f95_l3 : Nat → AV → AV → AV → M AV
  | 0, _, _, _ => fail
  | n + 1, x0, x2, x4 => f95_b3 (f95_l3 n) x0 x2 x4
theorem f95_l3_eq (t : Tmps) : dcode E95 21 (c1 (c2 (c1 (c2 B95)))) t (kB 0 (kJ (fun t => f95_1 (t 2)) K95)) = f95_l3 fuel (t 0) (t 2) (t 4) :=
  dloop_eq (c := (c1 (c1 (c2 (c1 (c2 B95)))))) (g := fun n t => f95_l3 n (t 0) (t 2) (t 4)) (fun _ => rfl) (fun n t => f95_b3_eq (f95_l3 n) t)
noncomputable def f95_2 (x0 x2 x4 : AV) : M AV :=
 f95_l3 fuel x0 x2 x4
theorem f95_2_eq (t : Tmps) : dcode E95 21 (c2 (c1 (c2 B95))) t (kJ (fun t => f95_1 (t 2)) K95) = f95_2 (t 0) (t 2) (t 4) := (f95_l3_eq _)
noncomputable def f95_0 (x0 x2 : AV) : M AV :=
 f95_2 x0 x2 (.int .i64 0)
theorem f95_0_eq (t : Tmps) : dcode E95 21 (c2 B95) t K95 = f95_0 (t 0) (t 2) := (seq_eq (a := (c1 (c2 B95))) (b := (c2 (c2 B95))) (fun t => f95_1_eq t) (seq_eq (a := (c1 (c1 (c2 B95)))) (b := (c2 (c1 (c2 B95)))) (fun t => f95_2_eq t) (by kernel_rfl)))
noncomputable def f95 (x0 : AV) : M AV :=
 bd (bx 106 (.agg (rep [(.bool false)] 256))) fun v1 =>
 f95_0 x0 v1
theorem f95_top (t : Tmps) : dcode E95 21 B95 t K95 = f95 (t 0) := (seq_eq (a := (c1 B95)) (b := (c2 B95)) (fun t => f95_0_eq t) (by kernel_rfl))
theorem f95_eq (x0 : AV) : dfn E95 Go.Proofs.Tryz.f95 [x0] = f95 x0 := dfn_eq (c := B95) (nt := 21) (K := K95) (by kernel_rfl) (by kernel_rfl) rfl (by kernel_rfl) (f95_top (argT [x0]))
theorem O95 : EnvOK E95 := ⟨fun g xs => ok_fail, ap_fail⟩
theorem S95 (xs : List AV) : CallOK Go.Proofs.Tryz.prog 3 95 xs (L1 f95 xs) := ok_L1 (fun x0 => ok_fn (E := E95) (fn := Go.Proofs.Tryz.f95) O95 rfl rfl (by kernel_rfl) (by kernel_rfl) (f95_eq x0)) xs

/-! ### (*strings.asciiSet).contains: function 96 -/
noncomputable def C96 (g : FuncId) (xs : List AV) : M AV := fail
noncomputable def E96 : Env := ⟨Go.Proofs.Tryz.prog, 3, C96, fun _ _ => fail, fun _ => [], 96, none⟩
noncomputable def B96 : Code := bodyOf Go.Proofs.Tryz.f96
noncomputable def K96 : KT := dK Go.Proofs.Tryz.prog Go.Proofs.Tryz.f96.results.toList
noncomputable def f96 (x0 x1 : AV) : M AV :=
 bd (nck x0) fun v1 =>
 bd (ixpa 1 256 v1 x1) fun v2 =>
 bd (ld v2) fun v3 =>
 ret v3
theorem f96_eq (x0 x1 : AV) : dfn E96 Go.Proofs.Tryz.f96 [x0, x1] = f96 x0 x1 := dfn_eq (c := B96) (nt := 10) (K := K96) (by kernel_rfl) (by kernel_rfl) rfl (by kernel_rfl) (by kernel_rfl)
theorem O96 : EnvOK E96 := ⟨fun g xs => ok_fail, ap_fail⟩
theorem S96 (xs : List AV) : CallOK Go.Proofs.Tryz.prog 3 96 xs (L2 f96 xs) := ok_L2 (fun x0 x1 => ok_fn (E := E96) (fn := Go.Proofs.Tryz.f96) O96 rfl rfl (by kernel_rfl) (by kernel_rfl) (f96_eq x0 x1)) xs

/-! ### strings.IndexAny: function 80 -/
noncomputable def C80 (g : FuncId) (xs : List AV) : M AV := bif Nat.beq g 93 then L2 f93 xs else bif Nat.beq g 94 then L1 f94 xs else bif Nat.beq g 95 then L1 f95 xs else bif Nat.beq g 96 then L2 f96 xs else fail
noncomputable def E80 : Env := ⟨Go.Proofs.Tryz.prog, 3, C80, fun _ _ => fail, fun _ => [], 80, none⟩
noncomputable def B80 : Code := bodyOf Go.Proofs.Tryz.f80
noncomputable def K80 : KT := dK Go.Proofs.Tryz.prog Go.Proofs.Tryz.f80.results.toList
noncomputable def f80_4 : M AV :=
 ret (.int .i64 (-1))
theorem f80_4_eq (t : Tmps) : dcode E80 55 (c2 (c2 (c2 (c2 (c2 B80))))) t K80 = f80_4 := by kernel_rfl
noncomputable def f80_b6 (L6 : AV → AV → M AV) (x1 x45 : AV) : M AV :=
 bd (nxs x45) fun v1 =>
 bd (ex v1 0) fun v2 =>
 cnd v2 (
 bd (ex v1 1) fun v3 =>
 bd (ex v1 2) fun v4 =>
 bd (f93 x1 v4) fun v5 =>
 bd (bi .geq v5 (.int .i64 0)) fun v6 =>
 cnd v6 (
 ret v3) (
 L6 x1 x45)) (
 f80_4)
theorem f80_b6_eq (L6 : AV → AV → M AV) (t : Tmps) : dcode E80 55 (c1 (c1 (c2 (c1 (c2 (c2 (c2 (c2 B80)))))))) t (kJ (fun t => L6 (t 1) (t 45)) (kB 2 (kJ (fun t => f80_4) K80))) = f80_b6 L6 (t 1) (t 45) := by kernel_rfl
noncomputable def f80_l6 : Nat → AV → AV → M AV
  | 0, _, _ => fail
  | n + 1, x1, x45 => f80_b6 (f80_l6 n) x1 x45
theorem f80_l6_eq (t : Tmps) : dcode E80 55 (c1 (c2 (c1 (c2 (c2 (c2 (c2 B80))))))) t (kB 2 (kJ (fun t => f80_4) K80)) = f80_l6 fuel (t 1) (t 45) :=
  dloop_eq (c := (c1 (c1 (c2 (c1 (c2 (c2 (c2 (c2 B80))))))))) (g := fun n t => f80_l6 n (t 1) (t 45)) (fun _ => rfl) (fun n t => f80_b6_eq (f80_l6 n) t)
noncomputable def f80_5 (x1 x45 : AV) : M AV :=
 f80_l6 fuel x1 x45
theorem f80_5_eq (t : Tmps) : dcode E80 55 (c2 (c1 (c2 (c2 (c2 (c2 B80)))))) t (kJ (fun t => f80_4) K80) = f80_5 (t 1) (t 45) := (f80_l6_eq _)
noncomputable def f80_3 (x0 x1 : AV) : M AV :=
 bd (rgs x0) fun v1 =>
 f80_5 x1 v1
theorem f80_3_eq (t : Tmps) : dcode E80 55 (c2 (c2 (c2 (c2 B80)))) t K80 = f80_3 (t 0) (t 1) := (seq_eq (a := (c1 (c2 (c2 (c2 (c2 B80)))))) (b := (c2 (c2 (c2 (c2 (c2 B80)))))) (fun t => f80_4_eq t) (seq_eq (a := (c1 (c1 (c2 (c2 (c2 (c2 B80))))))) (b := (c2 (c1 (c2 (c2 (c2 (c2 B80))))))) (fun t => f80_5_eq t) (by kernel_rfl)))
noncomputable def f80_10 : M AV :=
 ret (.int .i64 (-1))
theorem f80_10_eq (t : Tmps) : dcode E80 55 (c2 (c1 (c2 (c2 (c1 (c2 (c1 (c2 (c2 (c2 B80)))))))))) t (kJ (fun t => f80_3 (t 0) (t 1)) K80) = f80_10 := by kernel_rfl
noncomputable def f80_b12 (L12 : AV → AV → AV → M AV) (x0 x6 x8 : AV) : M AV :=
 bd (lnS x0) fun v1 =>
 bd (bi .lss x8 v1) fun v2 =>
 cnd v2 (
 bd (ixs x0 x8) fun v3 =>
 bd (f96 x6 v3) fun v4 =>
 cnd v4 (
 ret x8) (
 bd (bi .add x8 (.int .i64 1)) fun v5 =>
 L12 x0 x6 v5)) (
 f80_10)
theorem f80_b12_eq (L12 : AV → AV → AV → M AV) (t : Tmps) : dcode E80 55 (c1 (c1 (c2 (c1 (c1 (c2 (c2 (c1 (c2 (c1 (c2 (c2 (c2 B80))))))))))))) t (kJ (fun t => L12 (t 0) (t 6) (t 8)) (kB 0 (kJ (fun t => f80_10) (kJ (fun t => f80_3 (t 0) (t 1)) K80)))) = f80_b12 L12 (t 0) (t 6) (t 8) := by kernel_rfl
noncomputable def f80_l12 : Nat → AV → AV → AV → M AV
  | 0, _, _, _ => fail
  | n + 1, x0, x6, x8 => f80_b12 (f80_l12 n) x0 x6 x8
theorem f80_l12_eq (t : Tmps) : dcode E80 55 (c1 (c2 (c1 (c1 (c2 (c2 (c1 (c2 (c1 (c2 (c2 (c2 B80)))))))))))) t (kB 0 (kJ (fun t => f80_10) (kJ (fun t => f80_3 (t 0) (t 1)) K80))) = f80_l12 fuel (t 0) (t 6) (t 8) :=
  dloop_eq (c := (c1 (c1 (c2 (c1 (c1 (c2 (c2 (c1 (c2 (c1 (c2 (c2 (c2 B80)))))))))))))) (g := fun n t => f80_l12 n (t 0) (t 6) (t 8)) (fun _ => rfl) (fun n t => f80_b12_eq (f80_l12 n) t)
noncomputable def f80_11 (x0 x6 x8 : AV) : M AV :=
 f80_l12 fuel x0 x6 x8
theorem f80_11_eq (t : Tmps) : dcode E80 55 (c2 (c1 (c1 (c2 (c2 (c1 (c2 (c1 (c2 (c2 (c2 B80))))))))))) t (kJ (fun t => f80_10) (kJ (fun t => f80_3 (t 0) (t 1)) K80)) = f80_11 (t 0) (t 6) (t 8) := (f80_l12_eq _)
noncomputable def f80_9 (x0 x1 x6 x32 : AV) : M AV :=
 cnd x32 (
 f80_11 x0 x6 (.int .i64 0)) (
 f80_3 x0 x1)
theorem f80_9_eq (t : Tmps) : dcode E80 55 (c2 (c2 (c1 (c2 (c1 (c2 (c2 (c2 B80)))))))) t (kJ (fun t => f80_3 (t 0) (t 1)) K80) = f80_9 (t 0) (t 1) (t 6) (t 32) := (cond_eq (a := c1 (c2 (c2 (c1 (c2 (c1 (c2 (c2 (c2 B80))))))))) (b := c2 (c2 (c2 (c1 (c2 (c1 (c2 (c2 (c2 B80))))))))) (seq_eq (a := (c1 (c1 (c2 (c2 (c1 (c2 (c1 (c2 (c2 (c2 B80))))))))))) (b := (c2 (c1 (c2 (c2 (c1 (c2 (c1 (c2 (c2 (c2 B80))))))))))) (fun t => f80_10_eq t) (seq_eq (a := (c1 (c1 (c1 (c2 (c2 (c1 (c2 (c1 (c2 (c2 (c2 B80)))))))))))) (b := (c2 (c1 (c1 (c2 (c2 (c1 (c2 (c1 (c2 (c2 (c2 B80)))))))))))) (fun t => f80_11_eq t) (by kernel_rfl))) (by kernel_rfl))
noncomputable def f80_8 (x0 x1 x6 x7 : AV) : M AV :=
 f80_9 x0 x1 x6 x7
theorem f80_8_eq (t : Tmps) : dcode E80 55 (c2 (c1 (c2 (c1 (c2 (c2 (c2 B80))))))) t (kJ (fun t => f80_3 (t 0) (t 1)) K80) = f80_8 (t 0) (t 1) (t 6) (t 7) := (seq_eq (a := (c1 (c2 (c1 (c2 (c1 (c2 (c2 (c2 B80))))))))) (b := (c2 (c2 (c1 (c2 (c1 (c2 (c2 (c2 B80))))))))) (fun t => f80_9_eq t) (by kernel_rfl))
noncomputable def f80_7 (x0 x1 x26 : AV) : M AV :=
 cnd x26 (
 bd (f95 x1) fun v1 =>
 bd (ex v1 0) fun v2 =>
 bd (ex v1 1) fun v3 =>
 bd (bx 106 (.agg (rep [(.bool false)] 256))) fun v4 =>
 bd (sta 256 v4 v2) fun _ =>
 f80_8 x0 x1 v4 v3) (
 f80_3 x0 x1)
theorem f80_7_eq (t : Tmps) : dcode E80 55 (c2 (c1 (c2 (c2 (c2 B80))))) t (kJ (fun t => f80_3 (t 0) (t 1)) K80) = f80_7 (t 0) (t 1) (t 26) := (cond_eq (a := c1 (c2 (c1 (c2 (c2 (c2 B80)))))) (b := c2 (c2 (c1 (c2 (c2 (c2 B80)))))) (seq_eq (a := (c1 (c1 (c2 (c1 (c2 (c2 (c2 B80)))))))) (b := (c2 (c1 (c2 (c1 (c2 (c2 (c2 B80)))))))) (fun t => f80_8_eq t) (by kernel_rfl)) (by kernel_rfl))
noncomputable def f80_2 (x0 x1 : AV) : M AV :=
 bd (lnS x0) fun v1 =>
 bd (f94 v1) fun v2 =>
 f80_7 x0 x1 v2
theorem f80_2_eq (t : Tmps) : dcode E80 55 (c2 (c2 (c2 B80))) t K80 = f80_2 (t 0) (t 1) := (seq_eq (a := (c1 (c2 (c2 (c2 B80))))) (b := (c2 (c2 (c2 (c2 B80))))) (fun t => f80_3_eq t) (seq_eq (a := (c1 (c1 (c2 (c2 (c2 B80)))))) (b := (c2 (c1 (c2 (c2 (c2 B80)))))) (fun t => f80_7_eq t) (by kernel_rfl)))
noncomputable def f80_15 (x0 x5 : AV) : M AV :=
 bd (f93 x0 x5) fun v1 =>
 ret v1
theorem f80_15_eq (t : Tmps) : dcode E80 55 (c2 (c2 (c1 (c2 (c1 (c2 (c2 B80))))))) t (kJ (fun t => f80_2 (t 0) (t 1)) K80) = f80_15 (t 0) (t 5) := by kernel_rfl
noncomputable def f80_14 (x0 x5 : AV) : M AV :=
 bd (bi .geq x5 (.int .i32 128)) fun v1 =>
 cnd v1 (
 f80_15 x0 (.int .i32 65533)) (
 f80_15 x0 x5)
theorem f80_14_eq (t : Tmps) : dcode E80 55 (c2 (c1 (c2 (c1 (c2 (c2 B80)))))) t (kJ (fun t => f80_2 (t 0) (t 1)) K80) = f80_14 (t 0) (t 5) := (seq_eq (a := (c1 (c2 (c1 (c2 (c1 (c2 (c2 B80)))))))) (b := (c2 (c2 (c1 (c2 (c1 (c2 (c2 B80)))))))) (fun t => f80_15_eq t) (by kernel_rfl))
noncomputable def f80_13 (x0 x1 x15 : AV) : M AV :=
 cnd x15 (
 bd (ixs x1 (.int .i64 0)) fun v1 =>
 bd (ci .i32 v1) fun v2 =>
 f80_14 x0 v2) (
 f80_2 x0 x1)
theorem f80_13_eq (t : Tmps) : dcode E80 55 (c2 (c1 (c2 (c2 B80)))) t (kJ (fun t => f80_2 (t 0) (t 1)) K80) = f80_13 (t 0) (t 1) (t 15) := (cond_eq (a := c1 (c2 (c1 (c2 (c2 B80))))) (b := c2 (c2 (c1 (c2 (c2 B80))))) (seq_eq (a := (c1 (c1 (c2 (c1 (c2 (c2 B80))))))) (b := (c2 (c1 (c2 (c1 (c2 (c2 B80))))))) (fun t => f80_14_eq t) (by kernel_rfl)) (by kernel_rfl))
noncomputable def f80_1 (x0 x1 : AV) : M AV :=
 bd (lnS x1) fun v1 =>
 bd (bi .eql v1 (.int .i64 1)) fun v2 =>
 f80_13 x0 x1 v2
theorem f80_1_eq (t : Tmps) : dcode E80 55 (c2 (c2 B80)) t K80 = f80_1 (t 0) (t 1) := (seq_eq (a := (c1 (c2 (c2 B80)))) (b := (c2 (c2 (c2 B80)))) (fun t => f80_2_eq t) (seq_eq (a := (c1 (c1 (c2 (c2 B80))))) (b := (c2 (c1 (c2 (c2 B80))))) (fun t => f80_13_eq t) (by kernel_rfl)))
noncomputable def f80_0 (x0 x1 : AV) : M AV :=
 bd (bi .eql x1 (.str [])) fun v1 =>
 cnd v1 (
 ret (.int .i64 (-1))) (
 f80_1 x0 x1)
theorem f80_0_eq (t : Tmps) : dcode E80 55 (c2 B80) t K80 = f80_0 (t 0) (t 1) := (seq_eq (a := (c1 (c2 B80))) (b := (c2 (c2 B80))) (fun t => f80_1_eq t) (by kernel_rfl))
noncomputable def f80 (x0 x1 : AV) : M AV :=
 f80_0 x0 x1
theorem f80_top (t : Tmps) : dcode E80 55 B80 t K80 = f80 (t 0) (t 1) := (seq_eq (a := (c1 B80)) (b := (c2 B80)) (fun t => f80_0_eq t) (by kernel_rfl))
theorem f80_eq (x0 x1 : AV) : dfn E80 Go.Proofs.Tryz.f80 [x0, x1] = f80 x0 x1 := dfn_eq (c := B80) (nt := 55) (K := K80) (by kernel_rfl) (by kernel_rfl) rfl (by kernel_rfl) (f80_top (argT [x0, x1]))
theorem O80 : EnvOK E80 := ⟨fun g xs => (ok_if (S93 xs) (ok_if (S94 xs) (ok_if (S95 xs) (ok_if (S96 xs) ok_fail)))), ap_fail⟩
theorem S80 (xs : List AV) : CallOK Go.Proofs.Tryz.prog 3 80 xs (L2 f80 xs) := ok_L2 (fun x0 x1 => ok_fn (E := E80) (fn := Go.Proofs.Tryz.f80) O80 rfl rfl (by kernel_rfl) (by kernel_rfl) (f80_eq x0 x1)) xs

/-! ### strings.ContainsAny: function 58 -/
noncomputable def C58 (g : FuncId) (xs : List AV) : M AV := bif Nat.beq g 80 then L2 f80 xs else fail
noncomputable def E58 : Env := ⟨Go.Proofs.Tryz.prog, 3, C58, fun _ _ => fail, fun _ => [], 58, none⟩
noncomputable def B58 : Code := bodyOf Go.Proofs.Tryz.f58
noncomputable def K58 : KT := dK Go.Proofs.Tryz.prog Go.Proofs.Tryz.f58.results.toList
noncomputable def f58 (x0 x1 : AV) : M AV :=
 bd (f80 x0 x1) fun v1 =>
 bd (bi .geq v1 (.int .i64 0)) fun v2 =>
 ret v2
theorem f58_eq (x0 x1 : AV) : dfn E58 Go.Proofs.Tryz.f58 [x0, x1] = f58 x0 x1 := dfn_eq (c := B58) (nt := 9) (K := K58) (by kernel_rfl) (by kernel_rfl) rfl (by kernel_rfl) (by kernel_rfl)
theorem O58 : EnvOK E58 := ⟨fun g xs => (ok_if (S80 xs) ok_fail), ap_fail⟩
theorem S58 (xs : List AV) : CallOK Go.Proofs.Tryz.prog 3 58 xs (L2 f58 xs) := ok_L2 (fun x0 x1 => ok_fn (E := E58) (fn := Go.Proofs.Tryz.f58) O58 rfl rfl (by kernel_rfl) (by kernel_rfl) (f58_eq x0 x1)) xs

/-! ### etui/iri.hex: function 59 -/
noncomputable def C59 (g : FuncId) (xs : List AV) : M AV := bif Nat.beq g 70 then L2 f70 xs else fail
noncomputable def E59 : Env := ⟨Go.Proofs.Tryz.prog, 3, C59, fun _ _ => fail, fun _ => [], 59, none⟩
noncomputable def B59 : Code := bodyOf Go.Proofs.Tryz.f59
noncomputable def K59 : KT := dK Go.Proofs.Tryz.prog Go.Proofs.Tryz.f59.results.toList
noncomputable def f59 (x0 : AV) : M AV :=
 bd (f70 (.str [48, 49, 50, 51, 52, 53, 54, 55, 56, 57, 97, 98, 99, 100, 101, 102, 65, 66, 67, 68, 69, 70]) x0) fun v1 =>
 bd (bi .geq v1 (.int .i64 0)) fun v2 =>
 ret v2
theorem f59_eq (x0 : AV) : dfn E59 Go.Proofs.Tryz.f59 [x0] = f59 x0 := dfn_eq (c := B59) (nt := 6) (K := K59) (by kernel_rfl) (by kernel_rfl) rfl (by kernel_rfl) (by kernel_rfl)
theorem O59 : EnvOK E59 := ⟨fun g xs => (ok_if (S70 xs) ok_fail), ap_fail⟩
theorem S59 (xs : List AV) : CallOK Go.Proofs.Tryz.prog 3 59 xs (L1 f59 xs) := ok_L1 (fun x0 => ok_fn (E := E59) (fn := Go.Proofs.Tryz.f59) O59 rfl rfl (by kernel_rfl) (by kernel_rfl) (f59_eq x0)) xs

/-! ### etui/iri.right: function 31 -/
noncomputable def C31 (g : FuncId) (xs : List AV) : M AV := bif Nat.beq g 58 then L2 f58 xs else bif Nat.beq g 59 then L1 f59 xs else fail
noncomputable def E31 : Env := ⟨Go.Proofs.Tryz.prog, 3, C31, fun _ _ => fail, fun _ => [], 31, none⟩
noncomputable def B31 : Code := bodyOf Go.Proofs.Tryz.f31
noncomputable def K31 : KT := dK Go.Proofs.Tryz.prog Go.Proofs.Tryz.f31.results.toList
noncomputable def f31_2 : M AV :=
 ret (.bool true)
theorem f31_2_eq (t : Tmps) : dcode E31 54 (c2 (c2 (c2 B31))) t K31 = f31_2 := by kernel_rfl
noncomputable def f31_b4 (L4 : AV → AV → AV → M AV) (x0 x13 x14 : AV) : M AV :=
 bd (bi .lss x14 x13) fun v1 =>
 cnd v1 (
 bd (ixs x0 x14) fun v2 =>
 bd (bi .leq v2 (.int .u8 32)) fun v3 =>
 bd (gd v3 false (ret v2)) fun v4 =>
 bd (gd v3 false (bi .eql v4 (.int .u8 127))) fun v5 =>
 bd (pk v3 (.bool true) v5) fun v6 =>
 cnd v6 (
 ret (.bool false)) (
 bd (bi .eql v2 (.int .u8 37)) fun v7 =>
 bd (gd v7 true (ret x14)) fun v8 =>
 bd (gd v7 true (bi .add v8 (.int .i64 2))) fun v9 =>
 bd (gd v7 true (ret x0)) fun v10 =>
 bd (gd v7 true (lnS v10)) fun v11 =>
 bd (gd v7 true (bi .geq v9 v11)) fun v12 =>
 bd (gd v7 true (ret v12)) fun v13 =>
 bd (gd v13 false (ret x0)) fun v14 =>
 bd (gd v13 false (ret x14)) fun v15 =>
 bd (gd v13 false (bi .add v15 (.int .i64 1))) fun v16 =>
 bd (gd v13 false (ixs v14 v16)) fun v17 =>
 bd (gd v13 false (f59 v17)) fun v18 =>
 bd (gd v13 false (un .not v18)) fun v19 =>
 bd (gd v7 true (pk v13 (.bool true) v19)) fun v20 =>
 bd (gd v7 true (ret v20)) fun v21 =>
 bd (gd v21 false (ret x0)) fun v22 =>
 bd (gd v21 false (ret x14)) fun v23 =>
 bd (gd v21 false (bi .add v23 (.int .i64 2))) fun v24 =>
 bd (gd v21 false (ixs v22 v24)) fun v25 =>
 bd (gd v21 false (f59 v25)) fun v26 =>
 bd (gd v21 false (un .not v26)) fun v27 =>
 bd (gd v7 true (pk v21 (.bool true) v27)) fun v28 =>
 bd (pk v7 v28 (.bool false)) fun v29 =>
 cnd v29 (
 ret (.bool false)) (
 bd (bi .add x14 (.int .i64 1)) fun v30 =>
 L4 x0 x13 v30))) (
 f31_2)
theorem f31_b4_eq (L4 : AV → AV → AV → M AV) (t : Tmps) : dcode E31 54 (c1 (c1 (c2 (c1 (c2 (c2 B31)))))) t (kJ (fun t => L4 (t 0) (t 13) (t 14)) (kB 0 (kJ (fun t => f31_2) K31))) = f31_b4 L4 (t 0) (t 13) (t 14) := by kernel_rfl
noncomputable def f31_l4 : Nat → AV → AV → AV → M AV
  | 0, _, _, _ => fail
  | n + 1, x0, x13, x14 => f31_b4 (f31_l4 n) x0 x13 x14
theorem f31_l4_eq (t : Tmps) : dcode E31 54 (c1 (c2 (c1 (c2 (c2 B31))))) t (kB 0 (kJ (fun t => f31_2) K31)) = f31_l4 fuel (t 0) (t 13) (t 14) :=
  dloop_eq (c := (c1 (c1 (c2 (c1 (c2 (c2 B31))))))) (g := fun n t => f31_l4 n (t 0) (t 13) (t 14)) (fun _ => rfl) (fun n t => f31_b4_eq (f31_l4 n) t)
noncomputable def f31_3 (x0 x13 x14 : AV) : M AV :=
 f31_l4 fuel x0 x13 x14
theorem f31_3_eq (t : Tmps) : dcode E31 54 (c2 (c1 (c2 (c2 B31)))) t (kJ (fun t => f31_2) K31) = f31_3 (t 0) (t 13) (t 14) := (f31_l4_eq _)
noncomputable def f31_1 (x0 : AV) : M AV :=
 bd (lnS x0) fun v1 =>
 f31_3 x0 v1 (.int .i64 0)
theorem f31_1_eq (t : Tmps) : dcode E31 54 (c2 (c2 B31)) t K31 = f31_1 (t 0) := (seq_eq (a := (c1 (c2 (c2 B31)))) (b := (c2 (c2 (c2 B31)))) (fun t => f31_2_eq t) (seq_eq (a := (c1 (c1 (c2 (c2 B31))))) (b := (c2 (c1 (c2 (c2 B31))))) (fun t => f31_3_eq t) (by kernel_rfl)))
noncomputable def f31_0 (x0 : AV) : M AV :=
 bd (lnS x0) fun v1 =>
 bd (bi .gtr v1 (.int .i64 1000)) fun v2 =>
 bd (gd v2 false (ret x0)) fun v3 =>
 bd (gd v2 false (f58 v3 (.str [34, 60, 62, 92, 94, 123, 124, 125, 96]))) fun v4 =>
 bd (pk v2 (.bool true) v4) fun v5 =>
 cnd v5 (
 ret (.bool false)) (
 f31_1 x0)
theorem f31_0_eq (t : Tmps) : dcode E31 54 (c2 B31) t K31 = f31_0 (t 0) := (seq_eq (a := (c1 (c2 B31))) (b := (c2 (c2 B31))) (fun t => f31_1_eq t) (by kernel_rfl))
noncomputable def f31 (x0 : AV) : M AV :=
 f31_0 x0
theorem f31_top (t : Tmps) : dcode E31 54 B31 t K31 = f31 (t 0) := (seq_eq (a := (c1 B31)) (b := (c2 B31)) (fun t => f31_0_eq t) (by kernel_rfl))
theorem f31_eq (x0 : AV) : dfn E31 Go.Proofs.Tryz.f31 [x0] = f31 x0 := dfn_eq (c := B31) (nt := 54) (K := K31) (by kernel_rfl) (by kernel_rfl) rfl (by kernel_rfl) (f31_top (argT [x0]))
theorem O31 : EnvOK E31 := ⟨fun g xs => (ok_if (S58 xs) (ok_if (S59 xs) ok_fail)), ap_fail⟩
theorem S31 (xs : List AV) : CallOK Go.Proofs.Tryz.prog 3 31 xs (L1 f31 xs) := ok_L1 (fun x0 => ok_fn (E := E31) (fn := Go.Proofs.Tryz.f31) O31 rfl rfl (by kernel_rfl) (by kernel_rfl) (f31_eq x0)) xs

/-! ### etui/iri.anyAt: function 60 -/
noncomputable def C60 (g : FuncId) (xs : List AV) : M AV := fail
noncomputable def E60 : Env := ⟨Go.Proofs.Tryz.prog, 3, C60, fun _ _ => fail, fun _ => [], 60, none⟩
noncomputable def B60 : Code := bodyOf Go.Proofs.Tryz.f60
noncomputable def K60 : KT := dK Go.Proofs.Tryz.prog Go.Proofs.Tryz.f60.results.toList
noncomputable def f60_1 : M AV :=
 ret (.int .i64 (-1))
theorem f60_1_eq (t : Tmps) : dcode E60 24 (c2 (c2 B60)) t K60 = f60_1 := by kernel_rfl
noncomputable def f60_b8 (L3 : AV → AV → M AV) (L8 : AV → AV → AV → AV → AV → M AV) (x1 x5 x6 x10 x16 : AV) : M AV :=
 bd (nxs x16) fun v1 =>
 bd (ex v1 0) fun v2 =>
 cnd v2 (
 bd (ex v1 2) fun v3 =>
 bd (bi .eql x6 v3) fun v4 =>
 cnd v4 (
 ret x5) (
 L8 x1 x5 x6 x10 x16)) (
 L3 x1 x10)
theorem f60_b8_eq (L3 : AV → AV → M AV) (L8 : AV → AV → AV → AV → AV → M AV) (t : Tmps) : dcode E60 24 (c1 (c1 (c2 (c2 (c1 (c2 (c2 (c1 (c1 (c2 (c1 (c2 B60)))))))))))) t (kJ (fun t => L8 (t 1) (t 5) (t 6) (t 10) (t 16)) (kB 2 (kB 1 (kJ (fun t => L3 (t 1) (t 10)) (kB 0 (kJ (fun t => f60_1) K60)))))) = f60_b8 L3 L8 (t 1) (t 5) (t 6) (t 10) (t 16) := by kernel_rfl
noncomputable def f60_l8 (L3 : AV → AV → M AV) : Nat → AV → AV → AV → AV → AV → M AV
  | 0, _, _, _, _, _ => fail
  | n + 1, x1, x5, x6, x10, x16 => f60_b8 L3 (f60_l8 L3 n) x1 x5 x6 x10 x16
theorem f60_l8_eq (L3 : AV → AV → M AV) (t : Tmps) : dcode E60 24 (c1 (c2 (c2 (c1 (c2 (c2 (c1 (c1 (c2 (c1 (c2 B60))))))))))) t (kB 2 (kB 1 (kJ (fun t => L3 (t 1) (t 10)) (kB 0 (kJ (fun t => f60_1) K60))))) = f60_l8 L3 fuel (t 1) (t 5) (t 6) (t 10) (t 16) :=
  dloop_eq (c := (c1 (c1 (c2 (c2 (c1 (c2 (c2 (c1 (c1 (c2 (c1 (c2 B60))))))))))))) (g := fun n t => f60_l8 L3 n (t 1) (t 5) (t 6) (t 10) (t 16)) (fun _ => rfl) (fun n t => f60_b8_eq L3 (f60_l8 L3 n) t)
noncomputable def f60_7 (L3 : AV → AV → M AV) (x1 x5 x6 x10 x16 : AV) : M AV :=
 f60_l8 L3 fuel x1 x5 x6 x10 x16
theorem f60_7_eq (L3 : AV → AV → M AV) (t : Tmps) : dcode E60 24 (c2 (c2 (c1 (c2 (c2 (c1 (c1 (c2 (c1 (c2 B60)))))))))) t (kB 1 (kJ (fun t => L3 (t 1) (t 10)) (kB 0 (kJ (fun t => f60_1) K60)))) = f60_7 L3 (t 1) (t 5) (t 6) (t 10) (t 16) := (f60_l8_eq L3 _)
noncomputable def f60_6 (L3 : AV → AV → M AV) (x1 x5 x6 x10 : AV) : M AV :=
 bd (rgs x1) fun v1 =>
 f60_7 L3 x1 x5 x6 x10 v1
theorem f60_6_eq (L3 : AV → AV → M AV) (t : Tmps) : dcode E60 24 (c2 (c1 (c2 (c2 (c1 (c1 (c2 (c1 (c2 B60))))))))) t (kB 1 (kJ (fun t => L3 (t 1) (t 10)) (kB 0 (kJ (fun t => f60_1) K60)))) = f60_6 L3 (t 1) (t 5) (t 6) (t 10) := (seq_eq (a := (c1 (c2 (c1 (c2 (c2 (c1 (c1 (c2 (c1 (c2 B60))))))))))) (b := (c2 (c2 (c1 (c2 (c2 (c1 (c1 (c2 (c1 (c2 B60))))))))))) (fun t => f60_7_eq L3 t) (by kernel_rfl))
noncomputable def f60_5 (L3 : AV → AV → M AV) (x1 x10 x11 : AV) : M AV :=
 bd (ex x11 1) fun v1 =>
 bd (ex x11 2) fun v2 =>
 f60_6 L3 x1 v1 v2 x10
theorem f60_5_eq (L3 : AV → AV → M AV) (t : Tmps) : dcode E60 24 (c2 (c2 (c1 (c1 (c2 (c1 (c2 B60))))))) t (kJ (fun t => L3 (t 1) (t 10)) (kB 0 (kJ (fun t => f60_1) K60))) = f60_5 L3 (t 1) (t 10) (t 11) := (seq_eq (a := (c1 (c1 (c2 (c2 (c1 (c1 (c2 (c1 (c2 B60)))))))))) (b := (c2 (c1 (c2 (c2 (c1 (c1 (c2 (c1 (c2 B60)))))))))) (fun t => f60_6_eq L3 t) (by kernel_rfl))
noncomputable def f60_4 (L3 : AV → AV → M AV) (x1 x10 x11 x12 : AV) : M AV :=
 cnd x12 (
 f60_5 L3 x1 x10 x11) (
 f60_1)
theorem f60_4_eq (L3 : AV → AV → M AV) (t : Tmps) : dcode E60 24 (c2 (c1 (c1 (c2 (c1 (c2 B60)))))) t (kJ (fun t => L3 (t 1) (t 10)) (kB 0 (kJ (fun t => f60_1) K60))) = f60_4 L3 (t 1) (t 10) (t 11) (t 12) := (seq_eq (a := (c1 (c2 (c1 (c1 (c2 (c1 (c2 B60)))))))) (b := (c2 (c2 (c1 (c1 (c2 (c1 (c2 B60)))))))) (fun t => f60_5_eq L3 t) (by kernel_rfl))
noncomputable def f60_b3 (L3 : AV → AV → M AV) (x1 x10 : AV) : M AV :=
 bd (nxs x10) fun v1 =>
 bd (ex v1 0) fun v2 =>
 f60_4 L3 x1 x10 v1 v2
theorem f60_b3_eq (L3 : AV → AV → M AV) (t : Tmps) : dcode E60 24 (c1 (c1 (c2 (c1 (c2 B60))))) t (kJ (fun t => L3 (t 1) (t 10)) (kB 0 (kJ (fun t => f60_1) K60))) = f60_b3 L3 (t 1) (t 10) := (seq_eq (a := (c1 (c1 (c1 (c2 (c1 (c2 B60))))))) (b := (c2 (c1 (c1 (c2 (c1 (c2 B60))))))) (fun t => f60_4_eq L3 t) (by kernel_rfl))
noncomputable def f60_l3 : Nat → AV → AV → M AV
  | 0, _, _ => fail
  | n + 1, x1, x10 => f60_b3 (f60_l3 n) x1 x10
theorem f60_l3_eq (t : Tmps) : dcode E60 24 (c1 (c2 (c1 (c2 B60)))) t (kB 0 (kJ (fun t => f60_1) K60)) = f60_l3 fuel (t 1) (t 10) :=
  dloop_eq (c := (c1 (c1 (c2 (c1 (c2 B60)))))) (g := fun n t => f60_l3 n (t 1) (t 10)) (fun _ => rfl) (fun n t => f60_b3_eq (f60_l3 n) t)
noncomputable def f60_2 (x1 x10 : AV) : M AV :=
 f60_l3 fuel x1 x10
theorem f60_2_eq (t : Tmps) : dcode E60 24 (c2 (c1 (c2 B60))) t (kJ (fun t => f60_1) K60) = f60_2 (t 1) (t 10) := (f60_l3_eq _)
noncomputable def f60_0 (x0 x1 : AV) : M AV :=
 bd (rgs x0) fun v1 =>
 f60_2 x1 v1
theorem f60_0_eq (t : Tmps) : dcode E60 24 (c2 B60) t K60 = f60_0 (t 0) (t 1) := (seq_eq (a := (c1 (c2 B60))) (b := (c2 (c2 B60))) (fun t => f60_1_eq t) (seq_eq (a := (c1 (c1 (c2 B60)))) (b := (c2 (c1 (c2 B60)))) (fun t => f60_2_eq t) (by kernel_rfl)))
noncomputable def f60 (x0 x1 : AV) : M AV :=
 f60_0 x0 x1
theorem f60_top (t : Tmps) : dcode E60 24 B60 t K60 = f60 (t 0) (t 1) := (seq_eq (a := (c1 B60)) (b := (c2 B60)) (fun t => f60_0_eq t) (by kernel_rfl))
theorem f60_eq (x0 x1 : AV) : dfn E60 Go.Proofs.Tryz.f60 [x0, x1] = f60 x0 x1 := dfn_eq (c := B60) (nt := 24) (K := K60) (by kernel_rfl) (by kernel_rfl) rfl (by kernel_rfl) (f60_top (argT [x0, x1]))
theorem O60 : EnvOK E60 := ⟨fun g xs => ok_fail, ap_fail⟩
theorem S60 (xs : List AV) : CallOK Go.Proofs.Tryz.prog 3 60 xs (L2 f60 xs) := ok_L2 (fun x0 x1 => ok_fn (E := E60) (fn := Go.Proofs.Tryz.f60) O60 rfl rfl (by kernel_rfl) (by kernel_rfl) (f60_eq x0 x1)) xs

/-! ### etui/iri.ahead: function 32 -/
noncomputable def C32 (g : FuncId) (xs : List AV) : M AV := bif Nat.beq g 60 then L2 f60 xs else fail
noncomputable def E32 : Env := ⟨Go.Proofs.Tryz.prog, 3, C32, fun _ _ => fail, fun i => bif Nat.beq i 4 then [0, 1, 2, 3, 4, 5, 6, 7] else [], 32, none⟩
noncomputable def B32 : Code := bodyOf Go.Proofs.Tryz.f32
noncomputable def K32 : KT := dK Go.Proofs.Tryz.prog Go.Proofs.Tryz.f32.results.toList
noncomputable def f32 (x0 x1 : AV) : M AV :=
 bd (f60 x0 x1) fun v1 =>
 bd (bi .lss v1 (.int .i64 0)) fun v2 =>
 cnd v2 (
 ret (.tuple [x0, (.str [])])) (
 bd (ret x0) fun v3 =>
 bd (ret v1) fun v4 =>
 bd (ss v3 none (some v4)) fun v5 =>
 bd (ret x0) fun v6 =>
 bd (ret v1) fun v7 =>
 bd (ss v6 (some v7) none) fun v8 =>
 bd (ret v5) fun v9 =>
 bd (ret v8) fun v10 =>
 ret (.tuple [v9, v10]))
theorem f32_eq (x0 x1 : AV) : dfn E32 Go.Proofs.Tryz.f32 [x0, x1] = f32 x0 x1 := dfn_eq (c := B32) (nt := 19) (K := K32) (by kernel_rfl) (by kernel_rfl) rfl (by kernel_rfl) (by kernel_rfl)
theorem O32 : EnvOK E32 := ⟨fun g xs => (ok_if (S60 xs) ok_fail), ap_fail⟩
theorem S32 (xs : List AV) : CallOK Go.Proofs.Tryz.prog 3 32 xs (L2 f32 xs) := ok_L2 (fun x0 x1 => ok_fn (E := E32) (fn := Go.Proofs.Tryz.f32) O32 rfl rfl (by kernel_rfl) (by kernel_rfl) (f32_eq x0 x1)) xs

/-! ### strings.indexFunc: function 97 -/
noncomputable def C97 (ap : FuncId → List AV → M AV) (g : FuncId) (xs : List AV) : M AV := fail
noncomputable def E97 (ap : FuncId → List AV → M AV) : Env := ⟨Go.Proofs.Tryz.prog, 3, C97 ap, ap, fun _ => [], 97, none⟩
noncomputable def B97 : Code := bodyOf Go.Proofs.Tryz.f97
noncomputable def K97 : KT := dK Go.Proofs.Tryz.prog Go.Proofs.Tryz.f97.results.toList
noncomputable def f97_1 (ap : FuncId → List AV → M AV) : M AV :=
 ret (.int .i64 (-1))
theorem f97_1_eq (ap : FuncId → List AV → M AV) (t : Tmps) : dcode (E97 ap) 21 (c2 (c2 B97)) t K97 = f97_1 ap := by kernel_rfl
noncomputable def f97_b3 (ap : FuncId → List AV → M AV) (L3 : AV → AV → AV → M AV) (x1 x2 x10 : AV) : M AV :=
 bd (nxs x10) fun v1 =>
 bd (ex v1 0) fun v2 =>
 cnd v2 (
 bd (ex v1 1) fun v3 =>
 bd (ex v1 2) fun v4 =>
 bd (apv ap x1 [v4]) fun v5 =>
 bd (be .b .eql v5 x2) fun v6 =>
 cnd v6 (
 ret v3) (
 L3 x1 x2 x10)) (
 f97_1 ap)
theorem f97_b3_eq (ap : FuncId → List AV → M AV) (L3 : AV → AV → AV → M AV) (t : Tmps) : dcode (E97 ap) 21 (c1 (c1 (c2 (c1 (c2 B97))))) t (kJ (fun t => L3 (t 1) (t 2) (t 10)) (kB 0 (kJ (fun t => f97_1 ap) K97))) = f97_b3 ap L3 (t 1) (t 2) (t 10) := by kernel_rfl
noncomputable def f97_l3 (ap : FuncId → List AV → M AV) : Nat → AV → AV → AV → M AV
  | 0, _, _, _ => fail
  | n + 1, x1, x2, x10 => f97_b3 ap (f97_l3 ap n) x1 x2 x10
theorem f97_l3_eq (ap : FuncId → List AV → M AV) (t : Tmps) : dcode (E97 ap) 21 (c1 (c2 (c1 (c2 B97)))) t (kB 0 (kJ (fun t => f97_1 ap) K97)) = f97_l3 ap fuel (t 1) (t 2) (t 10) :=
  dloop_eq (c := (c1 (c1 (c2 (c1 (c2 B97)))))) (g := fun n t => f97_l3 ap n (t 1) (t 2) (t 10)) (fun _ => rfl) (fun n t => f97_b3_eq ap (f97_l3 ap n) t)
noncomputable def f97_2 (ap : FuncId → List AV → M AV) (x1 x2 x10 : AV) : M AV :=
 f97_l3 ap fuel x1 x2 x10
theorem f97_2_eq (ap : FuncId → List AV → M AV) (t : Tmps) : dcode (E97 ap) 21 (c2 (c1 (c2 B97))) t (kJ (fun t => f97_1 ap) K97) = f97_2 ap (t 1) (t 2) (t 10) := (f97_l3_eq ap _)
noncomputable def f97_0 (ap : FuncId → List AV → M AV) (x0 x1 x2 : AV) : M AV :=
 bd (rgs x0) fun v1 =>
 f97_2 ap x1 x2 v1
theorem f97_0_eq (ap : FuncId → List AV → M AV) (t : Tmps) : dcode (E97 ap) 21 (c2 B97) t K97 = f97_0 ap (t 0) (t 1) (t 2) := (seq_eq (a := (c1 (c2 B97))) (b := (c2 (c2 B97))) (fun t => f97_1_eq ap t) (seq_eq (a := (c1 (c1 (c2 B97)))) (b := (c2 (c1 (c2 B97)))) (fun t => f97_2_eq ap t) (by kernel_rfl)))
noncomputable def f97 (ap : FuncId → List AV → M AV) (x0 x1 x2 : AV) : M AV :=
 f97_0 ap x0 x1 x2
theorem f97_top (ap : FuncId → List AV → M AV) (t : Tmps) : dcode (E97 ap) 21 B97 t K97 = f97 ap (t 0) (t 1) (t 2) := (seq_eq (a := (c1 B97)) (b := (c2 B97)) (fun t => f97_0_eq ap t) (by kernel_rfl))
theorem f97_eq (ap : FuncId → List AV → M AV) (x0 x1 x2 : AV) : dfn (E97 ap) Go.Proofs.Tryz.f97 [x0, x1, x2] = f97 ap x0 x1 x2 := dfn_eq (c := B97) (nt := 21) (K := K97) (by kernel_rfl) (by kernel_rfl) rfl (by kernel_rfl) (f97_top ap (argT [x0, x1, x2]))
theorem O97 (ap : FuncId → List AV → M AV) (hap : ApOK Go.Proofs.Tryz.prog 3 ap) : EnvOK (E97 ap) := ⟨fun g xs => ok_fail, hap⟩
theorem S97 (ap : FuncId → List AV → M AV) (hap : ApOK Go.Proofs.Tryz.prog 3 ap) (xs : List AV) : CallOK Go.Proofs.Tryz.prog 3 97 xs (L3 (f97 ap) xs) := ok_L3 (fun x0 x1 x2 => ok_fn (E := (E97 ap)) (fn := Go.Proofs.Tryz.f97) (O97 ap hap) rfl rfl (by kernel_rfl) (by kernel_rfl) (f97_eq ap x0 x1 x2)) xs

/-! ### strings.IndexFunc: function 81 -/
noncomputable def C81 (ap : FuncId → List AV → M AV) (g : FuncId) (xs : List AV) : M AV := bif Nat.beq g 97 then L3 (f97 ap) xs else fail
noncomputable def E81 (ap : FuncId → List AV → M AV) : Env := ⟨Go.Proofs.Tryz.prog, 3, C81 ap, ap, fun _ => [], 81, none⟩
noncomputable def B81 : Code := bodyOf Go.Proofs.Tryz.f81
noncomputable def K81 : KT := dK Go.Proofs.Tryz.prog Go.Proofs.Tryz.f81.results.toList
noncomputable def f81 (ap : FuncId → List AV → M AV) (x0 x1 : AV) : M AV :=
 bd (f97 ap x0 x1 (.bool true)) fun v1 =>
 ret v1
theorem f81_eq (ap : FuncId → List AV → M AV) (x0 x1 : AV) : dfn (E81 ap) Go.Proofs.Tryz.f81 [x0, x1] = f81 ap x0 x1 := dfn_eq (c := B81) (nt := 8) (K := K81) (by kernel_rfl) (by kernel_rfl) rfl (by kernel_rfl) (by kernel_rfl)
theorem O81 (ap : FuncId → List AV → M AV) (hap : ApOK Go.Proofs.Tryz.prog 3 ap) : EnvOK (E81 ap) := ⟨fun g xs => (ok_if (S97 ap hap xs) ok_fail), hap⟩
theorem S81 (ap : FuncId → List AV → M AV) (hap : ApOK Go.Proofs.Tryz.prog 3 ap) (xs : List AV) : CallOK Go.Proofs.Tryz.prog 3 81 xs (L2 (f81 ap) xs) := ok_L2 (fun x0 x1 => ok_fn (E := (E81 ap)) (fn := Go.Proofs.Tryz.f81) (O81 ap hap) rfl rfl (by kernel_rfl) (by kernel_rfl) (f81_eq ap x0 x1)) xs

/-! ### strings.ContainsFunc: function 63 -/
noncomputable def C63 (ap : FuncId → List AV → M AV) (g : FuncId) (xs : List AV) : M AV := bif Nat.beq g 81 then L2 (f81 ap) xs else fail
noncomputable def E63 (ap : FuncId → List AV → M AV) : Env := ⟨Go.Proofs.Tryz.prog, 3, C63 ap, ap, fun _ => [], 63, none⟩
noncomputable def B63 : Code := bodyOf Go.Proofs.Tryz.f63
noncomputable def K63 : KT := dK Go.Proofs.Tryz.prog Go.Proofs.Tryz.f63.results.toList
noncomputable def f63 (ap : FuncId → List AV → M AV) (x0 x1 : AV) : M AV :=
 bd (f81 ap x0 x1) fun v1 =>
 bd (bi .geq v1 (.int .i64 0)) fun v2 =>
 ret v2
theorem f63_eq (ap : FuncId → List AV → M AV) (x0 x1 : AV) : dfn (E63 ap) Go.Proofs.Tryz.f63 [x0, x1] = f63 ap x0 x1 := dfn_eq (c := B63) (nt := 9) (K := K63) (by kernel_rfl) (by kernel_rfl) rfl (by kernel_rfl) (by kernel_rfl)
theorem O63 (ap : FuncId → List AV → M AV) (hap : ApOK Go.Proofs.Tryz.prog 3 ap) : EnvOK (E63 ap) := ⟨fun g xs => (ok_if (S81 ap hap xs) ok_fail), hap⟩
theorem S63 (ap : FuncId → List AV → M AV) (hap : ApOK Go.Proofs.Tryz.prog 3 ap) (xs : List AV) : CallOK Go.Proofs.Tryz.prog 3 63 xs (L2 (f63 ap) xs) := ok_L2 (fun x0 x1 => ok_fn (E := (E63 ap)) (fn := Go.Proofs.Tryz.f63) (O63 ap hap) rfl rfl (by kernel_rfl) (by kernel_rfl) (f63_eq ap x0 x1)) xs

/-! ### etui/iri.scheme: function 33 -/
noncomputable def C33 (ap : FuncId → List AV → M AV) (g : FuncId) (xs : List AV) : M AV := bif Nat.beq g 63 then L2 (f63 ap) xs else fail
noncomputable def E33 (ap : FuncId → List AV → M AV) : Env := ⟨Go.Proofs.Tryz.prog, 3, C33 ap, ap, fun i => bif Nat.beq i 3 then [0, 1, 2, 3, 4, 5, 6, 7, 8, 9, 10, 11, 12, 13, 14, 15] else [], 33, none⟩
noncomputable def B33 : Code := bodyOf Go.Proofs.Tryz.f33
noncomputable def K33 : KT := dK Go.Proofs.Tryz.prog Go.Proofs.Tryz.f33.results.toList
noncomputable def f33 (ap : FuncId → List AV → M AV) (x0 : AV) : M AV :=
 bd (bx 85 .nilFunc) fun v1 =>
 bd (st v1 (.func 61 [] [])) fun _ =>
 bd (ret (.func 62 [] [v1])) fun v2 =>
 bd (ret x0) fun v3 =>
 bd (bi .neq v3 (.str [])) fun v4 =>
 bd (ret v4) fun v5 =>
 bd (gd v5 true (ld v1)) fun v6 =>
 bd (gd v5 true (ret x0)) fun v7 =>
 bd (gd v5 true (ixs v7 (.int .i64 0))) fun v8 =>
 bd (gd v5 true (ci .i32 v8)) fun v9 =>
 bd (gd v5 true (apv ap v6 [v9])) fun v10 =>
 bd (pk v5 v10 (.bool false)) fun v11 =>
 bd (ret v11) fun v12 =>
 bd (gd v12 true (ret x0)) fun v13 =>
 bd (gd v12 true (ret v2)) fun v14 =>
 bd (gd v12 true (f63 ap v13 v14)) fun v15 =>
 bd (gd v12 true (un .not v15)) fun v16 =>
 bd (pk v12 v16 (.bool false)) fun v17 =>
 bd (ret v17) fun v18 =>
 ret v18
theorem f33_eq (ap : FuncId → List AV → M AV) (x0 : AV) : dfn (E33 ap) Go.Proofs.Tryz.f33 [x0] = f33 ap x0 := dfn_eq (c := B33) (nt := 21) (K := K33) (by kernel_rfl) (by kernel_rfl) rfl (by kernel_rfl) (by kernel_rfl)
theorem O33 (ap : FuncId → List AV → M AV) (hap : ApOK Go.Proofs.Tryz.prog 3 ap) : EnvOK (E33 ap) := ⟨fun g xs => (ok_if (S63 ap hap xs) ok_fail), hap⟩
theorem S33 (ap : FuncId → List AV → M AV) (hap : ApOK Go.Proofs.Tryz.prog 3 ap) (xs : List AV) : CallOK Go.Proofs.Tryz.prog 3 33 xs (L1 (f33 ap) xs) := ok_L1 (fun x0 => ok_fn (E := (E33 ap)) (fn := Go.Proofs.Tryz.f33) (O33 ap hap) rfl rfl (by kernel_rfl) (by kernel_rfl) (f33_eq ap x0)) xs

/-! ### internal/stringslite.CutPrefix: function 64 -/
noncomputable def C64 (g : FuncId) (xs : List AV) : M AV := bif Nat.beq g 38 then L2 f38 xs else fail
noncomputable def E64 : Env := ⟨Go.Proofs.Tryz.prog, 3, C64, fun _ _ => fail, fun _ => [], 64, none⟩
noncomputable def B64 : Code := bodyOf Go.Proofs.Tryz.f64
noncomputable def K64 : KT := dK Go.Proofs.Tryz.prog Go.Proofs.Tryz.f64.results.toList
noncomputable def f64 (x0 x1 : AV) : M AV :=
 bd (f38 x0 x1) fun v1 =>
 bd (un .not v1) fun v2 =>
 cnd v2 (
 ret (.tuple [x0, (.bool false)])) (
 bd (lnS x1) fun v3 =>
 bd (ss x0 (some v3) none) fun v4 =>
 ret (.tuple [v4, (.bool true)]))
theorem f64_eq (x0 x1 : AV) : dfn E64 Go.Proofs.Tryz.f64 [x0, x1] = f64 x0 x1 := dfn_eq (c := B64) (nt := 15) (K := K64) (by kernel_rfl) (by kernel_rfl) rfl (by kernel_rfl) (by kernel_rfl)
theorem O64 : EnvOK E64 := ⟨fun g xs => (ok_if (S38 xs) ok_fail), ap_fail⟩
theorem S64 (xs : List AV) : CallOK Go.Proofs.Tryz.prog 3 64 xs (L2 f64 xs) := ok_L2 (fun x0 x1 => ok_fn (E := E64) (fn := Go.Proofs.Tryz.f64) O64 rfl rfl (by kernel_rfl) (by kernel_rfl) (f64_eq x0 x1)) xs

/-! ### strings.CutPrefix: function 34 -/
noncomputable def C34 (g : FuncId) (xs : List AV) : M AV := bif Nat.beq g 64 then L2 f64 xs else fail
noncomputable def E34 : Env := ⟨Go.Proofs.Tryz.prog, 3, C34, fun _ _ => fail, fun _ => [], 34, none⟩
noncomputable def B34 : Code := bodyOf Go.Proofs.Tryz.f34
noncomputable def K34 : KT := dK Go.Proofs.Tryz.prog Go.Proofs.Tryz.f34.results.toList
noncomputable def f34 (x0 x1 : AV) : M AV :=
 bd (f64 x0 x1) fun v1 =>
 bd (ex v1 0) fun v2 =>
 bd (ex v1 1) fun v3 =>
 ret (.tuple [v2, v3])
theorem f34_eq (x0 x1 : AV) : dfn E34 Go.Proofs.Tryz.f34 [x0, x1] = f34 x0 x1 := dfn_eq (c := B34) (nt := 11) (K := K34) (by kernel_rfl) (by kernel_rfl) rfl (by kernel_rfl) (by kernel_rfl)
theorem O34 : EnvOK E34 := ⟨fun g xs => (ok_if (S64 xs) ok_fail), ap_fail⟩
theorem S34 (xs : List AV) : CallOK Go.Proofs.Tryz.prog 3 34 xs (L2 f34 xs) := ok_L2 (fun x0 x1 => ok_fn (E := E34) (fn := Go.Proofs.Tryz.f34) O34 rfl rfl (by kernel_rfl) (by kernel_rfl) (f34_eq x0 x1)) xs

/-! ### etui/iri.Cut: function 12 -/
noncomputable def C12 (ap : FuncId → List AV → M AV) (g : FuncId) (xs : List AV) : M AV := bif Nat.beq g 14 then L2 f14 xs else bif Nat.beq g 26 then L2 f26 xs else bif Nat.beq g 31 then L1 f31 xs else bif Nat.beq g 32 then L2 f32 xs else bif Nat.beq g 33 then L1 (f33 ap) xs else bif Nat.beq g 34 then L2 f34 xs else fail
noncomputable def E12 (ap : FuncId → List AV → M AV) : Env := ⟨Go.Proofs.Tryz.prog, 3, C12 ap, ap, fun i => bif Nat.beq i 5 then [0, 1, 2, 3, 4, 5, 6, 7] else [], 12, none⟩
noncomputable def B12 : Code := bodyOf Go.Proofs.Tryz.f12
noncomputable def K12 : KT := dK Go.Proofs.Tryz.prog Go.Proofs.Tryz.f12.results.toList
noncomputable def f12_3 (ap : FuncId → List AV → M AV) (x0 x2 : AV) : M AV :=
 bd (f26 x0 (.str [35])) fun v1 =>
 bd (ex v1 0) fun v2 =>
 bd (ex v1 1) fun v3 =>
 bd (ex v1 2) fun v4 =>
 bd (fa x2 4) fun v5 =>
 bd (st v5 v3) fun _ =>
 bd (fa x2 8) fun v6 =>
 bd (st v6 v4) fun _ =>
 bd (f26 v2 (.str [63])) fun v7 =>
 bd (ex v7 0) fun v8 =>
 bd (ex v7 1) fun v9 =>
 bd (ex v7 2) fun v10 =>
 bd (fa x2 2) fun v11 =>
 bd (st v11 v8) fun _ =>
 bd (fa x2 3) fun v12 =>
 bd (st v12 v9) fun _ =>
 bd (fa x2 7) fun v13 =>
 bd (st v13 v10) fun _ =>
 bd (lda 9 x2) fun v14 =>
 bd (sta 9 x2 v14) fun _ =>
 bd (lda 9 x2) fun v15 => ret (.tuple [v15, (.bool true)])
theorem f12_3_eq (ap : FuncId → List AV → M AV) (t : Tmps) : dcode (E12 ap) 59 (c2 (c2 (c2 (c2 B12)))) t K12 = f12_3 ap (t 0) (t 2) := by kernel_rfl
noncomputable def f12_2 (ap : FuncId → List AV → M AV) (x0 x2 : AV) : M AV :=
 bd (f34 x0 (.str [47, 47])) fun v1 =>
 bd (ex v1 0) fun v2 =>
 bd (ex v1 1) fun v3 =>
 cnd v3 (
 bd (fa x2 6) fun v4 =>
 bd (st v4 (.bool true)) fun _ =>
 bd (f32 v2 (.str [47, 63, 35])) fun v5 =>
 bd (ex v5 0) fun v6 =>
 bd (ex v5 1) fun v7 =>
 bd (fa x2 1) fun v8 =>
 bd (st v8 v6) fun _ =>
 f12_3 ap v7 x2) (
 f12_3 ap x0 x2)
theorem f12_2_eq (ap : FuncId → List AV → M AV) (t : Tmps) : dcode (E12 ap) 59 (c2 (c2 (c2 B12))) t K12 = f12_2 ap (t 0) (t 2) := (seq_eq (a := (c1 (c2 (c2 (c2 B12))))) (b := (c2 (c2 (c2 (c2 B12))))) (fun t => f12_3_eq ap t) (by kernel_rfl))
noncomputable def f12_1 (ap : FuncId → List AV → M AV) (x0 x2 : AV) : M AV :=
 bd (f32 x0 (.str [58, 47, 63, 35])) fun v1 =>
 bd (ex v1 0) fun v2 =>
 bd (ex v1 1) fun v3 =>
 bd (f14 v3 (.str [58])) fun v4 =>
 bd (gd v4 true (ret v2)) fun v5 =>
 bd (gd v4 true (f33 ap v5)) fun v6 =>
 bd (pk v4 v6 (.bool false)) fun v7 =>
 cnd v7 (
 bd (ret v2) fun v8 =>
 bd (ret v3) fun v9 =>
 bd (ss v9 (some (.int .i64 1)) none) fun v10 =>
 bd (fa x2 5) fun v11 =>
 bd (st v11 (.bool true)) fun v12 =>
 bd (fa x2 0) fun v13 =>
 bd (st v13 v8) fun v14 =>
 bd (ret v10) fun v15 =>
 f12_2 ap v15 x2) (
 f12_2 ap x0 x2)
theorem f12_1_eq (ap : FuncId → List AV → M AV) (t : Tmps) : dcode (E12 ap) 59 (c2 (c2 B12)) t K12 = f12_1 ap (t 0) (t 2) := (seq_eq (a := (c1 (c2 (c2 B12)))) (b := (c2 (c2 (c2 B12)))) (fun t => f12_2_eq ap t) (by kernel_rfl))
noncomputable def f12_0 (ap : FuncId → List AV → M AV) (x0 x2 : AV) : M AV :=
 bd (f31 x0) fun v1 =>
 bd (un .not v1) fun v2 =>
 cnd v2 (
 bd (bu [(.str []), (.str []), (.str []), (.str []), (.str []), (.bool false), (.bool false), (.bool false), (.bool false)] []) fun v3 =>
 bd (sta 9 x2 v3) fun _ =>
 bd (lda 9 x2) fun v4 => ret (.tuple [v4, (.bool false)])) (
 f12_1 ap x0 x2)
theorem f12_0_eq (ap : FuncId → List AV → M AV) (t : Tmps) : dcode (E12 ap) 59 (c2 B12) t K12 = f12_0 ap (t 0) (t 2) := (seq_eq (a := (c1 (c2 B12))) (b := (c2 (c2 B12))) (fun t => f12_1_eq ap t) (by kernel_rfl))
noncomputable def f12 (ap : FuncId → List AV → M AV) (x0 : AV) : M AV :=
 bd (bx 24 (.agg [(.str []), (.str []), (.str []), (.str []), (.str []), (.bool false), (.bool false), (.bool false), (.bool false)])) fun v1 =>
 f12_0 ap x0 v1
theorem f12_top (ap : FuncId → List AV → M AV) (t : Tmps) : dcode (E12 ap) 59 B12 t K12 = f12 ap (t 0) := (seq_eq (a := (c1 B12)) (b := (c2 B12)) (fun t => f12_0_eq ap t) (by kernel_rfl))
theorem f12_eq (ap : FuncId → List AV → M AV) (x0 : AV) : dfn (E12 ap) Go.Proofs.Tryz.f12 [x0] = f12 ap x0 := dfn_eq (c := B12) (nt := 59) (K := K12) (by kernel_rfl) (by kernel_rfl) rfl (by kernel_rfl) (f12_top ap (argT [x0]))
theorem O12 (ap : FuncId → List AV → M AV) (hap : ApOK Go.Proofs.Tryz.prog 3 ap) : EnvOK (E12 ap) := ⟨fun g xs => (ok_if (S14 xs) (ok_if (S26 xs) (ok_if (S31 xs) (ok_if (S32 xs) (ok_if (S33 ap hap xs) (ok_if (S34 xs) ok_fail)))))), hap⟩
theorem S12 (ap : FuncId → List AV → M AV) (hap : ApOK Go.Proofs.Tryz.prog 3 ap) (xs : List AV) : CallOK Go.Proofs.Tryz.prog 3 12 xs (L1 (f12 ap) xs) := ok_L1 (fun x0 => ok_fn (E := (E12 ap)) (fn := Go.Proofs.Tryz.f12) (O12 ap hap) rfl rfl (by kernel_rfl) (by kernel_rfl) (f12_eq ap x0)) xs

/-! ### internal/bytealg.LastIndexByteString: function 66 -/
noncomputable def C66 (g : FuncId) (xs : List AV) : M AV := fail
noncomputable def E66 : Env := ⟨Go.Proofs.Tryz.prog, 3, C66, fun _ _ => fail, fun _ => [], 66, none⟩
noncomputable def B66 : Code := bodyOf Go.Proofs.Tryz.f66
noncomputable def K66 : KT := dK Go.Proofs.Tryz.prog Go.Proofs.Tryz.f66.results.toList
noncomputable def f66_1 : M AV :=
 ret (.int .i64 (-1))
theorem f66_1_eq (t : Tmps) : dcode E66 19 (c2 (c2 B66)) t K66 = f66_1 := by kernel_rfl
noncomputable def f66_b3 (L3 : AV → AV → AV → M AV) (x0 x1 x5 : AV) : M AV :=
 bd (bi .geq x5 (.int .i64 0)) fun v1 =>
 cnd v1 (
 bd (ixs x0 x5) fun v2 =>
 bd (bi .eql v2 x1) fun v3 =>
 cnd v3 (
 ret x5) (
 bd (bi .sub x5 (.int .i64 1)) fun v4 =>
 L3 x0 x1 v4)) (
 f66_1)
theorem f66_b3_eq (L3 : AV → AV → AV → M AV) (t : Tmps) : dcode E66 19 (c1 (c1 (c2 (c1 (c2 B66))))) t (kJ (fun t => L3 (t 0) (t 1) (t 5)) (kB 0 (kJ (fun t => f66_1) K66))) = f66_b3 L3 (t 0) (t 1) (t 5) := by kernel_rfl
noncomputable def f66_l3 : Nat → AV → AV → AV → M AV
  | 0, _, _, _ => fail
  | n + 1, x0, x1, x5 => f66_b3 (f66_l3 n) x0 x1 x5
theorem f66_l3_eq (t : Tmps) : dcode E66 19 (c1 (c2 (c1 (c2 B66)))) t (kB 0 (kJ (fun t => f66_1) K66)) = f66_l3 fuel (t 0) (t 1) (t 5) :=
  dloop_eq (c := (c1 (c1 (c2 (c1 (c2 B66)))))) (g := fun n t => f66_l3 n (t 0) (t 1) (t 5)) (fun _ => rfl) (fun n t => f66_b3_eq (f66_l3 n) t)
noncomputable def f66_2 (x0 x1 x5 : AV) : M AV :=
 f66_l3 fuel x0 x1 x5
theorem f66_2_eq (t : Tmps) : dcode E66 19 (c2 (c1 (c2 B66))) t (kJ (fun t => f66_1) K66) = f66_2 (t 0) (t 1) (t 5) := (f66_l3_eq _)
noncomputable def f66_0 (x0 x1 : AV) : M AV :=
 bd (lnS x0) fun v1 =>
 bd (bi .sub v1 (.int .i64 1)) fun v2 =>
 f66_2 x0 x1 v2
theorem f66_0_eq (t : Tmps) : dcode E66 19 (c2 B66) t K66 = f66_0 (t 0) (t 1) := (seq_eq (a := (c1 (c2 B66))) (b := (c2 (c2 B66))) (fun t => f66_1_eq t) (seq_eq (a := (c1 (c1 (c2 B66)))) (b := (c2 (c1 (c2 B66)))) (fun t => f66_2_eq t) (by kernel_rfl)))
noncomputable def f66 (x0 x1 : AV) : M AV :=
 f66_0 x0 x1
theorem f66_top (t : Tmps) : dcode E66 19 B66 t K66 = f66 (t 0) (t 1) := (seq_eq (a := (c1 B66)) (b := (c2 B66)) (fun t => f66_0_eq t) (by kernel_rfl))
theorem f66_eq (x0 x1 : AV) : dfn E66 Go.Proofs.Tryz.f66 [x0, x1] = f66 x0 x1 := dfn_eq (c := B66) (nt := 19) (K := K66) (by kernel_rfl) (by kernel_rfl) rfl (by kernel_rfl) (f66_top (argT [x0, x1]))
theorem O66 : EnvOK E66 := ⟨fun g xs => ok_fail, ap_fail⟩
theorem S66 (xs : List AV) : CallOK Go.Proofs.Tryz.prog 3 66 xs (L2 f66 xs) := ok_L2 (fun x0 x1 => ok_fn (E := E66) (fn := Go.Proofs.Tryz.f66) O66 rfl rfl (by kernel_rfl) (by kernel_rfl) (f66_eq x0 x1)) xs

/-! ### strings.LastIndexByte: function 39 -/
noncomputable def C39 (g : FuncId) (xs : List AV) : M AV := bif Nat.beq g 66 then L2 f66 xs else fail
noncomputable def E39 : Env := ⟨Go.Proofs.Tryz.prog, 3, C39, fun _ _ => fail, fun _ => [], 39, none⟩
noncomputable def B39 : Code := bodyOf Go.Proofs.Tryz.f39
noncomputable def K39 : KT := dK Go.Proofs.Tryz.prog Go.Proofs.Tryz.f39.results.toList
noncomputable def f39 (x0 x1 : AV) : M AV :=
 bd (f66 x0 x1) fun v1 =>
 ret v1
theorem f39_eq (x0 x1 : AV) : dfn E39 Go.Proofs.Tryz.f39 [x0, x1] = f39 x0 x1 := dfn_eq (c := B39) (nt := 8) (K := K39) (by kernel_rfl) (by kernel_rfl) rfl (by kernel_rfl) (by kernel_rfl)
theorem O39 : EnvOK E39 := ⟨fun g xs => (ok_if (S66 xs) ok_fail), ap_fail⟩
theorem S39 (xs : List AV) : CallOK Go.Proofs.Tryz.prog 3 39 xs (L2 f39 xs) := ok_L2 (fun x0 x1 => ok_fn (E := E39) (fn := Go.Proofs.Tryz.f39) O39 rfl rfl (by kernel_rfl) (by kernel_rfl) (f39_eq x0 x1)) xs

/-! ### etui/pname.Split: function 15 -/
noncomputable def C15 (g : FuncId) (xs : List AV) : M AV := bif Nat.beq g 39 then L2 f39 xs else fail
noncomputable def E15 : Env := ⟨Go.Proofs.Tryz.prog, 3, C15, fun _ _ => fail, fun i => bif Nat.beq i 2 then [0, 1, 2, 3, 4, 5, 6, 7] else [], 15, none⟩
noncomputable def B15 : Code := bodyOf Go.Proofs.Tryz.f15
noncomputable def K15 : KT := dK Go.Proofs.Tryz.prog Go.Proofs.Tryz.f15.results.toList
noncomputable def f15 (x0 : AV) : M AV :=
 bd (f39 x0 (.int .u8 47)) fun v1 =>
 bd (bi .add v1 (.int .i64 1)) fun v2 =>
 bd (ret x0) fun v3 =>
 bd (ret v2) fun v4 =>
 bd (ss v3 none (some v4)) fun v5 =>
 bd (ret x0) fun v6 =>
 bd (ret v2) fun v7 =>
 bd (ss v6 (some v7) none) fun v8 =>
 bd (ret v5) fun v9 =>
 bd (ret v8) fun v10 =>
 ret (.tuple [v9, v10])
theorem f15_eq (x0 : AV) : dfn E15 Go.Proofs.Tryz.f15 [x0] = f15 x0 := dfn_eq (c := B15) (nt := 14) (K := K15) (by kernel_rfl) (by kernel_rfl) rfl (by kernel_rfl) (by kernel_rfl)
theorem O15 : EnvOK E15 := ⟨fun g xs => (ok_if (S39 xs) ok_fail), ap_fail⟩
theorem S15 (xs : List AV) : CallOK Go.Proofs.Tryz.prog 3 15 xs (L1 f15 xs) := ok_L1 (fun x0 => ok_fn (E := E15) (fn := Go.Proofs.Tryz.f15) O15 rfl rfl (by kernel_rfl) (by kernel_rfl) (f15_eq x0)) xs

/-! ### strings.Index: function 57 -/
noncomputable def C57 (g : FuncId) (xs : List AV) : M AV := bif Nat.beq g 79 then L2 (nIndex 0) xs else fail
noncomputable def E57 : Env := ⟨Go.Proofs.Tryz.prog, 3, C57, fun _ _ => fail, fun _ => [], 57, none⟩
noncomputable def B57 : Code := bodyOf Go.Proofs.Tryz.f57
noncomputable def K57 : KT := dK Go.Proofs.Tryz.prog Go.Proofs.Tryz.f57.results.toList
noncomputable def f57 (x0 x1 : AV) : M AV :=
 bd ((nIndex 0) x0 x1) fun v1 =>
 ret v1
theorem f57_eq (x0 x1 : AV) : dfn E57 Go.Proofs.Tryz.f57 [x0, x1] = f57 x0 x1 := dfn_eq (c := B57) (nt := 8) (K := K57) (by kernel_rfl) (by kernel_rfl) rfl (by kernel_rfl) (by kernel_rfl)
theorem O57 : EnvOK E57 := ⟨fun g xs => (ok_if (N79 xs) ok_fail), ap_fail⟩
theorem S57 (xs : List AV) : CallOK Go.Proofs.Tryz.prog 3 57 xs (L2 f57 xs) := ok_L2 (fun x0 x1 => ok_fn (E := E57) (fn := Go.Proofs.Tryz.f57) O57 rfl rfl (by kernel_rfl) (by kernel_rfl) (f57_eq x0 x1)) xs

/-! ### unicode/utf8.decodeRuneInStringSlow: function 99 -/
noncomputable def C99 (g : FuncId) (xs : List AV) : M AV := fail
noncomputable def E99 : Env := ⟨Go.Proofs.Tryz.prog, 3, C99, fun _ _ => fail, fun _ => [], 99, none⟩
noncomputable def B99 : Code := bodyOf Go.Proofs.Tryz.f99
noncomputable def K99 : KT := dK Go.Proofs.Tryz.prog Go.Proofs.Tryz.f99.results.toList
noncomputable def f99 (x0 : AV) : M AV :=
 bd (lnS x0) fun v1 =>
 bd (bi .lss v1 (.int .i64 1)) fun v2 =>
 cnd v2 (
 ret (.tuple [(.int .i32 65533), (.int .i64 0)])) (
 bd (ixs x0 (.int .i64 0)) fun v3 =>
 bd (ixpa 1 256 (.ptr (some (1, 0))) v3) fun v4 =>
 bd (ld v4) fun v5 =>
 bd (bi .geq v5 (.int .u8 240)) fun v6 =>
 cnd v6 (
 bd (ci .i32 v5) fun v7 =>
 bd (bi .shl v7 (.int .u64 31)) fun v8 =>
 bd (bi .shr v8 (.int .u64 31)) fun v9 =>
 bd (ixs x0 (.int .i64 0)) fun v10 =>
 bd (ci .i32 v10) fun v11 =>
 bd (bi .andNot v11 v9) fun v12 =>
 bd (bi .and (.int .i32 65533) v9) fun v13 =>
 bd (bi .or v12 v13) fun v14 =>
 ret (.tuple [v14, (.int .i64 1)])) (
 bd (bi .and v5 (.int .u8 7)) fun v15 =>
 bd (ci .i64 v15) fun v16 =>
 bd (bi .shr v5 (.int .u64 4)) fun v17 =>
 bd (ixpa 2 16 (.ptr (some (2, 0))) v17) fun v18 =>
 bd (lda 2 v18) fun v19 =>
 bd (bx 114 (.agg [(.int .u8 0), (.int .u8 0)])) fun v20 =>
 bd (sta 2 v20 v19) fun _ =>
 bd (bi .lss v1 v16) fun v21 =>
 cnd v21 (
 ret (.tuple [(.int .i32 65533), (.int .i64 1)])) (
 bd (ixs x0 (.int .i64 1)) fun v22 =>
 bd (fa v20 0) fun v23 =>
 bd (ld v23) fun v24 =>
 bd (bi .lss v22 v24) fun v25 =>
 bd (gd v25 false (fa v20 1)) fun v26 =>
 bd (gd v25 false (ld v26)) fun v27 =>
 bd (gd v25 false (ret v22)) fun v28 =>
 bd (gd v25 false (bi .lss v27 v28)) fun v29 =>
 bd (pk v25 (.bool true) v29) fun v30 =>
 cnd v30 (
 ret (.tuple [(.int .i32 65533), (.int .i64 1)])) (
 bd (bi .leq v16 (.int .i64 2)) fun v31 =>
 cnd v31 (
 bd (bi .and v3 (.int .u8 31)) fun v32 =>
 bd (ci .i32 v32) fun v33 =>
 bd (bi .shl v33 (.int .u64 6)) fun v34 =>
 bd (bi .and v22 (.int .u8 63)) fun v35 =>
 bd (ci .i32 v35) fun v36 =>
 bd (bi .or v34 v36) fun v37 =>
 ret (.tuple [v37, (.int .i64 2)])) (
 bd (ixs x0 (.int .i64 2)) fun v38 =>
 bd (bi .lss v38 (.int .u8 128)) fun v39 =>
 bd (gd v39 false (ret v38)) fun v40 =>
 bd (gd v39 false (bi .lss (.int .u8 191) v40)) fun v41 =>
 bd (pk v39 (.bool true) v41) fun v42 =>
 cnd v42 (
 ret (.tuple [(.int .i32 65533), (.int .i64 1)])) (
 bd (bi .leq v16 (.int .i64 3)) fun v43 =>
 cnd v43 (
 bd (bi .and v3 (.int .u8 15)) fun v44 =>
 bd (ci .i32 v44) fun v45 =>
 bd (bi .shl v45 (.int .u64 12)) fun v46 =>
 bd (bi .and v22 (.int .u8 63)) fun v47 =>
 bd (ci .i32 v47) fun v48 =>
 bd (bi .shl v48 (.int .u64 6)) fun v49 =>
 bd (bi .or v46 v49) fun v50 =>
 bd (bi .and v38 (.int .u8 63)) fun v51 =>
 bd (ci .i32 v51) fun v52 =>
 bd (bi .or v50 v52) fun v53 =>
 ret (.tuple [v53, (.int .i64 3)])) (
 bd (ixs x0 (.int .i64 3)) fun v54 =>
 bd (bi .lss v54 (.int .u8 128)) fun v55 =>
 bd (gd v55 false (ret v54)) fun v56 =>
 bd (gd v55 false (bi .lss (.int .u8 191) v56)) fun v57 =>
 bd (pk v55 (.bool true) v57) fun v58 =>
 cnd v58 (
 ret (.tuple [(.int .i32 65533), (.int .i64 1)])) (
 bd (bi .and v3 (.int .u8 7)) fun v59 =>
 bd (ci .i32 v59) fun v60 =>
 bd (bi .shl v60 (.int .u64 18)) fun v61 =>
 bd (bi .and v22 (.int .u8 63)) fun v62 =>
 bd (ci .i32 v62) fun v63 =>
 bd (bi .shl v63 (.int .u64 12)) fun v64 =>
 bd (bi .or v61 v64) fun v65 =>
 bd (bi .and v38 (.int .u8 63)) fun v66 =>
 bd (ci .i32 v66) fun v67 =>
 bd (bi .shl v67 (.int .u64 6)) fun v68 =>
 bd (bi .or v65 v68) fun v69 =>
 bd (bi .and v54 (.int .u8 63)) fun v70 =>
 bd (ci .i32 v70) fun v71 =>
 bd (bi .or v69 v71) fun v72 =>
 ret (.tuple [v72, (.int .i64 4)])))))))))
theorem f99_eq (x0 : AV) : dfn E99 Go.Proofs.Tryz.f99 [x0] = f99 x0 := dfn_eq (c := B99) (nt := 117) (K := K99) (by kernel_rfl) (by kernel_rfl) rfl (by kernel_rfl) (by kernel_rfl)
theorem O99 : EnvOK E99 := ⟨fun g xs => ok_fail, ap_fail⟩
theorem S99 (xs : List AV) : CallOK Go.Proofs.Tryz.prog 3 99 xs (L1 f99 xs) := ok_L1 (fun x0 => ok_fn (E := E99) (fn := Go.Proofs.Tryz.f99) O99 rfl rfl (by kernel_rfl) (by kernel_rfl) (f99_eq x0)) xs

/-! ### unicode/utf8.DecodeRuneInString: function 85 -/
noncomputable def C85 (g : FuncId) (xs : List AV) : M AV := bif Nat.beq g 99 then L1 f99 xs else fail
noncomputable def E85 : Env := ⟨Go.Proofs.Tryz.prog, 3, C85, fun _ _ => fail, fun _ => [], 85, none⟩
noncomputable def B85 : Code := bodyOf Go.Proofs.Tryz.f85
noncomputable def K85 : KT := dK Go.Proofs.Tryz.prog Go.Proofs.Tryz.f85.results.toList
noncomputable def f85 (x0 : AV) : M AV :=
 bd (bi .neq x0 (.str [])) fun v1 =>
 bd (gd v1 true (ret x0)) fun v2 =>
 bd (gd v1 true (ixs v2 (.int .i64 0))) fun v3 =>
 bd (gd v1 true (bi .lss v3 (.int .u8 128))) fun v4 =>
 bd (pk v1 v4 (.bool false)) fun v5 =>
 cnd v5 (
 bd (ixs x0 (.int .i64 0)) fun v6 =>
 bd (ci .i32 v6) fun v7 =>
 ret (.tuple [v7, (.int .i64 1)])) (
 bd (f99 x0) fun v8 =>
 bd (ex v8 0) fun v9 =>
 bd (ex v8 1) fun v10 =>
 ret (.tuple [v9, v10]))
theorem f85_eq (x0 : AV) : dfn E85 Go.Proofs.Tryz.f85 [x0] = f85 x0 := dfn_eq (c := B85) (nt := 19) (K := K85) (by kernel_rfl) (by kernel_rfl) rfl (by kernel_rfl) (by kernel_rfl)
theorem O85 : EnvOK E85 := ⟨fun g xs => (ok_if (S99 xs) ok_fail), ap_fail⟩
theorem S85 (xs : List AV) : CallOK Go.Proofs.Tryz.prog 3 85 xs (L1 f85 xs) := ok_L1 (fun x0 => ok_fn (E := E85) (fn := Go.Proofs.Tryz.f85) O85 rfl rfl (by kernel_rfl) (by kernel_rfl) (f85_eq x0)) xs

/-! ### unicode/utf8.RuneCountInString: function 87 -/
noncomputable def C87 (g : FuncId) (xs : List AV) : M AV := fail
noncomputable def E87 : Env := ⟨Go.Proofs.Tryz.prog, 3, C87, fun _ _ => fail, fun _ => [], 87, none⟩
noncomputable def B87 : Code := bodyOf Go.Proofs.Tryz.f87
noncomputable def K87 : KT := dK Go.Proofs.Tryz.prog Go.Proofs.Tryz.f87.results.toList
noncomputable def f87_1 (x2 : AV) : M AV :=
 ret x2
theorem f87_1_eq (t : Tmps) : dcode E87 10 (c2 (c2 B87)) t K87 = f87_1 (t 2) := by kernel_rfl
noncomputable def f87_b3 (L3 : AV → AV → M AV) (x2 x4 : AV) : M AV :=
 bd (nxs x4) fun v1 =>
 bd (ex v1 0) fun v2 =>
 cnd v2 (
 bd (bi .add x2 (.int .i64 1)) fun v3 =>
 L3 v3 x4) (
 f87_1 x2)
theorem f87_b3_eq (L3 : AV → AV → M AV) (t : Tmps) : dcode E87 10 (c1 (c1 (c2 (c1 (c2 B87))))) t (kJ (fun t => L3 (t 2) (t 4)) (kB 0 (kJ (fun t => f87_1 (t 2)) K87))) = f87_b3 L3 (t 2) (t 4) := by kernel_rfl
noncomputable def f87_l3 : Nat → AV → AV → M AV
  | 0, _, _ => fail
  | n + 1, x2, x4 => f87_b3 (f87_l3 n) x2 x4
theorem f87_l3_eq (t : Tmps) : dcode E87 10 (c1 (c2 (c1 (c2 B87)))) t (kB 0 (kJ (fun t => f87_1 (t 2)) K87)) = f87_l3 fuel (t 2) (t 4) :=
  dloop_eq (c := (c1 (c1 (c2 (c1 (c2 B87)))))) (g := fun n t => f87_l3 n (t 2) (t 4)) (fun _ => rfl) (fun n t => f87_b3_eq (f87_l3 n) t)
noncomputable def f87_2 (x2 x4 : AV) : M AV :=
 f87_l3 fuel x2 x4
theorem f87_2_eq (t : Tmps) : dcode E87 10 (c2 (c1 (c2 B87))) t (kJ (fun t => f87_1 (t 2)) K87) = f87_2 (t 2) (t 4) := (f87_l3_eq _)
noncomputable def f87_0 (x0 x2 : AV) : M AV :=
 bd (rgs x0) fun v1 =>
 f87_2 x2 v1
theorem f87_0_eq (t : Tmps) : dcode E87 10 (c2 B87) t K87 = f87_0 (t 0) (t 2) := (seq_eq (a := (c1 (c2 B87))) (b := (c2 (c2 B87))) (fun t => f87_1_eq t) (seq_eq (a := (c1 (c1 (c2 B87)))) (b := (c2 (c1 (c2 B87)))) (fun t => f87_2_eq t) (by kernel_rfl)))
noncomputable def f87 (x0 : AV) : M AV :=
 f87_0 x0 (.int .i64 0)
theorem f87_top (t : Tmps) : dcode E87 10 B87 t K87 = f87 (t 0) := (seq_eq (a := (c1 B87)) (b := (c2 B87)) (fun t => f87_0_eq t) (by kernel_rfl))
theorem f87_eq (x0 : AV) : dfn E87 Go.Proofs.Tryz.f87 [x0] = f87 x0 := dfn_eq (c := B87) (nt := 10) (K := K87) (by kernel_rfl) (by kernel_rfl) rfl (by kernel_rfl) (f87_top (argT [x0]))
theorem O87 : EnvOK E87 := ⟨fun g xs => ok_fail, ap_fail⟩
theorem S87 (xs : List AV) : CallOK Go.Proofs.Tryz.prog 3 87 xs (L1 f87 xs) := ok_L1 (fun x0 => ok_fn (E := E87) (fn := Go.Proofs.Tryz.f87) O87 rfl rfl (by kernel_rfl) (by kernel_rfl) (f87_eq x0)) xs

/-! ### strings.explode: function 74 -/
noncomputable def C74 (g : FuncId) (xs : List AV) : M AV := bif Nat.beq g 85 then L1 f85 xs else bif Nat.beq g 87 then L1 f87 xs else fail
noncomputable def E74 : Env := ⟨Go.Proofs.Tryz.prog, 3, C74, fun _ _ => fail, fun _ => [], 74, none⟩
noncomputable def B74 : Code := bodyOf Go.Proofs.Tryz.f74
noncomputable def K74 : KT := dK Go.Proofs.Tryz.prog Go.Proofs.Tryz.f74.results.toList
noncomputable def f74_5 (x6 : AV) : M AV :=
 ret x6
theorem f74_5_eq (t : Tmps) : dcode E74 50 (c2 (c2 (c2 (c2 (c2 (c2 B74)))))) t K74 = f74_5 (t 6) := by kernel_rfl
noncomputable def f74_4 (x0 x1 x6 : AV) : M AV :=
 bd (bi .gtr x1 (.int .i64 0)) fun v1 =>
 cnd v1 (
 bd (bi .sub x1 (.int .i64 1)) fun v2 =>
 bd (ixp 1 x6 v2) fun v3 =>
 bd (st v3 x0) fun _ =>
 f74_5 x6) (
 f74_5 x6)
theorem f74_4_eq (t : Tmps) : dcode E74 50 (c2 (c2 (c2 (c2 (c2 B74))))) t K74 = f74_4 (t 0) (t 1) (t 6) := (seq_eq (a := (c1 (c2 (c2 (c2 (c2 (c2 B74))))))) (b := (c2 (c2 (c2 (c2 (c2 (c2 B74))))))) (fun t => f74_5_eq t) (by kernel_rfl))
noncomputable def f74_b7 (L7 : AV → AV → AV → AV → M AV) (x0 x1 x6 x7 : AV) : M AV :=
 bd (bi .sub x1 (.int .i64 1)) fun v1 =>
 bd (bi .lss x7 v1) fun v2 =>
 cnd v2 (
 bd (f85 x0) fun v3 =>
 bd (ex v3 0) fun v4 =>
 bd (ex v3 1) fun v5 =>
 bd (ss x0 none (some v5)) fun v6 =>
 bd (ixp 1 x6 x7) fun v7 =>
 bd (st v7 v6) fun _ =>
 bd (ss x0 (some v5) none) fun v8 =>
 bd (bi .add x7 (.int .i64 1)) fun v9 =>
 L7 v8 x1 x6 v9) (
 f74_4 x0 x1 x6)
theorem f74_b7_eq (L7 : AV → AV → AV → AV → M AV) (t : Tmps) : dcode E74 50 (c1 (c1 (c2 (c1 (c2 (c2 (c2 (c2 B74)))))))) t (kJ (fun t => L7 (t 0) (t 1) (t 6) (t 7)) (kB 0 (kJ (fun t => f74_4 (t 0) (t 1) (t 6)) K74))) = f74_b7 L7 (t 0) (t 1) (t 6) (t 7) := by kernel_rfl
noncomputable def f74_l7 : Nat → AV → AV → AV → AV → M AV
  | 0, _, _, _, _ => fail
  | n + 1, x0, x1, x6, x7 => f74_b7 (f74_l7 n) x0 x1 x6 x7
theorem f74_l7_eq (t : Tmps) : dcode E74 50 (c1 (c2 (c1 (c2 (c2 (c2 (c2 B74))))))) t (kB 0 (kJ (fun t => f74_4 (t 0) (t 1) (t 6)) K74)) = f74_l7 fuel (t 0) (t 1) (t 6) (t 7) :=
  dloop_eq (c := (c1 (c1 (c2 (c1 (c2 (c2 (c2 (c2 B74))))))))) (g := fun n t => f74_l7 n (t 0) (t 1) (t 6) (t 7)) (fun _ => rfl) (fun n t => f74_b7_eq (f74_l7 n) t)
noncomputable def f74_6 (x0 x1 x6 x7 : AV) : M AV :=
 f74_l7 fuel x0 x1 x6 x7
theorem f74_6_eq (t : Tmps) : dcode E74 50 (c2 (c1 (c2 (c2 (c2 (c2 B74)))))) t (kJ (fun t => f74_4 (t 0) (t 1) (t 6)) K74) = f74_6 (t 0) (t 1) (t 6) (t 7) := (f74_l7_eq _)
noncomputable def f74_3 (x0 x1 x6 : AV) : M AV :=
 f74_6 x0 x1 x6 (.int .i64 0)
theorem f74_3_eq (t : Tmps) : dcode E74 50 (c2 (c2 (c2 (c2 B74)))) t K74 = f74_3 (t 0) (t 1) (t 6) := (seq_eq (a := (c1 (c2 (c2 (c2 (c2 B74)))))) (b := (c2 (c2 (c2 (c2 (c2 B74)))))) (fun t => f74_4_eq t) (seq_eq (a := (c1 (c1 (c2 (c2 (c2 (c2 B74))))))) (b := (c2 (c1 (c2 (c2 (c2 (c2 B74))))))) (fun t => f74_6_eq t) (by kernel_rfl)))
noncomputable def f74_2 (x0 x1 : AV) : M AV :=
 bd (ms 9 1 16 [(.str [])] x1 x1) fun v1 =>
 f74_3 x0 x1 v1
theorem f74_2_eq (t : Tmps) : dcode E74 50 (c2 (c2 (c2 B74))) t K74 = f74_2 (t 0) (t 1) := (seq_eq (a := (c1 (c2 (c2 (c2 B74))))) (b := (c2 (c2 (c2 (c2 B74))))) (fun t => f74_3_eq t) (by kernel_rfl))
noncomputable def f74_1 (x0 x1 x5 : AV) : M AV :=
 bd (bi .lss x1 (.int .i64 0)) fun v1 =>
 bd (gd v1 false (ret x1)) fun v2 =>
 bd (gd v1 false (ret x5)) fun v3 =>
 bd (gd v1 false (bi .gtr v2 v3)) fun v4 =>
 bd (pk v1 (.bool true) v4) fun v5 =>
 cnd v5 (
 f74_2 x0 x5) (
 f74_2 x0 x1)
theorem f74_1_eq (t : Tmps) : dcode E74 50 (c2 (c2 B74)) t K74 = f74_1 (t 0) (t 1) (t 5) := (seq_eq (a := (c1 (c2 (c2 B74)))) (b := (c2 (c2 (c2 B74)))) (fun t => f74_2_eq t) (by kernel_rfl))
noncomputable def f74_0 (x0 x1 : AV) : M AV :=
 bd (f87 x0) fun v1 =>
 f74_1 x0 x1 v1
theorem f74_0_eq (t : Tmps) : dcode E74 50 (c2 B74) t K74 = f74_0 (t 0) (t 1) := (seq_eq (a := (c1 (c2 B74))) (b := (c2 (c2 B74))) (fun t => f74_1_eq t) (by kernel_rfl))
noncomputable def f74 (x0 x1 : AV) : M AV :=
 f74_0 x0 x1
theorem f74_top (t : Tmps) : dcode E74 50 B74 t K74 = f74 (t 0) (t 1) := (seq_eq (a := (c1 B74)) (b := (c2 B74)) (fun t => f74_0_eq t) (by kernel_rfl))
theorem f74_eq (x0 x1 : AV) : dfn E74 Go.Proofs.Tryz.f74 [x0, x1] = f74 x0 x1 := dfn_eq (c := B74) (nt := 50) (K := K74) (by kernel_rfl) (by kernel_rfl) rfl (by kernel_rfl) (f74_top (argT [x0, x1]))
theorem O74 : EnvOK E74 := ⟨fun g xs => (ok_if (S85 xs) (ok_if (S87 xs) ok_fail)), ap_fail⟩
theorem S74 (xs : List AV) : CallOK Go.Proofs.Tryz.prog 3 74 xs (L2 f74 xs) := ok_L2 (fun x0 x1 => ok_fn (E := E74) (fn := Go.Proofs.Tryz.f74) O74 rfl rfl (by kernel_rfl) (by kernel_rfl) (f74_eq x0 x1)) xs

/-! ### strings.Count: function 75 -/
noncomputable def C75 (g : FuncId) (xs : List AV) : M AV := bif Nat.beq g 57 then L2 f57 xs else bif Nat.beq g 87 then L1 f87 xs else bif Nat.beq g 88 then L2 nCountString xs else fail
noncomputable def E75 : Env := ⟨Go.Proofs.Tryz.prog, 3, C75, fun _ _ => fail, fun _ => [], 75, none⟩
noncomputable def B75 : Code := bodyOf Go.Proofs.Tryz.f75
noncomputable def K75 : KT := dK Go.Proofs.Tryz.prog Go.Proofs.Tryz.f75.results.toList
noncomputable def f75_b4 (L4 : AV → AV → AV → M AV) (x0 x1 x5 : AV) : M AV :=
 bd (f57 x0 x1) fun v1 =>
 bd (bi .eql v1 (.int .i64 (-1))) fun v2 =>
 cnd v2 (
 ret x5) (
 bd (bi .add x5 (.int .i64 1)) fun v3 =>
 bd (lnS x1) fun v4 =>
 bd (bi .add v1 v4) fun v5 =>
 bd (ss x0 (some v5) none) fun v6 =>
 L4 v6 x1 v3)
theorem f75_b4_eq (L4 : AV → AV → AV → M AV) (t : Tmps) : dcode E75 34 (c1 (c1 (c2 (c2 (c2 (c2 B75)))))) t (kJ (fun t => L4 (t 0) (t 1) (t 5)) (kB 0 K75)) = f75_b4 L4 (t 0) (t 1) (t 5) := by kernel_rfl
noncomputable def f75_l4 : Nat → AV → AV → AV → M AV
  | 0, _, _, _ => fail
  | n + 1, x0, x1, x5 => f75_b4 (f75_l4 n) x0 x1 x5
theorem f75_l4_eq (t : Tmps) : dcode E75 34 (c1 (c2 (c2 (c2 (c2 B75))))) t (kB 0 K75) = f75_l4 fuel (t 0) (t 1) (t 5) :=
  dloop_eq (c := (c1 (c1 (c2 (c2 (c2 (c2 B75))))))) (g := fun n t => f75_l4 n (t 0) (t 1) (t 5)) (fun _ => rfl) (fun n t => f75_b4_eq (f75_l4 n) t)
noncomputable def f75_3 (x0 x1 x5 : AV) : M AV :=
 f75_l4 fuel x0 x1 x5
theorem f75_3_eq (t : Tmps) : dcode E75 34 (c2 (c2 (c2 (c2 B75)))) t K75 = f75_3 (t 0) (t 1) (t 5) := (f75_l4_eq _)
noncomputable def f75_2 (x0 x1 : AV) : M AV :=
 f75_3 x0 x1 (.int .i64 0)
theorem f75_2_eq (t : Tmps) : dcode E75 34 (c2 (c2 (c2 B75))) t K75 = f75_2 (t 0) (t 1) := (seq_eq (a := (c1 (c2 (c2 (c2 B75))))) (b := (c2 (c2 (c2 (c2 B75))))) (fun t => f75_3_eq t) (by kernel_rfl))
noncomputable def f75_1 (x0 x1 : AV) : M AV :=
 bd (lnS x1) fun v1 =>
 bd (bi .eql v1 (.int .i64 1)) fun v2 =>
 cnd v2 (
 bd (ixs x1 (.int .i64 0)) fun v3 =>
 bd (nCountString x0 v3) fun v4 =>
 ret v4) (
 f75_2 x0 x1)
theorem f75_1_eq (t : Tmps) : dcode E75 34 (c2 (c2 B75)) t K75 = f75_1 (t 0) (t 1) := (seq_eq (a := (c1 (c2 (c2 B75)))) (b := (c2 (c2 (c2 B75)))) (fun t => f75_2_eq t) (by kernel_rfl))
noncomputable def f75_0 (x0 x1 : AV) : M AV :=
 bd (lnS x1) fun v1 =>
 bd (bi .eql v1 (.int .i64 0)) fun v2 =>
 cnd v2 (
 bd (f87 x0) fun v3 =>
 bd (bi .add v3 (.int .i64 1)) fun v4 =>
 ret v4) (
 f75_1 x0 x1)
theorem f75_0_eq (t : Tmps) : dcode E75 34 (c2 B75) t K75 = f75_0 (t 0) (t 1) := (seq_eq (a := (c1 (c2 B75))) (b := (c2 (c2 B75))) (fun t => f75_1_eq t) (by kernel_rfl))
noncomputable def f75 (x0 x1 : AV) : M AV :=
 f75_0 x0 x1
theorem f75_top (t : Tmps) : dcode E75 34 B75 t K75 = f75 (t 0) (t 1) := (seq_eq (a := (c1 B75)) (b := (c2 B75)) (fun t => f75_0_eq t) (by kernel_rfl))
theorem f75_eq (x0 x1 : AV) : dfn E75 Go.Proofs.Tryz.f75 [x0, x1] = f75 x0 x1 := dfn_eq (c := B75) (nt := 34) (K := K75) (by kernel_rfl) (by kernel_rfl) rfl (by kernel_rfl) (f75_top (argT [x0, x1]))
theorem O75 : EnvOK E75 := ⟨fun g xs => (ok_if (S57 xs) (ok_if (S87 xs) (ok_if (N88 xs) ok_fail))), ap_fail⟩
theorem S75 (xs : List AV) : CallOK Go.Proofs.Tryz.prog 3 75 xs (L2 f75 xs) := ok_L2 (fun x0 x1 => ok_fn (E := E75) (fn := Go.Proofs.Tryz.f75) O75 rfl rfl (by kernel_rfl) (by kernel_rfl) (f75_eq x0 x1)) xs

/-! ### strings.genSplit: function 53 -/
noncomputable def C53 (g : FuncId) (xs : List AV) : M AV := bif Nat.beq g 57 then L2 f57 xs else bif Nat.beq g 74 then L2 f74 xs else bif Nat.beq g 75 then L2 f75 xs else fail
noncomputable def E53 : Env := ⟨Go.Proofs.Tryz.prog, 3, C53, fun _ _ => fail, fun _ => [], 53, none⟩
noncomputable def B53 : Code := bodyOf Go.Proofs.Tryz.f53
noncomputable def K53 : KT := dK Go.Proofs.Tryz.prog Go.Proofs.Tryz.f53.results.toList
noncomputable def f53_8 (x0 x9 x10 : AV) : M AV :=
 bd (ixp 1 x9 x10) fun v1 =>
 bd (st v1 x0) fun _ =>
 bd (bi .add x10 (.int .i64 1)) fun v2 =>
 bd (sls 1 x9 none (some v2)) fun v3 =>
 ret v3
theorem f53_8_eq (t : Tmps) : dcode E53 66 (c2 (c2 (c2 (c2 (c2 (c2 (c2 (c2 (c2 B53))))))))) t K53 = f53_8 (t 0) (t 9) (t 10) := by kernel_rfl
noncomputable def f53_b9 (L9 : AV → AV → AV → AV → AV → AV → M AV) (x0 x1 x2 x3 x9 x10 : AV) : M AV :=
 bd (bi .lss x10 x3) fun v1 =>
 cnd v1 (
 bd (f57 x0 x1) fun v2 =>
 bd (bi .lss v2 (.int .i64 0)) fun v3 =>
 cnd v3 (
 f53_8 x0 x9 x10) (
 bd (bi .add v2 x2) fun v4 =>
 bd (ss x0 none (some v4)) fun v5 =>
 bd (ixp 1 x9 x10) fun v6 =>
 bd (st v6 v5) fun _ =>
 bd (lnS x1) fun v7 =>
 bd (bi .add v2 v7) fun v8 =>
 bd (ss x0 (some v8) none) fun v9 =>
 bd (bi .add x10 (.int .i64 1)) fun v10 =>
 L9 v9 x1 x2 x3 x9 v10)) (
 f53_8 x0 x9 x10)
theorem f53_b9_eq (L9 : AV → AV → AV → AV → AV → AV → M AV) (t : Tmps) : dcode E53 66 (c1 (c1 (c1 (c2 (c2 (c2 (c2 (c2 (c2 (c2 (c2 B53))))))))))) t (kJ (fun t => L9 (t 0) (t 1) (t 2) (t 3) (t 9) (t 10)) (kB 0 (kJ (fun t => f53_8 (t 0) (t 9) (t 10)) K53))) = f53_b9 L9 (t 0) (t 1) (t 2) (t 3) (t 9) (t 10) := by kernel_rfl
noncomputable def f53_l9 : Nat → AV → AV → AV → AV → AV → AV → M AV
  | 0, _, _, _, _, _, _ => fail
  | n + 1, x0, x1, x2, x3, x9, x10 => f53_b9 (f53_l9 n) x0 x1 x2 x3 x9 x10
theorem f53_l9_eq (t : Tmps) : dcode E53 66 (c1 (c1 (c2 (c2 (c2 (c2 (c2 (c2 (c2 (c2 B53)))))))))) t (kB 0 (kJ (fun t => f53_8 (t 0) (t 9) (t 10)) K53)) = f53_l9 fuel (t 0) (t 1) (t 2) (t 3) (t 9) (t 10) :=
  dloop_eq (c := (c1 (c1 (c1 (c2 (c2 (c2 (c2 (c2 (c2 (c2 (c2 B53)))))))))))) (g := fun n t => f53_l9 n (t 0) (t 1) (t 2) (t 3) (t 9) (t 10)) (fun _ => rfl) (fun n t => f53_b9_eq (f53_l9 n) t)
noncomputable def f53_7 (x0 x1 x2 x3 x9 x10 : AV) : M AV :=
 f53_l9 fuel x0 x1 x2 x3 x9 x10
theorem f53_7_eq (t : Tmps) : dcode E53 66 (c2 (c2 (c2 (c2 (c2 (c2 (c2 (c2 B53)))))))) t K53 = f53_7 (t 0) (t 1) (t 2) (t 3) (t 9) (t 10) := (seq_eq (a := (c1 (c2 (c2 (c2 (c2 (c2 (c2 (c2 (c2 B53)))))))))) (b := (c2 (c2 (c2 (c2 (c2 (c2 (c2 (c2 (c2 B53)))))))))) (fun t => f53_8_eq t) (f53_l9_eq _))
noncomputable def f53_6 (x0 x1 x2 x3 x9 : AV) : M AV :=
 f53_7 x0 x1 x2 x3 x9 (.int .i64 0)
theorem f53_6_eq (t : Tmps) : dcode E53 66 (c2 (c2 (c2 (c2 (c2 (c2 (c2 B53))))))) t K53 = f53_6 (t 0) (t 1) (t 2) (t 3) (t 9) := (seq_eq (a := (c1 (c2 (c2 (c2 (c2 (c2 (c2 (c2 B53))))))))) (b := (c2 (c2 (c2 (c2 (c2 (c2 (c2 (c2 B53))))))))) (fun t => f53_7_eq t) (by kernel_rfl))
noncomputable def f53_5 (x0 x1 x2 x3 x9 : AV) : M AV :=
 bd (bi .sub x3 (.int .i64 1)) fun v1 =>
 f53_6 x0 x1 x2 v1 x9
theorem f53_5_eq (t : Tmps) : dcode E53 66 (c2 (c2 (c2 (c2 (c2 (c2 B53)))))) t K53 = f53_5 (t 0) (t 1) (t 2) (t 3) (t 9) := (seq_eq (a := (c1 (c2 (c2 (c2 (c2 (c2 (c2 B53)))))))) (b := (c2 (c2 (c2 (c2 (c2 (c2 (c2 B53)))))))) (fun t => f53_6_eq t) (by kernel_rfl))
noncomputable def f53_4 (x0 x1 x2 x3 : AV) : M AV :=
 bd (ms 9 1 16 [(.str [])] x3 x3) fun v1 =>
 f53_5 x0 x1 x2 x3 v1
theorem f53_4_eq (t : Tmps) : dcode E53 66 (c2 (c2 (c2 (c2 (c2 B53))))) t K53 = f53_4 (t 0) (t 1) (t 2) (t 3) := (seq_eq (a := (c1 (c2 (c2 (c2 (c2 (c2 B53))))))) (b := (c2 (c2 (c2 (c2 (c2 (c2 B53))))))) (fun t => f53_5_eq t) (by kernel_rfl))
noncomputable def f53_3 (x0 x1 x2 x3 : AV) : M AV :=
 bd (lnS x0) fun v1 =>
 bd (bi .add v1 (.int .i64 1)) fun v2 =>
 bd (fold2 mn2 x3 [v2]) fun v3 =>
 f53_4 x0 x1 x2 v3
theorem f53_3_eq (t : Tmps) : dcode E53 66 (c2 (c2 (c2 (c2 B53)))) t K53 = f53_3 (t 0) (t 1) (t 2) (t 3) := (seq_eq (a := (c1 (c2 (c2 (c2 (c2 B53)))))) (b := (c2 (c2 (c2 (c2 (c2 B53)))))) (fun t => f53_4_eq t) (by kernel_rfl))
noncomputable def f53_2 (x0 x1 x2 x3 : AV) : M AV :=
 bd (bi .lss x3 (.int .i64 0)) fun v1 =>
 cnd v1 (
 bd (f75 x0 x1) fun v2 =>
 bd (bi .add v2 (.int .i64 1)) fun v3 =>
 f53_3 x0 x1 x2 v3) (
 f53_3 x0 x1 x2 x3)
theorem f53_2_eq (t : Tmps) : dcode E53 66 (c2 (c2 (c2 B53))) t K53 = f53_2 (t 0) (t 1) (t 2) (t 3) := (seq_eq (a := (c1 (c2 (c2 (c2 B53))))) (b := (c2 (c2 (c2 (c2 B53))))) (fun t => f53_3_eq t) (by kernel_rfl))
noncomputable def f53_1 (x0 x1 x2 x3 : AV) : M AV :=
 bd (bi .eql x1 (.str [])) fun v1 =>
 cnd v1 (
 bd (f74 x0 x3) fun v2 =>
 ret v2) (
 f53_2 x0 x1 x2 x3)
theorem f53_1_eq (t : Tmps) : dcode E53 66 (c2 (c2 B53)) t K53 = f53_1 (t 0) (t 1) (t 2) (t 3) := (seq_eq (a := (c1 (c2 (c2 B53)))) (b := (c2 (c2 (c2 B53)))) (fun t => f53_2_eq t) (by kernel_rfl))
noncomputable def f53_0 (x0 x1 x2 x3 : AV) : M AV :=
 bd (bi .eql x3 (.int .i64 0)) fun v1 =>
 cnd v1 (
 ret .slN) (
 f53_1 x0 x1 x2 x3)
theorem f53_0_eq (t : Tmps) : dcode E53 66 (c2 B53) t K53 = f53_0 (t 0) (t 1) (t 2) (t 3) := (seq_eq (a := (c1 (c2 B53))) (b := (c2 (c2 B53))) (fun t => f53_1_eq t) (by kernel_rfl))
noncomputable def f53 (x0 x1 x2 x3 : AV) : M AV :=
 f53_0 x0 x1 x2 x3
theorem f53_top (t : Tmps) : dcode E53 66 B53 t K53 = f53 (t 0) (t 1) (t 2) (t 3) := (seq_eq (a := (c1 B53)) (b := (c2 B53)) (fun t => f53_0_eq t) (by kernel_rfl))
theorem f53_eq (x0 x1 x2 x3 : AV) : dfn E53 Go.Proofs.Tryz.f53 [x0, x1, x2, x3] = f53 x0 x1 x2 x3 := dfn_eq (c := B53) (nt := 66) (K := K53) (by kernel_rfl) (by kernel_rfl) rfl (by kernel_rfl) (f53_top (argT [x0, x1, x2, x3]))
theorem O53 : EnvOK E53 := ⟨fun g xs => (ok_if (S57 xs) (ok_if (S74 xs) (ok_if (S75 xs) ok_fail))), ap_fail⟩
theorem S53 (xs : List AV) : CallOK Go.Proofs.Tryz.prog 3 53 xs (L4 f53 xs) := ok_L4 (fun x0 x1 x2 x3 => ok_fn (E := E53) (fn := Go.Proofs.Tryz.f53) O53 rfl rfl (by kernel_rfl) (by kernel_rfl) (f53_eq x0 x1 x2 x3)) xs

/-! ### strings.Split: function 23 -/
noncomputable def C23 (g : FuncId) (xs : List AV) : M AV := bif Nat.beq g 53 then L4 f53 xs else fail
noncomputable def E23 : Env := ⟨Go.Proofs.Tryz.prog, 3, C23, fun _ _ => fail, fun _ => [], 23, none⟩
noncomputable def B23 : Code := bodyOf Go.Proofs.Tryz.f23
noncomputable def K23 : KT := dK Go.Proofs.Tryz.prog Go.Proofs.Tryz.f23.results.toList
noncomputable def f23 (x0 x1 : AV) : M AV :=
 bd (f53 x0 x1 (.int .i64 0) (.int .i64 (-1))) fun v1 =>
 ret v1
theorem f23_eq (x0 x1 : AV) : dfn E23 Go.Proofs.Tryz.f23 [x0, x1] = f23 x0 x1 := dfn_eq (c := B23) (nt := 8) (K := K23) (by kernel_rfl) (by kernel_rfl) rfl (by kernel_rfl) (by kernel_rfl)
theorem O23 : EnvOK E23 := ⟨fun g xs => (ok_if (S53 xs) ok_fail), ap_fail⟩
theorem S23 (xs : List AV) : CallOK Go.Proofs.Tryz.prog 3 23 xs (L2 f23 xs) := ok_L2 (fun x0 x1 => ok_fn (E := E23) (fn := Go.Proofs.Tryz.f23) O23 rfl rfl (by kernel_rfl) (by kernel_rfl) (f23_eq x0 x1)) xs

/-! ### (*strings.Builder).copyCheck: function 65 -/
noncomputable def C65 (g : FuncId) (xs : List AV) : M AV := bif Nat.beq g 82 then L1 nNoEscape xs else fail
noncomputable def E65 : Env := ⟨Go.Proofs.Tryz.prog, 3, C65, fun _ _ => fail, fun _ => [], 65, none⟩
noncomputable def B65 : Code := bodyOf Go.Proofs.Tryz.f65
noncomputable def K65 : KT := dK Go.Proofs.Tryz.prog Go.Proofs.Tryz.f65.results.toList
noncomputable def f65 (x0 : AV) : M AV :=
 bd (nck x0) fun v1 =>
 bd (fa v1 0) fun v2 =>
 bd (ld v2) fun v3 =>
 bd (be .p .eql v3 (.ptr none)) fun v4 =>
 cnd v4 (
 bd (p2u x0) fun v5 =>
 bd (nNoEscape v5) fun v6 =>
 bd (u2p 61 2 v6) fun v7 =>
 bd (nck x0) fun v8 =>
 bd (fa v8 0) fun v9 =>
 bd (st v9 v7) fun _ =>
 ret (.tuple [])) (
 bd (nck x0) fun v10 =>
 bd (fa v10 0) fun v11 =>
 bd (ld v11) fun v12 =>
 bd (be .p .neq v12 x0) fun v13 =>
 cnd v13 (
 fail) (
 ret (.tuple [])))
theorem f65_eq (x0 : AV) : dfn E65 Go.Proofs.Tryz.f65 [x0] = f65 x0 := dfn_eq (c := B65) (nt := 20) (K := K65) (by kernel_rfl) (by kernel_rfl) rfl (by kernel_rfl) (by kernel_rfl)
theorem O65 : EnvOK E65 := ⟨fun g xs => (ok_if (N82 xs) ok_fail), ap_fail⟩
theorem S65 (xs : List AV) : CallOK Go.Proofs.Tryz.prog 3 65 xs (L1 f65 xs) := ok_L1 (fun x0 => ok_fn (E := E65) (fn := Go.Proofs.Tryz.f65) O65 rfl rfl (by kernel_rfl) (by kernel_rfl) (f65_eq x0)) xs

/-! ### (*strings.Builder).WriteString: function 36 -/
noncomputable def C36 (g : FuncId) (xs : List AV) : M AV := bif Nat.beq g 65 then L1 f65 xs else fail
noncomputable def E36 : Env := ⟨Go.Proofs.Tryz.prog, 3, C36, fun _ _ => fail, fun _ => [], 36, none⟩
noncomputable def B36 : Code := bodyOf Go.Proofs.Tryz.f36
noncomputable def K36 : KT := dK Go.Proofs.Tryz.prog Go.Proofs.Tryz.f36.results.toList
noncomputable def f36 (x0 x1 : AV) : M AV :=
 bd (f65 x0) fun v1 =>
 bd (nck x0) fun v2 =>
 bd (fa v2 1) fun v3 =>
 bd (ld v3) fun v4 =>
 bd (app 5 1 1 v4 x1) fun v5 =>
 bd (nck x0) fun v6 =>
 bd (fa v6 1) fun v7 =>
 bd (st v7 v5) fun _ =>
 bd (lnS x1) fun v8 =>
 ret (.tuple [v8, .nilIface])
theorem f36_eq (x0 x1 : AV) : dfn E36 Go.Proofs.Tryz.f36 [x0, x1] = f36 x0 x1 := dfn_eq (c := B36) (nt := 19) (K := K36) (by kernel_rfl) (by kernel_rfl) rfl (by kernel_rfl) (by kernel_rfl)
theorem O36 : EnvOK E36 := ⟨fun g xs => (ok_if (S65 xs) ok_fail), ap_fail⟩
theorem S36 (xs : List AV) : CallOK Go.Proofs.Tryz.prog 3 36 xs (L2 f36 xs) := ok_L2 (fun x0 x1 => ok_fn (E := E36) (fn := Go.Proofs.Tryz.f36) O36 rfl rfl (by kernel_rfl) (by kernel_rfl) (f36_eq x0 x1)) xs

/-! ### (*strings.Builder).String: function 37 -/
noncomputable def C37 (g : FuncId) (xs : List AV) : M AV := fail
noncomputable def E37 : Env := ⟨Go.Proofs.Tryz.prog, 3, C37, fun _ _ => fail, fun i => bif Nat.beq i 1 then [0, 1, 2, 3, 4, 5, 6, 7, 8, 9, 10, 11] else [], 37, none⟩
noncomputable def B37 : Code := bodyOf Go.Proofs.Tryz.f37
noncomputable def K37 : KT := dK Go.Proofs.Tryz.prog Go.Proofs.Tryz.f37.results.toList
noncomputable def f37 (x0 : AV) : M AV :=
 bd (ret x0) fun v1 =>
 bd (nck v1) fun v2 =>
 bd (fa v2 1) fun v3 =>
 bd (ld v3) fun v4 =>
 bd (usd v4) fun v5 =>
 bd (ret x0) fun v6 =>
 bd (nck v6) fun v7 =>
 bd (fa v7 1) fun v8 =>
 bd (ld v8) fun v9 =>
 bd (lnL v9) fun v10 =>
 bd (ust 5 v5 v10) fun v11 =>
 bd (ret v11) fun v12 =>
 ret v12
theorem f37_eq (x0 : AV) : dfn E37 Go.Proofs.Tryz.f37 [x0] = f37 x0 := dfn_eq (c := B37) (nt := 14) (K := K37) (by kernel_rfl) (by kernel_rfl) rfl (by kernel_rfl) (by kernel_rfl)
theorem O37 : EnvOK E37 := ⟨fun g xs => ok_fail, ap_fail⟩
theorem S37 (xs : List AV) : CallOK Go.Proofs.Tryz.prog 3 37 xs (L1 f37 xs) := ok_L1 (fun x0 => ok_fn (E := E37) (fn := Go.Proofs.Tryz.f37) O37 rfl rfl (by kernel_rfl) (by kernel_rfl) (f37_eq x0)) xs

/-! ### (*strings.Builder).grow: function 78 -/
noncomputable def C78 (g : FuncId) (xs : List AV) : M AV := bif Nat.beq g 89 then L1 (nMakeNoZero 5) xs else fail
noncomputable def E78 : Env := ⟨Go.Proofs.Tryz.prog, 3, C78, fun _ _ => fail, fun i => bif Nat.beq i 0 then [0, 1, 2, 3, 4, 5, 6, 7, 9, 10, 11, 12, 13, 8, 14, 15] else [], 78, none⟩
noncomputable def B78 : Code := bodyOf Go.Proofs.Tryz.f78
noncomputable def K78 : KT := dK Go.Proofs.Tryz.prog Go.Proofs.Tryz.f78.results.toList
noncomputable def f78 (x0 x1 : AV) : M AV :=
 bd (ret x0) fun v1 =>
 bd (nck v1) fun v2 =>
 bd (fa v2 1) fun v3 =>
 bd (ld v3) fun v4 =>
 bd (cpN v4) fun v5 =>
 bd (bi .mul (.int .i64 2) v5) fun v6 =>
 bd (ret x1) fun v7 =>
 bd (bi .add v6 v7) fun v8 =>
 bd (ret x0) fun v9 =>
 bd (nck v9) fun v10 =>
 bd (fa v10 1) fun v11 =>
 bd (ld v11) fun v12 =>
 bd (lnL v12) fun v13 =>
 bd ((nMakeNoZero 5) v8) fun v14 =>
 rck (ld v11) v12 (
 bd (sls 1 v14 none (some v13)) fun v15 =>
 bd (ret v15) fun v16 =>
 bd (nck x0) fun v17 =>
 bd (fa v17 1) fun v18 =>
 bd (ld v18) fun v19 =>
 bd (cpy 1 v16 v19) fun v20 =>
 bd (nck x0) fun v21 =>
 bd (fa v21 1) fun v22 =>
 bd (st v22 v16) fun _ =>
 ret (.tuple []))
theorem f78_eq (x0 x1 : AV) : dfn E78 Go.Proofs.Tryz.f78 [x0, x1] = f78 x0 x1 := dfn_eq (c := B78) (nt := 30) (K := K78) (by kernel_rfl) (by kernel_rfl) rfl (by kernel_rfl) (by kernel_rfl)
theorem O78 : EnvOK E78 := ⟨fun g xs => (ok_if (N89 xs) ok_fail), ap_fail⟩
theorem S78 (xs : List AV) : CallOK Go.Proofs.Tryz.prog 3 78 xs (L2 f78 xs) := ok_L2 (fun x0 x1 => ok_fn (E := E78) (fn := Go.Proofs.Tryz.f78) O78 rfl rfl (by kernel_rfl) (by kernel_rfl) (f78_eq x0 x1)) xs

/-! ### (*strings.Builder).Grow: function 55 -/
noncomputable def C55 (g : FuncId) (xs : List AV) : M AV := bif Nat.beq g 65 then L1 f65 xs else bif Nat.beq g 78 then L2 f78 xs else fail
noncomputable def E55 : Env := ⟨Go.Proofs.Tryz.prog, 3, C55, fun _ _ => fail, fun i => bif Nat.beq i 3 then [0, 1, 2, 3, 4, 5, 6, 7, 8, 9, 10, 11, 12] else [], 55, none⟩
noncomputable def B55 : Code := bodyOf Go.Proofs.Tryz.f55
noncomputable def K55 : KT := dK Go.Proofs.Tryz.prog Go.Proofs.Tryz.f55.results.toList
noncomputable def f55_1 (x0 x1 : AV) : M AV :=
 bd (ret x0) fun v1 =>
 bd (nck v1) fun v2 =>
 bd (fa v2 1) fun v3 =>
 bd (ld v3) fun v4 =>
 bd (cpN v4) fun v5 =>
 bd (ret x0) fun v6 =>
 bd (nck v6) fun v7 =>
 bd (fa v7 1) fun v8 =>
 bd (ld v8) fun v9 =>
 bd (lnL v9) fun v10 =>
 bd (bi .sub v5 v10) fun v11 =>
 bd (ret x1) fun v12 =>
 bd (bi .lss v11 v12) fun v13 =>
 cnd v13 (
 bd (f78 x0 x1) fun v14 =>
 ret (.tuple [])) (
 ret (.tuple []))
theorem f55_1_eq (t : Tmps) : dcode E55 25 (c2 (c2 B55)) t K55 = f55_1 (t 0) (t 1) := by kernel_rfl
noncomputable def f55_0 (x0 x1 : AV) : M AV :=
 bd (bi .lss x1 (.int .i64 0)) fun v1 =>
 cnd v1 (
 bd (fail : M AV) fun v2 =>
 bd (fail : M AV) fun _ =>
 f55_1 x0 x1) (
 f55_1 x0 x1)
theorem f55_0_eq (t : Tmps) : dcode E55 25 (c2 B55) t K55 = f55_0 (t 0) (t 1) := (seq_eq (a := (c1 (c2 B55))) (b := (c2 (c2 B55))) (fun t => f55_1_eq t) (by kernel_rfl))
noncomputable def f55 (x0 x1 : AV) : M AV :=
 bd (f65 x0) fun v1 =>
 f55_0 x0 x1
theorem f55_top (t : Tmps) : dcode E55 25 B55 t K55 = f55 (t 0) (t 1) := (seq_eq (a := (c1 B55)) (b := (c2 B55)) (fun t => f55_0_eq t) (by kernel_rfl))
theorem f55_eq (x0 x1 : AV) : dfn E55 Go.Proofs.Tryz.f55 [x0, x1] = f55 x0 x1 := dfn_eq (c := B55) (nt := 25) (K := K55) (by kernel_rfl) (by kernel_rfl) rfl (by kernel_rfl) (f55_top (argT [x0, x1]))
theorem O55 : EnvOK E55 := ⟨fun g xs => (ok_if (S65 xs) (ok_if (S78 xs) ok_fail)), ap_fail⟩
theorem S55 (xs : List AV) : CallOK Go.Proofs.Tryz.prog 3 55 xs (L2 f55 xs) := ok_L2 (fun x0 x1 => ok_fn (E := E55) (fn := Go.Proofs.Tryz.f55) O55 rfl rfl (by kernel_rfl) (by kernel_rfl) (f55_eq x0 x1)) xs

/-! ### strings.Join: function 25 -/
noncomputable def C25 (g : FuncId) (xs : List AV) : M AV := bif Nat.beq g 36 then L2 f36 xs else bif Nat.beq g 37 then L1 f37 xs else bif Nat.beq g 55 then L2 f55 xs else fail
noncomputable def E25 : Env := ⟨Go.Proofs.Tryz.prog, 3, C25, fun _ _ => fail, fun _ => [], 25, none⟩
noncomputable def B25 : Code := bodyOf Go.Proofs.Tryz.f25
noncomputable def K25 : KT := dK Go.Proofs.Tryz.prog Go.Proofs.Tryz.f25.results.toList
noncomputable def f25_8 (x8 : AV) : M AV :=
 bd (f37 x8) fun v1 =>
 ret v1
theorem f25_8_eq (t : Tmps) : dcode E25 75 (c2 (c2 (c2 (c2 (c2 (c2 (c2 (c2 (c2 B25))))))))) t K25 = f25_8 (t 8) := by kernel_rfl
noncomputable def f25_b10 (L10 : AV → AV → AV → AV → AV → M AV) (x1 x8 x63 x64 x65 : AV) : M AV :=
 bd (bi .lss x65 x64) fun v1 =>
 cnd v1 (
 bd (ixp 1 x63 x65) fun v2 =>
 bd (ld v2) fun v3 =>
 bd (f36 x8 x1) fun v4 =>
 bd (f36 x8 v3) fun v5 =>
 bd (bi .add x65 (.int .i64 1)) fun v6 =>
 L10 x1 x8 x63 x64 v6) (
 f25_8 x8)
theorem f25_b10_eq (L10 : AV → AV → AV → AV → AV → M AV) (t : Tmps) : dcode E25 75 (c1 (c1 (c2 (c1 (c2 (c2 (c2 (c2 (c2 (c2 (c2 (c2 B25)))))))))))) t (kJ (fun t => L10 (t 1) (t 8) (t 63) (t 64) (t 65)) (kB 3 (kJ (fun t => f25_8 (t 8)) K25))) = f25_b10 L10 (t 1) (t 8) (t 63) (t 64) (t 65) := by kernel_rfl
noncomputable def f25_l10 : Nat → AV → AV → AV → AV → AV → M AV
  | 0, _, _, _, _, _ => fail
  | n + 1, x1, x8, x63, x64, x65 => f25_b10 (f25_l10 n) x1 x8 x63 x64 x65
theorem f25_l10_eq (t : Tmps) : dcode E25 75 (c1 (c2 (c1 (c2 (c2 (c2 (c2 (c2 (c2 (c2 (c2 B25))))))))))) t (kB 3 (kJ (fun t => f25_8 (t 8)) K25)) = f25_l10 fuel (t 1) (t 8) (t 63) (t 64) (t 65) :=
  dloop_eq (c := (c1 (c1 (c2 (c1 (c2 (c2 (c2 (c2 (c2 (c2 (c2 (c2 B25))))))))))))) (g := fun n t => f25_l10 n (t 1) (t 8) (t 63) (t 64) (t 65)) (fun _ => rfl) (fun n t => f25_b10_eq (f25_l10 n) t)
noncomputable def f25_9 (x1 x8 x63 x64 x65 : AV) : M AV :=
 f25_l10 fuel x1 x8 x63 x64 x65
theorem f25_9_eq (t : Tmps) : dcode E25 75 (c2 (c1 (c2 (c2 (c2 (c2 (c2 (c2 (c2 (c2 B25)))))))))) t (kJ (fun t => f25_8 (t 8)) K25) = f25_9 (t 1) (t 8) (t 63) (t 64) (t 65) := (f25_l10_eq _)
noncomputable def f25_7 (x0 x1 x8 : AV) : M AV :=
 bd (sls 1 x0 (some (.int .i64 1)) none) fun v1 =>
 bd (lnL v1) fun v2 =>
 f25_9 x1 x8 v1 v2 (.int .i64 0)
theorem f25_7_eq (t : Tmps) : dcode E25 75 (c2 (c2 (c2 (c2 (c2 (c2 (c2 (c2 B25)))))))) t K25 = f25_7 (t 0) (t 1) (t 8) := (seq_eq (a := (c1 (c2 (c2 (c2 (c2 (c2 (c2 (c2 (c2 B25)))))))))) (b := (c2 (c2 (c2 (c2 (c2 (c2 (c2 (c2 (c2 B25)))))))))) (fun t => f25_8_eq t) (seq_eq (a := (c1 (c1 (c2 (c2 (c2 (c2 (c2 (c2 (c2 (c2 B25))))))))))) (b := (c2 (c1 (c2 (c2 (c2 (c2 (c2 (c2 (c2 (c2 B25))))))))))) (fun t => f25_9_eq t) (by kernel_rfl)))
noncomputable def f25_6 (x0 x1 x8 : AV) : M AV :=
 bd (ixp 1 x0 (.int .i64 0)) fun v1 =>
 bd (ld v1) fun v2 =>
 bd (f36 x8 v2) fun v3 =>
 f25_7 x0 x1 x8
theorem f25_6_eq (t : Tmps) : dcode E25 75 (c2 (c2 (c2 (c2 (c2 (c2 (c2 B25))))))) t K25 = f25_6 (t 0) (t 1) (t 8) := (seq_eq (a := (c1 (c2 (c2 (c2 (c2 (c2 (c2 (c2 B25))))))))) (b := (c2 (c2 (c2 (c2 (c2 (c2 (c2 (c2 B25))))))))) (fun t => f25_7_eq t) (by kernel_rfl))
noncomputable def f25_5 (x0 x1 x5 x8 : AV) : M AV :=
 bd (f55 x8 x5) fun v1 =>
 f25_6 x0 x1 x8
theorem f25_5_eq (t : Tmps) : dcode E25 75 (c2 (c2 (c2 (c2 (c2 (c2 B25)))))) t K25 = f25_5 (t 0) (t 1) (t 5) (t 8) := (seq_eq (a := (c1 (c2 (c2 (c2 (c2 (c2 (c2 B25)))))))) (b := (c2 (c2 (c2 (c2 (c2 (c2 (c2 B25)))))))) (fun t => f25_6_eq t) (by kernel_rfl))
noncomputable def f25_4 (x0 x1 x5 : AV) : M AV :=
 bd (bx 61 (.agg [(.ptr none), .slN])) fun v1 =>
 f25_5 x0 x1 x5 v1
theorem f25_4_eq (t : Tmps) : dcode E25 75 (c2 (c2 (c2 (c2 (c2 B25))))) t K25 = f25_4 (t 0) (t 1) (t 5) := (seq_eq (a := (c1 (c2 (c2 (c2 (c2 (c2 B25))))))) (b := (c2 (c2 (c2 (c2 (c2 (c2 B25))))))) (fun t => f25_5_eq t) (by kernel_rfl))
noncomputable def f25_15 (L12 : AV → AV → AV → AV → AV → AV → M AV) (x0 x1 x5 x39 x40 x41 : AV) : M AV :=
 bd (bi .add x41 (.int .i64 1)) fun v1 =>
 L12 x0 x1 x5 x39 x40 v1
theorem f25_15_eq (L12 : AV → AV → AV → AV → AV → AV → M AV) (t : Tmps) : dcode E25 75 (c2 (c2 (c2 (c1 (c1 (c2 (c1 (c2 (c2 (c2 (c2 B25))))))))))) t (kJ (fun t => L12 (t 0) (t 1) (t 5) (t 39) (t 40) (t 41)) (kB 1 (kJ (fun t => f25_4 (t 0) (t 1) (t 5)) K25))) = f25_15 L12 (t 0) (t 1) (t 5) (t 39) (t 40) (t 41) := by kernel_rfl
noncomputable def f25_17 (L12 : AV → AV → AV → AV → AV → AV → M AV) (x0 x1 x5 x7 x39 x40 x41 : AV) : M AV :=
 bd (lnS x7) fun v1 =>
 bd (bi .add x5 v1) fun v2 =>
 f25_15 L12 x0 x1 v2 x39 x40 x41
theorem f25_17_eq (L12 : AV → AV → AV → AV → AV → AV → M AV) (t : Tmps) : dcode E25 75 (c2 (c2 (c1 (c1 (c2 (c2 (c1 (c1 (c2 (c1 (c2 (c2 (c2 (c2 B25)))))))))))))) t (kB 2 (kJ (fun t => f25_15 L12 (t 0) (t 1) (t 5) (t 39) (t 40) (t 41)) (kJ (fun t => L12 (t 0) (t 1) (t 5) (t 39) (t 40) (t 41)) (kB 1 (kJ (fun t => f25_4 (t 0) (t 1) (t 5)) K25))))) = f25_17 L12 (t 0) (t 1) (t 5) (t 7) (t 39) (t 40) (t 41) := by kernel_rfl
noncomputable def f25_16 (L12 : AV → AV → AV → AV → AV → AV → M AV) (x0 x1 x5 x7 x39 x40 x41 : AV) : M AV :=
 bd (lnS x7) fun v1 =>
 bd (bi .sub (.int .i64 9223372036854775807) x5) fun v2 =>
 bd (bi .gtr v1 v2) fun v3 =>
 cnd v3 (
 bd (fail : M AV) fun v4 =>
 bd (fail : M AV) fun _ =>
 f25_17 L12 x0 x1 x5 x7 x39 x40 x41) (
 f25_17 L12 x0 x1 x5 x7 x39 x40 x41)
theorem f25_16_eq (L12 : AV → AV → AV → AV → AV → AV → M AV) (t : Tmps) : dcode E25 75 (c2 (c1 (c1 (c2 (c2 (c1 (c1 (c2 (c1 (c2 (c2 (c2 (c2 B25))))))))))))) t (kB 2 (kJ (fun t => f25_15 L12 (t 0) (t 1) (t 5) (t 39) (t 40) (t 41)) (kJ (fun t => L12 (t 0) (t 1) (t 5) (t 39) (t 40) (t 41)) (kB 1 (kJ (fun t => f25_4 (t 0) (t 1) (t 5)) K25))))) = f25_16 L12 (t 0) (t 1) (t 5) (t 7) (t 39) (t 40) (t 41) := (seq_eq (a := (c1 (c2 (c1 (c1 (c2 (c2 (c1 (c1 (c2 (c1 (c2 (c2 (c2 (c2 B25))))))))))))))) (b := (c2 (c2 (c1 (c1 (c2 (c2 (c1 (c1 (c2 (c1 (c2 (c2 (c2 (c2 B25))))))))))))))) (fun t => f25_17_eq L12 t) (by kernel_rfl))
noncomputable def f25_14 (L12 : AV → AV → AV → AV → AV → AV → M AV) (x0 x1 x5 x39 x40 x41 : AV) : M AV :=
 bd (ixp 1 x39 x41) fun v1 =>
 bd (ld v1) fun v2 =>
 f25_16 L12 x0 x1 x5 v2 x39 x40 x41
theorem f25_14_eq (L12 : AV → AV → AV → AV → AV → AV → M AV) (t : Tmps) : dcode E25 75 (c2 (c2 (c1 (c1 (c2 (c1 (c2 (c2 (c2 (c2 B25)))))))))) t (kJ (fun t => L12 (t 0) (t 1) (t 5) (t 39) (t 40) (t 41)) (kB 1 (kJ (fun t => f25_4 (t 0) (t 1) (t 5)) K25))) = f25_14 L12 (t 0) (t 1) (t 5) (t 39) (t 40) (t 41) := (seq_eq (a := (c1 (c2 (c2 (c1 (c1 (c2 (c1 (c2 (c2 (c2 (c2 B25)))))))))))) (b := (c2 (c2 (c2 (c1 (c1 (c2 (c1 (c2 (c2 (c2 (c2 B25)))))))))))) (fun t => f25_15_eq L12 t) (seq_eq (a := (c1 (c1 (c1 (c2 (c2 (c1 (c1 (c2 (c1 (c2 (c2 (c2 (c2 B25)))))))))))))) (b := (c2 (c1 (c1 (c2 (c2 (c1 (c1 (c2 (c1 (c2 (c2 (c2 (c2 B25)))))))))))))) (fun t => f25_16_eq L12 t) (by kernel_rfl)))
noncomputable def f25_13 (L12 : AV → AV → AV → AV → AV → AV → M AV) (x0 x1 x5 x39 x40 x41 x42 : AV) : M AV :=
 cnd x42 (
 f25_14 L12 x0 x1 x5 x39 x40 x41) (
 f25_4 x0 x1 x5)
theorem f25_13_eq (L12 : AV → AV → AV → AV → AV → AV → M AV) (t : Tmps) : dcode E25 75 (c2 (c1 (c1 (c2 (c1 (c2 (c2 (c2 (c2 B25))))))))) t (kJ (fun t => L12 (t 0) (t 1) (t 5) (t 39) (t 40) (t 41)) (kB 1 (kJ (fun t => f25_4 (t 0) (t 1) (t 5)) K25))) = f25_13 L12 (t 0) (t 1) (t 5) (t 39) (t 40) (t 41) (t 42) := (seq_eq (a := (c1 (c2 (c1 (c1 (c2 (c1 (c2 (c2 (c2 (c2 B25))))))))))) (b := (c2 (c2 (c1 (c1 (c2 (c1 (c2 (c2 (c2 (c2 B25))))))))))) (fun t => f25_14_eq L12 t) (by kernel_rfl))
noncomputable def f25_b12 (L12 : AV → AV → AV → AV → AV → AV → M AV) (x0 x1 x5 x39 x40 x41 : AV) : M AV :=
 bd (bi .lss x41 x40) fun v1 =>
 f25_13 L12 x0 x1 x5 x39 x40 x41 v1
theorem f25_b12_eq (L12 : AV → AV → AV → AV → AV → AV → M AV) (t : Tmps) : dcode E25 75 (c1 (c1 (c2 (c1 (c2 (c2 (c2 (c2 B25)))))))) t (kJ (fun t => L12 (t 0) (t 1) (t 5) (t 39) (t 40) (t 41)) (kB 1 (kJ (fun t => f25_4 (t 0) (t 1) (t 5)) K25))) = f25_b12 L12 (t 0) (t 1) (t 5) (t 39) (t 40) (t 41) := (seq_eq (a := (c1 (c1 (c1 (c2 (c1 (c2 (c2 (c2 (c2 B25)))))))))) (b := (c2 (c1 (c1 (c2 (c1 (c2 (c2 (c2 (c2 B25)))))))))) (fun t => f25_13_eq L12 t) (by kernel_rfl))
noncomputable def f25_l12 : Nat → AV → AV → AV → AV → AV → AV → M AV
  | 0, _, _, _, _, _, _ => fail
  | n + 1, x0, x1, x5, x39, x40, x41 => f25_b12 (f25_l12 n) x0 x1 x5 x39 x40 x41
theorem f25_l12_eq (t : Tmps) : dcode E25 75 (c1 (c2 (c1 (c2 (c2 (c2 (c2 B25))))))) t (kB 1 (kJ (fun t => f25_4 (t 0) (t 1) (t 5)) K25)) = f25_l12 fuel (t 0) (t 1) (t 5) (t 39) (t 40) (t 41) :=
  dloop_eq (c := (c1 (c1 (c2 (c1 (c2 (c2 (c2 (c2 B25))))))))) (g := fun n t => f25_l12 n (t 0) (t 1) (t 5) (t 39) (t 40) (t 41)) (fun _ => rfl) (fun n t => f25_b12_eq (f25_l12 n) t)
noncomputable def f25_11 (x0 x1 x5 x39 x40 x41 : AV) : M AV :=
 f25_l12 fuel x0 x1 x5 x39 x40 x41
theorem f25_11_eq (t : Tmps) : dcode E25 75 (c2 (c1 (c2 (c2 (c2 (c2 B25)))))) t (kJ (fun t => f25_4 (t 0) (t 1) (t 5)) K25) = f25_11 (t 0) (t 1) (t 5) (t 39) (t 40) (t 41) := (f25_l12_eq _)
noncomputable def f25_3 (x0 x1 x5 : AV) : M AV :=
 bd (lnL x0) fun v1 =>
 f25_11 x0 x1 x5 x0 v1 (.int .i64 0)
theorem f25_3_eq (t : Tmps) : dcode E25 75 (c2 (c2 (c2 (c2 B25)))) t K25 = f25_3 (t 0) (t 1) (t 5) := (seq_eq (a := (c1 (c2 (c2 (c2 (c2 B25)))))) (b := (c2 (c2 (c2 (c2 (c2 B25)))))) (fun t => f25_4_eq t) (seq_eq (a := (c1 (c1 (c2 (c2 (c2 (c2 B25))))))) (b := (c2 (c1 (c2 (c2 (c2 (c2 B25))))))) (fun t => f25_11_eq t) (by kernel_rfl)))
noncomputable def f25_19 (x0 x1 x5 : AV) : M AV :=
 bd (lnS x1) fun v1 =>
 bd (lnL x0) fun v2 =>
 bd (bi .sub v2 (.int .i64 1)) fun v3 =>
 bd (bi .mul v1 v3) fun v4 =>
 bd (bi .add x5 v4) fun v5 =>
 f25_3 x0 x1 v5
theorem f25_19_eq (t : Tmps) : dcode E25 75 (c2 (c1 (c2 (c1 (c2 (c2 (c2 B25))))))) t (kJ (fun t => f25_3 (t 0) (t 1) (t 5)) K25) = f25_19 (t 0) (t 1) (t 5) := by kernel_rfl
noncomputable def f25_18 (x0 x1 x5 x22 : AV) : M AV :=
 cnd x22 (
 bd (lnS x1) fun v1 =>
 bd (lnL x0) fun v2 =>
 bd (bi .sub v2 (.int .i64 1)) fun v3 =>
 bd (bi .quo (.int .i64 9223372036854775807) v3) fun v4 =>
 bd (bi .geq v1 v4) fun v5 =>
 cnd v5 (
 bd (fail : M AV) fun v6 =>
 bd (fail : M AV) fun _ =>
 f25_19 x0 x1 x5) (
 f25_19 x0 x1 x5)) (
 f25_3 x0 x1 x5)
theorem f25_18_eq (t : Tmps) : dcode E25 75 (c2 (c1 (c2 (c2 (c2 B25))))) t (kJ (fun t => f25_3 (t 0) (t 1) (t 5)) K25) = f25_18 (t 0) (t 1) (t 5) (t 22) := (cond_eq (a := c1 (c2 (c1 (c2 (c2 (c2 B25)))))) (b := c2 (c2 (c1 (c2 (c2 (c2 B25)))))) (seq_eq (a := (c1 (c1 (c2 (c1 (c2 (c2 (c2 B25)))))))) (b := (c2 (c1 (c2 (c1 (c2 (c2 (c2 B25)))))))) (fun t => f25_19_eq t) (by kernel_rfl)) (by kernel_rfl))
noncomputable def f25_2 (x0 x1 x5 : AV) : M AV :=
 bd (lnS x1) fun v1 =>
 bd (bi .gtr v1 (.int .i64 0)) fun v2 =>
 f25_18 x0 x1 x5 v2
theorem f25_2_eq (t : Tmps) : dcode E25 75 (c2 (c2 (c2 B25))) t K25 = f25_2 (t 0) (t 1) (t 5) := (seq_eq (a := (c1 (c2 (c2 (c2 B25))))) (b := (c2 (c2 (c2 (c2 B25))))) (fun t => f25_3_eq t) (seq_eq (a := (c1 (c1 (c2 (c2 (c2 B25)))))) (b := (c2 (c1 (c2 (c2 (c2 B25)))))) (fun t => f25_18_eq t) (by kernel_rfl)))
noncomputable def f25_1 (x0 x1 : AV) : M AV :=
 f25_2 x0 x1 (.int .i64 0)
theorem f25_1_eq (t : Tmps) : dcode E25 75 (c2 (c2 B25)) t K25 = f25_1 (t 0) (t 1) := (seq_eq (a := (c1 (c2 (c2 B25)))) (b := (c2 (c2 (c2 B25)))) (fun t => f25_2_eq t) (by kernel_rfl))
noncomputable def f25_0 (x0 x1 : AV) : M AV :=
 bd (lnL x0) fun v1 =>
 bd (bi .eql v1 (.int .i64 0)) fun v2 =>
 cnd v2 (
 ret (.str [])) (
 bd (bi .eql v1 (.int .i64 1)) fun v3 =>
 cnd v3 (
 bd (ixp 1 x0 (.int .i64 0)) fun v4 =>
 bd (ld v4) fun v5 =>
 ret v5) (
 f25_1 x0 x1))
theorem f25_0_eq (t : Tmps) : dcode E25 75 (c2 B25) t K25 = f25_0 (t 0) (t 1) := (seq_eq (a := (c1 (c2 B25))) (b := (c2 (c2 B25))) (fun t => f25_1_eq t) (by kernel_rfl))
noncomputable def f25 (x0 x1 : AV) : M AV :=
 f25_0 x0 x1
theorem f25_top (t : Tmps) : dcode E25 75 B25 t K25 = f25 (t 0) (t 1) := (seq_eq (a := (c1 B25)) (b := (c2 B25)) (fun t => f25_0_eq t) (by kernel_rfl))
theorem f25_eq (x0 x1 : AV) : dfn E25 Go.Proofs.Tryz.f25 [x0, x1] = f25 x0 x1 := dfn_eq (c := B25) (nt := 75) (K := K25) (by kernel_rfl) (by kernel_rfl) rfl (by kernel_rfl) (f25_top (argT [x0, x1]))
theorem O25 : EnvOK E25 := ⟨fun g xs => (ok_if (S36 xs) (ok_if (S37 xs) (ok_if (S55 xs) ok_fail))), ap_fail⟩
theorem S25 (xs : List AV) : CallOK Go.Proofs.Tryz.prog 3 25 xs (L2 f25 xs) := ok_L2 (fun x0 x1 => ok_fn (E := E25) (fn := Go.Proofs.Tryz.f25) O25 rfl rfl (by kernel_rfl) (by kernel_rfl) (f25_eq x0 x1)) xs

/-! ### etui/iri.dots: function 16 -/
noncomputable def C16 (g : FuncId) (xs : List AV) : M AV := bif Nat.beq g 23 then L2 f23 xs else bif Nat.beq g 25 then L2 f25 xs else fail
noncomputable def E16 : Env := ⟨Go.Proofs.Tryz.prog, 3, C16, fun _ _ => fail, fun _ => [], 16, none⟩
noncomputable def B16 : Code := bodyOf Go.Proofs.Tryz.f16
noncomputable def K16 : KT := dK Go.Proofs.Tryz.prog Go.Proofs.Tryz.f16.results.toList
noncomputable def f16_4 (x4 : AV) : M AV :=
 bd (f25 x4 (.str [47])) fun v1 =>
 bd (bi .add (.str [47]) v1) fun v2 =>
 ret v2
theorem f16_4_eq (t : Tmps) : dcode E16 51 (c2 (c2 (c2 (c2 (c2 B16))))) t K16 = f16_4 (t 4) := by kernel_rfl
noncomputable def f16_3 (x3 x4 : AV) : M AV :=
 bd (lnL x3) fun v1 =>
 bd (bi .sub v1 (.int .i64 1)) fun v2 =>
 bd (ixp 1 x3 v2) fun v3 =>
 bd (ld v3) fun v4 =>
 bd (bi .eql v4 (.str [46])) fun v5 =>
 bd (gd v5 false (ret v4)) fun v6 =>
 bd (gd v5 false (bi .eql v6 (.str [46, 46]))) fun v7 =>
 bd (pk v5 (.bool true) v7) fun v8 =>
 cnd v8 (
 bd (bsl 9 1 1 [(.str [])] [(0, 1, (.str []))]) fun v9 =>
 bd (app 9 1 16 x4 v9) fun v10 =>
 f16_4 v10) (
 f16_4 x4)
theorem f16_3_eq (t : Tmps) : dcode E16 51 (c2 (c2 (c2 (c2 B16)))) t K16 = f16_3 (t 3) (t 4) := (seq_eq (a := (c1 (c2 (c2 (c2 (c2 B16)))))) (b := (c2 (c2 (c2 (c2 (c2 B16)))))) (fun t => f16_4_eq t) (by kernel_rfl))
noncomputable def f16_9 (L6 : AV → AV → AV → AV → AV → M AV) (x3 x4 x11 x12 x13 : AV) : M AV :=
 bd (bi .add x13 (.int .i64 1)) fun v1 =>
 L6 x3 x4 x11 x12 v1
theorem f16_9_eq (L6 : AV → AV → AV → AV → AV → M AV) (t : Tmps) : dcode E16 51 (c2 (c2 (c2 (c1 (c1 (c2 (c1 (c2 (c2 (c2 B16)))))))))) t (kJ (fun t => L6 (t 3) (t 4) (t 11) (t 12) (t 13)) (kB 0 (kJ (fun t => f16_3 (t 3) (t 4)) K16))) = f16_9 L6 (t 3) (t 4) (t 11) (t 12) (t 13) := by kernel_rfl
noncomputable def f16_8 (L6 : AV → AV → AV → AV → AV → M AV) (x3 x4 x11 x12 x13 : AV) : M AV :=
 bd (ixp 1 x11 x13) fun v1 =>
 bd (ld v1) fun v2 =>
 bd (bi .eql v2 (.str [46])) fun v3 =>
 cnd v3 (
 f16_9 L6 x3 x4 x11 x12 x13) (
 bd (bi .eql v2 (.str [46, 46])) fun v4 =>
 cnd v4 (
 bd (lnL x4) fun v5 =>
 bd (bi .sub v5 (.int .i64 1)) fun v6 =>
 bd (fold2 mx2 v6 [(.int .i64 0)]) fun v7 =>
 bd (sls 1 x4 none (some v7)) fun v8 =>
 f16_9 L6 x3 v8 x11 x12 x13) (
 bd (bsl 9 1 1 [(.str [])] [(0, 1, v2)]) fun v9 =>
 bd (app 9 1 16 x4 v9) fun v10 =>
 f16_9 L6 x3 v10 x11 x12 x13))
theorem f16_8_eq (L6 : AV → AV → AV → AV → AV → M AV) (t : Tmps) : dcode E16 51 (c2 (c2 (c1 (c1 (c2 (c1 (c2 (c2 (c2 B16))))))))) t (kJ (fun t => L6 (t 3) (t 4) (t 11) (t 12) (t 13)) (kB 0 (kJ (fun t => f16_3 (t 3) (t 4)) K16))) = f16_8 L6 (t 3) (t 4) (t 11) (t 12) (t 13) := (seq_eq (a := (c1 (c2 (c2 (c1 (c1 (c2 (c1 (c2 (c2 (c2 B16))))))))))) (b := (c2 (c2 (c2 (c1 (c1 (c2 (c1 (c2 (c2 (c2 B16))))))))))) (fun t => f16_9_eq L6 t) (by kernel_rfl))
noncomputable def f16_7 (L6 : AV → AV → AV → AV → AV → M AV) (x3 x4 x11 x12 x13 x14 : AV) : M AV :=
 cnd x14 (
 f16_8 L6 x3 x4 x11 x12 x13) (
 f16_3 x3 x4)
theorem f16_7_eq (L6 : AV → AV → AV → AV → AV → M AV) (t : Tmps) : dcode E16 51 (c2 (c1 (c1 (c2 (c1 (c2 (c2 (c2 B16)))))))) t (kJ (fun t => L6 (t 3) (t 4) (t 11) (t 12) (t 13)) (kB 0 (kJ (fun t => f16_3 (t 3) (t 4)) K16))) = f16_7 L6 (t 3) (t 4) (t 11) (t 12) (t 13) (t 14) := (seq_eq (a := (c1 (c2 (c1 (c1 (c2 (c1 (c2 (c2 (c2 B16)))))))))) (b := (c2 (c2 (c1 (c1 (c2 (c1 (c2 (c2 (c2 B16)))))))))) (fun t => f16_8_eq L6 t) (by kernel_rfl))
noncomputable def f16_b6 (L6 : AV → AV → AV → AV → AV → M AV) (x3 x4 x11 x12 x13 : AV) : M AV :=
 bd (bi .lss x13 x12) fun v1 =>
 f16_7 L6 x3 x4 x11 x12 x13 v1
theorem f16_b6_eq (L6 : AV → AV → AV → AV → AV → M AV) (t : Tmps) : dcode E16 51 (c1 (c1 (c2 (c1 (c2 (c2 (c2 B16))))))) t (kJ (fun t => L6 (t 3) (t 4) (t 11) (t 12) (t 13)) (kB 0 (kJ (fun t => f16_3 (t 3) (t 4)) K16))) = f16_b6 L6 (t 3) (t 4) (t 11) (t 12) (t 13) := (seq_eq (a := (c1 (c1 (c1 (c2 (c1 (c2 (c2 (c2 B16))))))))) (b := (c2 (c1 (c1 (c2 (c1 (c2 (c2 (c2 B16))))))))) (fun t => f16_7_eq L6 t) (by kernel_rfl))
noncomputable def f16_l6 : Nat → AV → AV → AV → AV → AV → M AV
  | 0, _, _, _, _, _ => fail
  | n + 1, x3, x4, x11, x12, x13 => f16_b6 (f16_l6 n) x3 x4 x11 x12 x13
theorem f16_l6_eq (t : Tmps) : dcode E16 51 (c1 (c2 (c1 (c2 (c2 (c2 B16)))))) t (kB 0 (kJ (fun t => f16_3 (t 3) (t 4)) K16)) = f16_l6 fuel (t 3) (t 4) (t 11) (t 12) (t 13) :=
  dloop_eq (c := (c1 (c1 (c2 (c1 (c2 (c2 (c2 B16)))))))) (g := fun n t => f16_l6 n (t 3) (t 4) (t 11) (t 12) (t 13)) (fun _ => rfl) (fun n t => f16_b6_eq (f16_l6 n) t)
noncomputable def f16_5 (x3 x4 x11 x12 x13 : AV) : M AV :=
 f16_l6 fuel x3 x4 x11 x12 x13
theorem f16_5_eq (t : Tmps) : dcode E16 51 (c2 (c1 (c2 (c2 (c2 B16))))) t (kJ (fun t => f16_3 (t 3) (t 4)) K16) = f16_5 (t 3) (t 4) (t 11) (t 12) (t 13) := (f16_l6_eq _)
noncomputable def f16_2 (x3 x4 : AV) : M AV :=
 bd (lnL x3) fun v1 =>
 f16_5 x3 x4 x3 v1 (.int .i64 0)
theorem f16_2_eq (t : Tmps) : dcode E16 51 (c2 (c2 (c2 B16))) t K16 = f16_2 (t 3) (t 4) := (seq_eq (a := (c1 (c2 (c2 (c2 B16))))) (b := (c2 (c2 (c2 (c2 B16))))) (fun t => f16_3_eq t) (seq_eq (a := (c1 (c1 (c2 (c2 (c2 B16)))))) (b := (c2 (c1 (c2 (c2 (c2 B16)))))) (fun t => f16_5_eq t) (by kernel_rfl)))
noncomputable def f16_1 (x3 : AV) : M AV :=
 f16_2 x3 .slN
theorem f16_1_eq (t : Tmps) : dcode E16 51 (c2 (c2 B16)) t K16 = f16_1 (t 3) := (seq_eq (a := (c1 (c2 (c2 B16)))) (b := (c2 (c2 (c2 B16)))) (fun t => f16_2_eq t) (by kernel_rfl))
noncomputable def f16_0 (x0 : AV) : M AV :=
 bd (ss x0 (some (.int .i64 1)) none) fun v1 =>
 bd (f23 v1 (.str [47])) fun v2 =>
 f16_1 v2
theorem f16_0_eq (t : Tmps) : dcode E16 51 (c2 B16) t K16 = f16_0 (t 0) := (seq_eq (a := (c1 (c2 B16))) (b := (c2 (c2 B16))) (fun t => f16_1_eq t) (by kernel_rfl))
noncomputable def f16 (x0 : AV) : M AV :=
 f16_0 x0
theorem f16_top (t : Tmps) : dcode E16 51 B16 t K16 = f16 (t 0) := (seq_eq (a := (c1 B16)) (b := (c2 B16)) (fun t => f16_0_eq t) (by kernel_rfl))
theorem f16_eq (x0 : AV) : dfn E16 Go.Proofs.Tryz.f16 [x0] = f16 x0 := dfn_eq (c := B16) (nt := 51) (K := K16) (by kernel_rfl) (by kernel_rfl) rfl (by kernel_rfl) (f16_top (argT [x0]))
theorem O16 : EnvOK E16 := ⟨fun g xs => (ok_if (S23 xs) (ok_if (S25 xs) ok_fail)), ap_fail⟩
theorem S16 (xs : List AV) : CallOK Go.Proofs.Tryz.prog 3 16 xs (L1 f16 xs) := ok_L1 (fun x0 => ok_fn (E := E16) (fn := Go.Proofs.Tryz.f16) O16 rfl rfl (by kernel_rfl) (by kernel_rfl) (f16_eq x0)) xs

/-! ### etui/iri.Resolve: function 5 -/
noncomputable def C5 (ap : FuncId → List AV → M AV) (g : FuncId) (xs : List AV) : M AV := bif Nat.beq g 12 then L1 (f12 ap) xs else bif Nat.beq g 14 then L2 f14 xs else bif Nat.beq g 15 then L1 f15 xs else bif Nat.beq g 16 then L1 f16 xs else fail
noncomputable def E5 (ap : FuncId → List AV → M AV) : Env := ⟨Go.Proofs.Tryz.prog, 3, C5 ap, ap, fun _ => [], 5, none⟩
noncomputable def B5 : Code := bodyOf Go.Proofs.Tryz.f5
noncomputable def K5 : KT := dK Go.Proofs.Tryz.prog Go.Proofs.Tryz.f5.results.toList
noncomputable def f5_2 (ap : FuncId → List AV → M AV) (x4 x6 : AV) : M AV :=
 bd (fa x6 2) fun v1 =>
 bd (ld v1) fun v2 =>
 bd (f16 v2) fun v3 =>
 bd (fa x6 2) fun v4 =>
 bd (st v4 v3) fun _ =>
 bd (lda 9 x6) fun v5 =>
 bd (sta 9 x4 v5) fun _ =>
 bd (lda 9 x4) fun v6 => ret (.tuple [v6, (.int .i64 0)])
theorem f5_2_eq (ap : FuncId → List AV → M AV) (t : Tmps) : dcode (E5 ap) 58 (c2 (c2 (c2 B5))) t K5 = f5_2 ap (t 4) (t 6) := by kernel_rfl
noncomputable def f5_1 (ap : FuncId → List AV → M AV) (x0 x4 x6 x7 : AV) : M AV :=
 bd (un .not x7) fun v1 =>
 cnd v1 (
 bd (bu [(.str []), (.str []), (.str []), (.str []), (.str []), (.bool false), (.bool false), (.bool false), (.bool false)] []) fun v2 =>
 bd (sta 9 x4 v2) fun _ =>
 bd (lda 9 x4) fun v3 => ret (.tuple [v3, (.int .i64 10)])) (
 bd (fa x6 5) fun v4 =>
 bd (ld v4) fun v5 =>
 bd (gd v5 false (fa x6 6)) fun v6 =>
 bd (gd v5 false (ld v6)) fun v7 =>
 bd (pk v5 (.bool true) v7) fun v8 =>
 bd (gd v8 false (ret x0)) fun v9 =>
 bd (gd v8 false (f14 v9 (.str [47]))) fun v10 =>
 bd (gd v8 false (un .not v10)) fun v11 =>
 bd (pk v8 (.bool true) v11) fun v12 =>
 cnd v12 (
 bd (bu [(.str []), (.str []), (.str []), (.str []), (.str []), (.bool false), (.bool false), (.bool false), (.bool false)] []) fun v13 =>
 bd (sta 9 x4 v13) fun _ =>
 bd (lda 9 x4) fun v14 => ret (.tuple [v14, (.int .i64 21)])) (
 bd (fa x6 2) fun v15 =>
 bd (ld v15) fun v16 =>
 bd (bi .eql v16 (.str [])) fun v17 =>
 cnd v17 (
 bd (fa x6 2) fun v18 =>
 bd (st v18 x0) fun _ =>
 f5_2 ap x4 x6) (
 bd (fa x6 2) fun v19 =>
 bd (ld v19) fun v20 =>
 bd (ixs v20 (.int .i64 0)) fun v21 =>
 bd (bi .neq v21 (.int .u8 47)) fun v22 =>
 cnd v22 (
 bd (f15 x0) fun v23 =>
 bd (ex v23 0) fun v24 =>
 bd (ex v23 1) fun v25 =>
 bd (fa x6 2) fun v26 =>
 bd (ld v26) fun v27 =>
 bd (bi .add v24 v27) fun v28 =>
 bd (fa x6 2) fun v29 =>
 bd (st v29 v28) fun _ =>
 f5_2 ap x4 x6) (
 f5_2 ap x4 x6))))
theorem f5_1_eq (ap : FuncId → List AV → M AV) (t : Tmps) : dcode (E5 ap) 58 (c2 (c2 B5)) t K5 = f5_1 ap (t 0) (t 4) (t 6) (t 7) := (seq_eq (a := (c1 (c2 (c2 B5)))) (b := (c2 (c2 (c2 B5)))) (fun t => f5_2_eq ap t) (by kernel_rfl))
noncomputable def f5_0 (ap : FuncId → List AV → M AV) (x0 x1 x4 : AV) : M AV :=
 bd (f12 ap x1) fun v1 =>
 bd (ex v1 0) fun v2 =>
 bd (ex v1 1) fun v3 =>
 bd (bx 24 (.agg [(.str []), (.str []), (.str []), (.str []), (.str []), (.bool false), (.bool false), (.bool false), (.bool false)])) fun v4 =>
 bd (sta 9 v4 v2) fun _ =>
 f5_1 ap x0 x4 v4 v3
theorem f5_0_eq (ap : FuncId → List AV → M AV) (t : Tmps) : dcode (E5 ap) 58 (c2 B5) t K5 = f5_0 ap (t 0) (t 1) (t 4) := (seq_eq (a := (c1 (c2 B5))) (b := (c2 (c2 B5))) (fun t => f5_1_eq ap t) (by kernel_rfl))
noncomputable def f5 (ap : FuncId → List AV → M AV) (x0 x1 : AV) : M AV :=
 bd (bx 24 (.agg [(.str []), (.str []), (.str []), (.str []), (.str []), (.bool false), (.bool false), (.bool false), (.bool false)])) fun v1 =>
 f5_0 ap x0 x1 v1
theorem f5_top (ap : FuncId → List AV → M AV) (t : Tmps) : dcode (E5 ap) 58 B5 t K5 = f5 ap (t 0) (t 1) := (seq_eq (a := (c1 B5)) (b := (c2 B5)) (fun t => f5_0_eq ap t) (by kernel_rfl))
theorem f5_eq (ap : FuncId → List AV → M AV) (x0 x1 : AV) : dfn (E5 ap) Go.Proofs.Tryz.f5 [x0, x1] = f5 ap x0 x1 := dfn_eq (c := B5) (nt := 58) (K := K5) (by kernel_rfl) (by kernel_rfl) rfl (by kernel_rfl) (f5_top ap (argT [x0, x1]))
theorem O5 (ap : FuncId → List AV → M AV) (hap : ApOK Go.Proofs.Tryz.prog 3 ap) : EnvOK (E5 ap) := ⟨fun g xs => (ok_if (S12 ap hap xs) (ok_if (S14 xs) (ok_if (S15 xs) (ok_if (S16 xs) ok_fail)))), hap⟩
theorem S5 (ap : FuncId → List AV → M AV) (hap : ApOK Go.Proofs.Tryz.prog 3 ap) (xs : List AV) : CallOK Go.Proofs.Tryz.prog 3 5 xs (L2 (f5 ap) xs) := ok_L2 (fun x0 x1 => ok_fn (E := (E5 ap)) (fn := Go.Proofs.Tryz.f5) (O5 ap hap) rfl rfl (by kernel_rfl) (by kernel_rfl) (f5_eq ap x0 x1)) xs

/-! ### strings.splitSeq: function 72 -/
noncomputable def C72 (g : FuncId) (xs : List AV) : M AV := fail
noncomputable def E72 : Env := ⟨Go.Proofs.Tryz.prog, 3, C72, fun _ _ => fail, fun _ => [], 72, none⟩
noncomputable def B72 : Code := bodyOf Go.Proofs.Tryz.f72
noncomputable def K72 : KT := dK Go.Proofs.Tryz.prog Go.Proofs.Tryz.f72.results.toList
noncomputable def f72 (x0 x1 x2 : AV) : M AV :=
 bd (bx 9 x0) fun v1 =>
 bd (bx 9 x1) fun v2 =>
 bd (bx 3 x2) fun v3 =>
 bd (ret (.func 84 [] [v2, v1, v3])) fun v4 =>
 ret v4
theorem f72_eq (x0 x1 x2 : AV) : dfn E72 Go.Proofs.Tryz.f72 [x0, x1, x2] = f72 x0 x1 x2 := dfn_eq (c := B72) (nt := 8) (K := K72) (by kernel_rfl) (by kernel_rfl) rfl (by kernel_rfl) (by kernel_rfl)
theorem O72 : EnvOK E72 := ⟨fun g xs => ok_fail, ap_fail⟩
theorem S72 (xs : List AV) : CallOK Go.Proofs.Tryz.prog 3 72 xs (L3 f72 xs) := ok_L3 (fun x0 x1 x2 => ok_fn (E := E72) (fn := Go.Proofs.Tryz.f72) O72 rfl rfl (by kernel_rfl) (by kernel_rfl) (f72_eq x0 x1 x2)) xs

/-! ### strings.SplitSeq: function 51 -/
noncomputable def C51 (g : FuncId) (xs : List AV) : M AV := bif Nat.beq g 72 then L3 f72 xs else fail
noncomputable def E51 : Env := ⟨Go.Proofs.Tryz.prog, 3, C51, fun _ _ => fail, fun _ => [], 51, none⟩
noncomputable def B51 : Code := bodyOf Go.Proofs.Tryz.f51
noncomputable def K51 : KT := dK Go.Proofs.Tryz.prog Go.Proofs.Tryz.f51.results.toList
noncomputable def f51 (x0 x1 : AV) : M AV :=
 bd (f72 x0 x1 (.int .i64 0)) fun v1 =>
 ret v1
theorem f51_eq (x0 x1 : AV) : dfn E51 Go.Proofs.Tryz.f51 [x0, x1] = f51 x0 x1 := dfn_eq (c := B51) (nt := 8) (K := K51) (by kernel_rfl) (by kernel_rfl) rfl (by kernel_rfl) (by kernel_rfl)
theorem O51 : EnvOK E51 := ⟨fun g xs => (ok_if (S72 xs) ok_fail), ap_fail⟩
theorem S51 (xs : List AV) : CallOK Go.Proofs.Tryz.prog 3 51 xs (L2 f51 xs) := ok_L2 (fun x0 x1 => ok_fn (E := E51) (fn := Go.Proofs.Tryz.f51) O51 rfl rfl (by kernel_rfl) (by kernel_rfl) (f51_eq x0 x1)) xs

/-! ### etui/pname.letter: function 69 -/
noncomputable def C69 (g : FuncId) (xs : List AV) : M AV := fail
noncomputable def E69 : Env := ⟨Go.Proofs.Tryz.prog, 3, C69, fun _ _ => fail, fun _ => [], 69, none⟩
noncomputable def B69 : Code := bodyOf Go.Proofs.Tryz.f69
noncomputable def K69 : KT := dK Go.Proofs.Tryz.prog Go.Proofs.Tryz.f69.results.toList
noncomputable def f69 (x0 : AV) : M AV :=
 bd (bi .geq x0 (.int .u8 65)) fun v1 =>
 bd (gd v1 true (ret x0)) fun v2 =>
 bd (gd v1 true (bi .leq v2 (.int .u8 90))) fun v3 =>
 bd (pk v1 v3 (.bool false)) fun v4 =>
 bd (gd v4 false (ret x0)) fun v5 =>
 bd (gd v4 false (bi .geq v5 (.int .u8 97))) fun v6 =>
 bd (gd v4 false (ret v6)) fun v7 =>
 bd (gd v7 true (ret x0)) fun v8 =>
 bd (gd v7 true (bi .leq v8 (.int .u8 122))) fun v9 =>
 bd (gd v4 false (pk v7 v9 (.bool false))) fun v10 =>
 bd (pk v4 (.bool true) v10) fun v11 =>
 ret v11
theorem f69_eq (x0 : AV) : dfn E69 Go.Proofs.Tryz.f69 [x0] = f69 x0 := dfn_eq (c := B69) (nt := 17) (K := K69) (by kernel_rfl) (by kernel_rfl) rfl (by kernel_rfl) (by kernel_rfl)
theorem O69 : EnvOK E69 := ⟨fun g xs => ok_fail, ap_fail⟩
theorem S69 (xs : List AV) : CallOK Go.Proofs.Tryz.prog 3 69 xs (L1 f69 xs) := ok_L1 (fun x0 => ok_fn (E := E69) (fn := Go.Proofs.Tryz.f69) O69 rfl rfl (by kernel_rfl) (by kernel_rfl) (f69_eq x0)) xs

/-! ### etui/pname.digit: function 68 -/
noncomputable def C68 (g : FuncId) (xs : List AV) : M AV := bif Nat.beq g 69 then L1 f69 xs else bif Nat.beq g 70 then L2 f70 xs else fail
noncomputable def E68 : Env := ⟨Go.Proofs.Tryz.prog, 3, C68, fun _ _ => fail, fun _ => [], 68, none⟩
noncomputable def B68 : Code := bodyOf Go.Proofs.Tryz.f68
noncomputable def K68 : KT := dK Go.Proofs.Tryz.prog Go.Proofs.Tryz.f68.results.toList
noncomputable def f68_1 (x0 : AV) : M AV :=
 bd (f70 (.str [48, 49, 50, 51, 52, 53, 54, 55, 56, 57, 65, 66, 67, 68, 69, 70]) x0) fun v1 =>
 ret v1
theorem f68_1_eq (t : Tmps) : dcode E68 9 (c2 (c2 B68)) t K68 = f68_1 (t 0) := by kernel_rfl
noncomputable def f68_0 (x0 : AV) : M AV :=
 bd (f69 x0) fun v1 =>
 cnd v1 (
 bd (bi .andNot x0 (.int .u8 32)) fun v2 =>
 f68_1 v2) (
 f68_1 x0)
theorem f68_0_eq (t : Tmps) : dcode E68 9 (c2 B68) t K68 = f68_0 (t 0) := (seq_eq (a := (c1 (c2 B68))) (b := (c2 (c2 B68))) (fun t => f68_1_eq t) (by kernel_rfl))
noncomputable def f68 (x0 : AV) : M AV :=
 f68_0 x0
theorem f68_top (t : Tmps) : dcode E68 9 B68 t K68 = f68 (t 0) := (seq_eq (a := (c1 B68)) (b := (c2 B68)) (fun t => f68_0_eq t) (by kernel_rfl))
theorem f68_eq (x0 : AV) : dfn E68 Go.Proofs.Tryz.f68 [x0] = f68 x0 := dfn_eq (c := B68) (nt := 9) (K := K68) (by kernel_rfl) (by kernel_rfl) rfl (by kernel_rfl) (f68_top (argT [x0]))
theorem O68 : EnvOK E68 := ⟨fun g xs => (ok_if (S69 xs) (ok_if (S70 xs) ok_fail)), ap_fail⟩
theorem S68 (xs : List AV) : CallOK Go.Proofs.Tryz.prog 3 68 xs (L1 f68 xs) := ok_L1 (fun x0 => ok_fn (E := E68) (fn := Go.Proofs.Tryz.f68) O68 rfl rfl (by kernel_rfl) (by kernel_rfl) (f68_eq x0)) xs

/-! ### etui/pname.told: function 43 -/
noncomputable def C43 (g : FuncId) (xs : List AV) : M AV := bif Nat.beq g 68 then L1 f68 xs else fail
noncomputable def E43 : Env := ⟨Go.Proofs.Tryz.prog, 3, C43, fun _ _ => fail, fun i => bif Nat.beq i 3 then [0, 1, 3, 4, 2, 5, 6, 7] else [], 43, none⟩
noncomputable def B43 : Code := bodyOf Go.Proofs.Tryz.f43
noncomputable def K43 : KT := dK Go.Proofs.Tryz.prog Go.Proofs.Tryz.f43.results.toList
noncomputable def f43 (x0 : AV) : M AV :=
 bd (lnS x0) fun v1 =>
 bd (bi .lss v1 (.int .i64 3)) fun v2 =>
 bd (gd v2 false (ret x0)) fun v3 =>
 bd (gd v2 false (ixs v3 (.int .i64 0))) fun v4 =>
 bd (gd v2 false (bi .neq v4 (.int .u8 37))) fun v5 =>
 bd (pk v2 (.bool true) v5) fun v6 =>
 cnd v6 (
 ret (.tuple [(.int .u8 0), (.bool false)])) (
 bd (ret x0) fun v7 =>
 bd (ixs v7 (.int .i64 1)) fun v8 =>
 bd (ret x0) fun v9 =>
 bd (ixs v9 (.int .i64 2)) fun v10 =>
 bd (f68 v8) fun v11 =>
 bd (f68 v10) fun v12 =>
 bd (ret v11) fun v13 =>
 bd (ret v12) fun v14 =>
 bd (bi .shl v13 (.int .u64 4)) fun v15 =>
 bd (bi .and v14 (.int .i64 15)) fun v16 =>
 bd (bi .or v15 v16) fun v17 =>
 bd (ci .u8 v17) fun v18 =>
 bd (bi .geq v13 (.int .i64 0)) fun v19 =>
 bd (gd v19 true (ret v14)) fun v20 =>
 bd (gd v19 true (bi .geq v20 (.int .i64 0))) fun v21 =>
 bd (pk v19 v21 (.bool false)) fun v22 =>
 ret (.tuple [v18, v22]))
theorem f43_eq (x0 : AV) : dfn E43 Go.Proofs.Tryz.f43 [x0] = f43 x0 := dfn_eq (c := B43) (nt := 32) (K := K43) (by kernel_rfl) (by kernel_rfl) rfl (by kernel_rfl) (by kernel_rfl)
theorem O43 : EnvOK E43 := ⟨fun g xs => (ok_if (S68 xs) ok_fail), ap_fail⟩
theorem S43 (xs : List AV) : CallOK Go.Proofs.Tryz.prog 3 43 xs (L1 f43 xs) := ok_L1 (fun x0 => ok_fn (E := E43) (fn := Go.Proofs.Tryz.f43) O43 rfl rfl (by kernel_rfl) (by kernel_rfl) (f43_eq x0)) xs

/-! ### etui/pname.plain: function 44 -/
noncomputable def C44 (g : FuncId) (xs : List AV) : M AV := bif Nat.beq g 69 then L1 f69 xs else bif Nat.beq g 70 then L2 f70 xs else fail
noncomputable def E44 : Env := ⟨Go.Proofs.Tryz.prog, 3, C44, fun _ _ => fail, fun _ => [], 44, none⟩
noncomputable def B44 : Code := bodyOf Go.Proofs.Tryz.f44
noncomputable def K44 : KT := dK Go.Proofs.Tryz.prog Go.Proofs.Tryz.f44.results.toList
noncomputable def f44 (x0 : AV) : M AV :=
 bd (f69 x0) fun v1 =>
 bd (gd v1 false (ret x0)) fun v2 =>
 bd (gd v1 false (bi .geq v2 (.int .u8 48))) fun v3 =>
 bd (gd v1 false (ret v3)) fun v4 =>
 bd (gd v4 true (ret x0)) fun v5 =>
 bd (gd v4 true (bi .leq v5 (.int .u8 57))) fun v6 =>
 bd (gd v1 false (pk v4 v6 (.bool false))) fun v7 =>
 bd (pk v1 (.bool true) v7) fun v8 =>
 bd (gd v8 false (ret x0)) fun v9 =>
 bd (gd v8 false (f70 (.str [45, 46, 95, 126]) v9)) fun v10 =>
 bd (gd v8 false (bi .geq v10 (.int .i64 0))) fun v11 =>
 bd (pk v8 (.bool true) v11) fun v12 =>
 ret v12
theorem f44_eq (x0 : AV) : dfn E44 Go.Proofs.Tryz.f44 [x0] = f44 x0 := dfn_eq (c := B44) (nt := 18) (K := K44) (by kernel_rfl) (by kernel_rfl) rfl (by kernel_rfl) (by kernel_rfl)
theorem O44 : EnvOK E44 := ⟨fun g xs => (ok_if (S69 xs) (ok_if (S70 xs) ok_fail)), ap_fail⟩
theorem S44 (xs : List AV) : CallOK Go.Proofs.Tryz.prog 3 44 xs (L1 f44 xs) := ok_L1 (fun x0 => ok_fn (E := E44) (fn := Go.Proofs.Tryz.f44) O44 rfl rfl (by kernel_rfl) (by kernel_rfl) (f44_eq x0)) xs

/-! ### etui/pname.sign: function 47 -/
noncomputable def C47 (g : FuncId) (xs : List AV) : M AV := bif Nat.beq g 44 then L1 f44 xs else bif Nat.beq g 70 then L2 f70 xs else fail
noncomputable def E47 : Env := ⟨Go.Proofs.Tryz.prog, 3, C47, fun _ _ => fail, fun _ => [], 47, none⟩
noncomputable def B47 : Code := bodyOf Go.Proofs.Tryz.f47
noncomputable def K47 : KT := dK Go.Proofs.Tryz.prog Go.Proofs.Tryz.f47.results.toList
noncomputable def f47 (x0 : AV) : M AV :=
 bd (f44 x0) fun v1 =>
 bd (gd v1 false (ret x0)) fun v2 =>
 bd (gd v1 false (f70 (.str [33, 36, 38, 39, 40, 41, 42, 43, 44, 59, 61, 58, 64]) v2)) fun v3 =>
 bd (gd v1 false (bi .geq v3 (.int .i64 0))) fun v4 =>
 bd (pk v1 (.bool true) v4) fun v5 =>
 ret v5
theorem f47_eq (x0 : AV) : dfn E47 Go.Proofs.Tryz.f47 [x0] = f47 x0 := dfn_eq (c := B47) (nt := 10) (K := K47) (by kernel_rfl) (by kernel_rfl) rfl (by kernel_rfl) (by kernel_rfl)
theorem O47 : EnvOK E47 := ⟨fun g xs => (ok_if (S44 xs) (ok_if (S70 xs) ok_fail)), ap_fail⟩
theorem S47 (xs : List AV) : CallOK Go.Proofs.Tryz.prog 3 47 xs (L1 f47 xs) := ok_L1 (fun x0 => ok_fn (E := E47) (fn := Go.Proofs.Tryz.f47) O47 rfl rfl (by kernel_rfl) (by kernel_rfl) (f47_eq x0)) xs

/-! ### internal/stringslite.HasSuffix: function 86 -/
noncomputable def C86 (g : FuncId) (xs : List AV) : M AV := fail
noncomputable def E86 : Env := ⟨Go.Proofs.Tryz.prog, 3, C86, fun _ _ => fail, fun _ => [], 86, none⟩
noncomputable def B86 : Code := bodyOf Go.Proofs.Tryz.f86
noncomputable def K86 : KT := dK Go.Proofs.Tryz.prog Go.Proofs.Tryz.f86.results.toList
noncomputable def f86 (x0 x1 : AV) : M AV :=
 bd (lnS x0) fun v1 =>
 bd (lnS x1) fun v2 =>
 bd (bi .geq v1 v2) fun v3 =>
 bd (gd v3 true (ret x0)) fun v4 =>
 bd (gd v3 true (ret x0)) fun v5 =>
 bd (gd v3 true (lnS v5)) fun v6 =>
 bd (gd v3 true (ret x1)) fun v7 =>
 bd (gd v3 true (lnS v7)) fun v8 =>
 bd (gd v3 true (bi .sub v6 v8)) fun v9 =>
 bd (gd v3 true (ss v4 (some v9) none)) fun v10 =>
 bd (gd v3 true (ret x1)) fun v11 =>
 bd (gd v3 true (bi .eql v10 v11)) fun v12 =>
 bd (pk v3 v12 (.bool false)) fun v13 =>
 ret v13
theorem f86_eq (x0 x1 : AV) : dfn E86 Go.Proofs.Tryz.f86 [x0, x1] = f86 x0 x1 := dfn_eq (c := B86) (nt := 21) (K := K86) (by kernel_rfl) (by kernel_rfl) rfl (by kernel_rfl) (by kernel_rfl)
theorem O86 : EnvOK E86 := ⟨fun g xs => ok_fail, ap_fail⟩
theorem S86 (xs : List AV) : CallOK Go.Proofs.Tryz.prog 3 86 xs (L2 f86 xs) := ok_L2 (fun x0 x1 => ok_fn (E := E86) (fn := Go.Proofs.Tryz.f86) O86 rfl rfl (by kernel_rfl) (by kernel_rfl) (f86_eq x0 x1)) xs

/-! ### strings.HasSuffix: function 73 -/
noncomputable def C73 (g : FuncId) (xs : List AV) : M AV := bif Nat.beq g 86 then L2 f86 xs else fail
noncomputable def E73 : Env := ⟨Go.Proofs.Tryz.prog, 3, C73, fun _ _ => fail, fun _ => [], 73, none⟩
noncomputable def B73 : Code := bodyOf Go.Proofs.Tryz.f73
noncomputable def K73 : KT := dK Go.Proofs.Tryz.prog Go.Proofs.Tryz.f73.results.toList
noncomputable def f73 (x0 x1 : AV) : M AV :=
 bd (f86 x0 x1) fun v1 =>
 ret v1
theorem f73_eq (x0 x1 : AV) : dfn E73 Go.Proofs.Tryz.f73 [x0, x1] = f73 x0 x1 := dfn_eq (c := B73) (nt := 8) (K := K73) (by kernel_rfl) (by kernel_rfl) rfl (by kernel_rfl) (by kernel_rfl)
theorem O73 : EnvOK E73 := ⟨fun g xs => (ok_if (S86 xs) ok_fail), ap_fail⟩
theorem S73 (xs : List AV) : CallOK Go.Proofs.Tryz.prog 3 73 xs (L2 f73 xs) := ok_L2 (fun x0 x1 => ok_fn (E := E73) (fn := Go.Proofs.Tryz.f73) O73 rfl rfl (by kernel_rfl) (by kernel_rfl) (f73_eq x0 x1)) xs

/-! ### etui/pname.segment: function 52 -/
noncomputable def C52 (g : FuncId) (xs : List AV) : M AV := bif Nat.beq g 43 then L1 f43 xs else bif Nat.beq g 44 then L1 f44 xs else bif Nat.beq g 47 then L1 f47 xs else bif Nat.beq g 73 then L2 f73 xs else fail
noncomputable def E52 : Env := ⟨Go.Proofs.Tryz.prog, 3, C52, fun _ _ => fail, fun _ => [], 52, none⟩
noncomputable def B52 : Code := bodyOf Go.Proofs.Tryz.f52
noncomputable def K52 : KT := dK Go.Proofs.Tryz.prog Go.Proofs.Tryz.f52.results.toList
noncomputable def f52_2 : M AV :=
 ret (.bool true)
theorem f52_2_eq (t : Tmps) : dcode E52 47 (c2 (c2 (c2 B52))) t K52 = f52_2 := by kernel_rfl
noncomputable def f52_b3 (L3 : AV → M AV) (x0 : AV) : M AV :=
 bd (bi .neq x0 (.str [])) fun v1 =>
 cnd v1 (
 bd (f43 x0) fun v2 =>
 bd (ex v2 0) fun v3 =>
 bd (ex v2 1) fun v4 =>
 bd (gd v4 true (ret v3)) fun v5 =>
 bd (gd v4 true (f44 v5)) fun v6 =>
 bd (gd v4 true (ret v6)) fun v7 =>
 bd (gd v7 false (ret v3)) fun v8 =>
 bd (gd v7 false (bi .eql v8 (.int .u8 47))) fun v9 =>
 bd (gd v4 true (pk v7 (.bool true) v9)) fun v10 =>
 bd (gd v4 true (ret v10)) fun v11 =>
 bd (gd v11 false (ret v3)) fun v12 =>
 bd (gd v11 false (bi .eql v12 (.int .u8 92))) fun v13 =>
 bd (gd v4 true (pk v11 (.bool true) v13)) fun v14 =>
 bd (gd v4 true (ret v14)) fun v15 =>
 bd (gd v15 false (ret v3)) fun v16 =>
 bd (gd v15 false (bi .eql v16 (.int .u8 0))) fun v17 =>
 bd (gd v4 true (pk v15 (.bool true) v17)) fun v18 =>
 bd (pk v4 v18 (.bool false)) fun v19 =>
 cnd v19 (
 ret (.bool false)) (
 cnd v4 (
 bd (ss x0 (some (.int .i64 3)) none) fun v20 =>
 L3 v20) (
 bd (ixs x0 (.int .i64 0)) fun v21 =>
 bd (f47 v21) fun v22 =>
 bd (un .not v22) fun v23 =>
 cnd v23 (
 ret (.bool false)) (
 bd (ss x0 (some (.int .i64 1)) none) fun v24 =>
 L3 v24)))) (
 f52_2)
theorem f52_b3_eq (L3 : AV → M AV) (t : Tmps) : dcode E52 47 (c1 (c1 (c1 (c2 (c2 B52))))) t (kJ (fun t => L3 (t 0)) (kB 0 (kJ (fun t => f52_2) K52))) = f52_b3 L3 (t 0) := by kernel_rfl
noncomputable def f52_l3 : Nat → AV → M AV
  | 0, _ => fail
  | n + 1, x0 => f52_b3 (f52_l3 n) x0
theorem f52_l3_eq (t : Tmps) : dcode E52 47 (c1 (c1 (c2 (c2 B52)))) t (kB 0 (kJ (fun t => f52_2) K52)) = f52_l3 fuel (t 0) :=
  dloop_eq (c := (c1 (c1 (c1 (c2 (c2 B52)))))) (g := fun n t => f52_l3 n (t 0)) (fun _ => rfl) (fun n t => f52_b3_eq (f52_l3 n) t)
noncomputable def f52_1 (x0 : AV) : M AV :=
 f52_l3 fuel x0
theorem f52_1_eq (t : Tmps) : dcode E52 47 (c2 (c2 B52)) t K52 = f52_1 (t 0) := (seq_eq (a := (c1 (c2 (c2 B52)))) (b := (c2 (c2 (c2 B52)))) (fun t => f52_2_eq t) (f52_l3_eq _))
noncomputable def f52_0 (x0 : AV) : M AV :=
 bd (bi .eql x0 (.str [])) fun v1 =>
 bd (gd v1 false (ret x0)) fun v2 =>
 bd (gd v1 false (f73 v2 (.str [46]))) fun v3 =>
 bd (pk v1 (.bool true) v3) fun v4 =>
 cnd v4 (
 ret (.bool false)) (
 f52_1 x0)
theorem f52_0_eq (t : Tmps) : dcode E52 47 (c2 B52) t K52 = f52_0 (t 0) := (seq_eq (a := (c1 (c2 B52))) (b := (c2 (c2 B52))) (fun t => f52_1_eq t) (by kernel_rfl))
noncomputable def f52 (x0 : AV) : M AV :=
 f52_0 x0
theorem f52_top (t : Tmps) : dcode E52 47 B52 t K52 = f52 (t 0) := (seq_eq (a := (c1 B52)) (b := (c2 B52)) (fun t => f52_0_eq t) (by kernel_rfl))
theorem f52_eq (x0 : AV) : dfn E52 Go.Proofs.Tryz.f52 [x0] = f52 x0 := dfn_eq (c := B52) (nt := 47) (K := K52) (by kernel_rfl) (by kernel_rfl) rfl (by kernel_rfl) (f52_top (argT [x0]))
theorem O52 : EnvOK E52 := ⟨fun g xs => (ok_if (S43 xs) (ok_if (S44 xs) (ok_if (S47 xs) (ok_if (S73 xs) ok_fail)))), ap_fail⟩
theorem S52 (xs : List AV) : CallOK Go.Proofs.Tryz.prog 3 52 xs (L1 f52 xs) := ok_L1 (fun x0 => ok_fn (E := E52) (fn := Go.Proofs.Tryz.f52) O52 rfl rfl (by kernel_rfl) (by kernel_rfl) (f52_eq x0)) xs

/-! ### etui/pname.Right: function 22 -/
noncomputable def C22 (ap : FuncId → List AV → M AV) (g : FuncId) (xs : List AV) : M AV := bif Nat.beq g 34 then L2 f34 xs else bif Nat.beq g 51 then L2 f51 xs else bif Nat.beq g 52 then L1 f52 xs else fail
noncomputable def E22 (ap : FuncId → List AV → M AV) : Env := ⟨Go.Proofs.Tryz.prog, 3, C22 ap, ap, fun _ => [], 22, none⟩
noncomputable def B22 : Code := bodyOf Go.Proofs.Tryz.f22
noncomputable def K22 : KT := dK Go.Proofs.Tryz.prog Go.Proofs.Tryz.f22.results.toList
noncomputable def f22_0 (ap : FuncId → List AV → M AV) (i : Nat) (x2 x5 : AV) : M AV :=
 bd (f52 x5) fun v1 =>
 bd (un .not v1) fun v2 =>
 cnd v2 (
 bd (st x2 (.bool false)) fun _ =>
 bd (endR i (some .ret)) fun _ => ret (.bool false)) (
 bd (endR i none) fun _ => ret (.bool true))
theorem f22_0_eq (ap : FuncId → List AV → M AV) (i : Nat) (t : Tmps) : dcode ((E22 ap).at i) 29 (c2 (c1 (c2 (c1 (c2 (c2 (c2 B22))))))) t (kRnd i) = f22_0 ap i (t 2) (t 5) := by kernel_rfl
noncomputable def r22_0 (ap : FuncId → List AV → M AV) (i : Nat) (x2 x25 : AV) : M AV :=
 bd (begR i) fun _ =>
 f22_0 ap i x2 x25
theorem r22_0_eq (ap : FuncId → List AV → M AV) (i : Nat) (x2 x25 : AV) : dcode ((E22 ap).at i) 29 (c1 (c1 (c2 (c1 (c2 (c2 (c2 B22))))))) (psSet [25] [x25] (rTs [2] [x2])) (kAsg ((E22 ap).at i) 29 i (c2 (c1 (c2 (c1 (c2 (c2 (c2 B22)))))))) = r22_0 ap i x2 x25 := asg_eq (S := fun t => f22_0 ap i (t 2) (t 5)) (fun t => f22_0_eq ap i t) (by kernel_rfl)
noncomputable def f22 (ap : FuncId → List AV → M AV) (x0 : AV) : M AV :=
 bd (bx 4 (.bool false)) fun v1 =>
 bd (f34 x0 (.str [47])) fun v2 =>
 bd (ex v2 0) fun v3 =>
 bd (ex v2 1) fun v4 =>
 bd (un .not v4) fun v5 =>
 bd (gd v5 false (ret x0)) fun v6 =>
 bd (gd v5 false (lnS v6)) fun v7 =>
 bd (gd v5 false (bi .lss v7 (.int .i64 2))) fun v8 =>
 bd (pk v5 (.bool true) v8) fun v9 =>
 bd (gd v9 false (ret x0)) fun v10 =>
 bd (gd v9 false (lnS v10)) fun v11 =>
 bd (gd v9 false (bi .gtr v11 (.int .i64 255))) fun v12 =>
 bd (pk v9 (.bool true) v12) fun v13 =>
 cnd v13 (
 bd (st v1 (.bool false)) fun _ =>
 bd (ld v1) fun v14 => ret v14) (
 bd (f51 v3 (.str [47])) fun v15 =>
 bd (lpThere none) fun _ =>
 bd (newO (.loop 22 29 [2] [v1] [25] (c1 (c1 (c2 (c1 (c2 (c2 (c2 B22))))))) (c2 (c1 (c2 (c1 (c2 (c2 (c2 B22))))))) 0 none)) fun v16 =>
 bd (apv ap v15 [.yld v16]) fun _ =>
 bd (endLp v16) fun v17 =>
 rj v17 (
 bd (st v1 (.bool true)) fun _ =>
 bd (ld v1) fun v18 => ret v18) (
 bd (ld v1) fun v19 => ret v19) [])
theorem f22_eq (ap : FuncId → List AV → M AV) (x0 : AV) : dfn (E22 ap) Go.Proofs.Tryz.f22 [x0] = f22 ap x0 := dfn_eq (c := B22) (nt := 29) (K := K22) (by kernel_rfl) (by kernel_rfl) rfl (by kernel_rfl) (by kernel_rfl)
theorem O22 (ap : FuncId → List AV → M AV) (hap : ApOK Go.Proofs.Tryz.prog 3 ap) : EnvOK (E22 ap) := ⟨fun g xs => (ok_if (S34 xs) (ok_if (S51 xs) (ok_if (S52 xs) ok_fail))), hap⟩
theorem S22 (ap : FuncId → List AV → M AV) (hap : ApOK Go.Proofs.Tryz.prog 3 ap) (xs : List AV) : CallOK Go.Proofs.Tryz.prog 3 22 xs (L1 (f22 ap) xs) := ok_L1 (fun x0 => ok_fn (E := (E22 ap)) (fn := Go.Proofs.Tryz.f22) (O22 ap hap) rfl rfl (by kernel_rfl) (by kernel_rfl) (f22_eq ap x0)) xs

/-! ### (*strings.Builder).Len: function 42 -/
noncomputable def C42 (g : FuncId) (xs : List AV) : M AV := fail
noncomputable def E42 : Env := ⟨Go.Proofs.Tryz.prog, 3, C42, fun _ _ => fail, fun _ => [], 42, none⟩
noncomputable def B42 : Code := bodyOf Go.Proofs.Tryz.f42
noncomputable def K42 : KT := dK Go.Proofs.Tryz.prog Go.Proofs.Tryz.f42.results.toList
noncomputable def f42 (x0 : AV) : M AV :=
 bd (nck x0) fun v1 =>
 bd (fa v1 1) fun v2 =>
 bd (ld v2) fun v3 =>
 bd (lnL v3) fun v4 =>
 ret v4
theorem f42_eq (x0 : AV) : dfn E42 Go.Proofs.Tryz.f42 [x0] = f42 x0 := dfn_eq (c := B42) (nt := 8) (K := K42) (by kernel_rfl) (by kernel_rfl) rfl (by kernel_rfl) (by kernel_rfl)
theorem O42 : EnvOK E42 := ⟨fun g xs => ok_fail, ap_fail⟩
theorem S42 (xs : List AV) : CallOK Go.Proofs.Tryz.prog 3 42 xs (L1 f42 xs) := ok_L1 (fun x0 => ok_fn (E := E42) (fn := Go.Proofs.Tryz.f42) O42 rfl rfl (by kernel_rfl) (by kernel_rfl) (f42_eq x0)) xs

/-! ### (*strings.Builder).WriteByte: function 45 -/
noncomputable def C45 (g : FuncId) (xs : List AV) : M AV := bif Nat.beq g 65 then L1 f65 xs else fail
noncomputable def E45 : Env := ⟨Go.Proofs.Tryz.prog, 3, C45, fun _ _ => fail, fun _ => [], 45, none⟩
noncomputable def B45 : Code := bodyOf Go.Proofs.Tryz.f45
noncomputable def K45 : KT := dK Go.Proofs.Tryz.prog Go.Proofs.Tryz.f45.results.toList
noncomputable def f45 (x0 x1 : AV) : M AV :=
 bd (f65 x0) fun v1 =>
 bd (nck x0) fun v2 =>
 bd (fa v2 1) fun v3 =>
 bd (ld v3) fun v4 =>
 bd (bsl 5 1 1 [(.int .u8 0)] [(0, 1, x1)]) fun v5 =>
 bd (app 5 1 1 v4 v5) fun v6 =>
 bd (nck x0) fun v7 =>
 bd (fa v7 1) fun v8 =>
 bd (st v8 v6) fun _ =>
 ret .nilIface
theorem f45_eq (x0 x1 : AV) : dfn E45 Go.Proofs.Tryz.f45 [x0, x1] = f45 x0 x1 := dfn_eq (c := B45) (nt := 17) (K := K45) (by kernel_rfl) (by kernel_rfl) rfl (by kernel_rfl) (by kernel_rfl)
theorem O45 : EnvOK E45 := ⟨fun g xs => (ok_if (S65 xs) ok_fail), ap_fail⟩
theorem S45 (xs : List AV) : CallOK Go.Proofs.Tryz.prog 3 45 xs (L2 f45 xs) := ok_L2 (fun x0 x1 => ok_fn (E := E45) (fn := Go.Proofs.Tryz.f45) O45 rfl rfl (by kernel_rfl) (by kernel_rfl) (f45_eq x0 x1)) xs

/-! ### etui/pname.percent: function 46 -/
noncomputable def C46 (g : FuncId) (xs : List AV) : M AV := fail
noncomputable def E46 : Env := ⟨Go.Proofs.Tryz.prog, 3, C46, fun _ _ => fail, fun i => bif Nat.beq i 1 then [0, 1, 2, 3, 4, 5, 6, 7, 8] else [], 46, none⟩
noncomputable def B46 : Code := bodyOf Go.Proofs.Tryz.f46
noncomputable def K46 : KT := dK Go.Proofs.Tryz.prog Go.Proofs.Tryz.f46.results.toList
noncomputable def f46 (x0 : AV) : M AV :=
 bd (ret x0) fun v1 =>
 bd (bi .shr v1 (.int .u64 4)) fun v2 =>
 bd (ixs (.str [48, 49, 50, 51, 52, 53, 54, 55, 56, 57, 65, 66, 67, 68, 69, 70]) v2) fun v3 =>
 bd (ret x0) fun v4 =>
 bd (bi .and v4 (.int .u8 15)) fun v5 =>
 bd (ixs (.str [48, 49, 50, 51, 52, 53, 54, 55, 56, 57, 65, 66, 67, 68, 69, 70]) v5) fun v6 =>
 bd (bsl 5 1 3 [(.int .u8 0), (.int .u8 0), (.int .u8 0)] [(0, 1, (.int .u8 37)), (1, 1, v3), (2, 1, v6)]) fun v7 =>
 bd (b2s v7) fun v8 =>
 bd (ret v8) fun v9 =>
 ret v9
theorem f46_eq (x0 : AV) : dfn E46 Go.Proofs.Tryz.f46 [x0] = f46 x0 := dfn_eq (c := B46) (nt := 11) (K := K46) (by kernel_rfl) (by kernel_rfl) rfl (by kernel_rfl) (by kernel_rfl)
theorem O46 : EnvOK E46 := ⟨fun g xs => ok_fail, ap_fail⟩
theorem S46 (xs : List AV) : CallOK Go.Proofs.Tryz.prog 3 46 xs (L1 f46 xs) := ok_L1 (fun x0 => ok_fn (E := E46) (fn := Go.Proofs.Tryz.f46) O46 rfl rfl (by kernel_rfl) (by kernel_rfl) (f46_eq x0)) xs

/-! ### etui/pname.Normal: function 20 -/
noncomputable def C20 (ap : FuncId → List AV → M AV) (g : FuncId) (xs : List AV) : M AV := bif Nat.beq g 22 then L1 (f22 ap) xs else bif Nat.beq g 36 then L2 f36 xs else bif Nat.beq g 37 then L1 f37 xs else bif Nat.beq g 42 then L1 f42 xs else bif Nat.beq g 43 then L1 f43 xs else bif Nat.beq g 44 then L1 f44 xs else bif Nat.beq g 45 then L2 f45 xs else bif Nat.beq g 46 then L1 f46 xs else bif Nat.beq g 47 then L1 f47 xs else fail
noncomputable def E20 (ap : FuncId → List AV → M AV) : Env := ⟨Go.Proofs.Tryz.prog, 3, C20 ap, ap, fun _ => [], 20, none⟩
noncomputable def B20 : Code := bodyOf Go.Proofs.Tryz.f20
noncomputable def K20 : KT := dK Go.Proofs.Tryz.prog Go.Proofs.Tryz.f20.results.toList
noncomputable def f20_2 (ap : FuncId → List AV → M AV) (x4 : AV) : M AV :=
 bd (f37 x4) fun v1 =>
 bd (f22 ap v1) fun v2 =>
 bd (un .not v2) fun v3 =>
 cnd v3 (
 ret (.tuple [(.str []), (.bool false)])) (
 bd (f37 x4) fun v4 =>
 ret (.tuple [v4, (.bool true)]))
theorem f20_2_eq (ap : FuncId → List AV → M AV) (t : Tmps) : dcode (E20 ap) 56 (c2 (c2 (c2 B20))) t K20 = f20_2 ap (t 4) := by kernel_rfl
noncomputable def f20_8 (ap : FuncId → List AV → M AV) (L3 : AV → AV → M AV) (x0 x4 x7 : AV) : M AV :=
 bd (ss x0 (some x7) none) fun v1 =>
 L3 v1 x4
theorem f20_8_eq (ap : FuncId → List AV → M AV) (L3 : AV → AV → M AV) (t : Tmps) : dcode (E20 ap) 56 (c2 (c2 (c2 (c2 (c1 (c2 (c1 (c1 (c1 (c2 (c2 B20))))))))))) t (kB 1 (kJ (fun t => L3 (t 0) (t 4)) (kB 0 (kJ (fun t => f20_2 ap (t 4)) K20)))) = f20_8 ap L3 (t 0) (t 4) (t 7) := by kernel_rfl
noncomputable def f20_7 (ap : FuncId → List AV → M AV) (L3 : AV → AV → M AV) (x0 x4 x6 x7 : AV) : M AV :=
 cnd x6 (
 f20_8 ap L3 x0 x4 (.int .i64 3)) (
 f20_8 ap L3 x0 x4 x7)
theorem f20_7_eq (ap : FuncId → List AV → M AV) (L3 : AV → AV → M AV) (t : Tmps) : dcode (E20 ap) 56 (c2 (c2 (c2 (c1 (c2 (c1 (c1 (c1 (c2 (c2 B20)))))))))) t (kB 1 (kJ (fun t => L3 (t 0) (t 4)) (kB 0 (kJ (fun t => f20_2 ap (t 4)) K20)))) = f20_7 ap L3 (t 0) (t 4) (t 6) (t 7) := (seq_eq (a := (c1 (c2 (c2 (c2 (c1 (c2 (c1 (c1 (c1 (c2 (c2 B20)))))))))))) (b := (c2 (c2 (c2 (c2 (c1 (c2 (c1 (c1 (c1 (c2 (c2 B20)))))))))))) (fun t => f20_8_eq ap L3 t) (by kernel_rfl))
noncomputable def f20_6 (ap : FuncId → List AV → M AV) (L3 : AV → AV → M AV) (x0 x4 x6 : AV) : M AV :=
 f20_7 ap L3 x0 x4 x6 (.int .i64 1)
theorem f20_6_eq (ap : FuncId → List AV → M AV) (L3 : AV → AV → M AV) (t : Tmps) : dcode (E20 ap) 56 (c2 (c2 (c1 (c2 (c1 (c1 (c1 (c2 (c2 B20))))))))) t (kB 1 (kJ (fun t => L3 (t 0) (t 4)) (kB 0 (kJ (fun t => f20_2 ap (t 4)) K20)))) = f20_6 ap L3 (t 0) (t 4) (t 6) := (seq_eq (a := (c1 (c2 (c2 (c1 (c2 (c1 (c1 (c1 (c2 (c2 B20))))))))))) (b := (c2 (c2 (c2 (c1 (c2 (c1 (c1 (c1 (c2 (c2 B20))))))))))) (fun t => f20_7_eq ap L3 t) (by kernel_rfl))
noncomputable def f20_5 (ap : FuncId → List AV → M AV) (L3 : AV → AV → M AV) (x0 x4 x5 x6 : AV) : M AV :=
 bd (gd x6 true (ret x5)) fun v1 =>
 bd (gd x6 true (f44 v1)) fun v2 =>
 bd (pk x6 v2 (.bool false)) fun v3 =>
 cnd v3 (
 bd (f45 x4 x5) fun v4 =>
 f20_6 ap L3 x0 x4 x6) (
 cnd x6 (
 bd (f46 x5) fun v5 =>
 bd (f36 x4 v5) fun v6 =>
 f20_6 ap L3 x0 x4 x6) (
 bd (ixs x0 (.int .i64 0)) fun v7 =>
 bd (f47 v7) fun v8 =>
 bd (gd v8 false (ret x0)) fun v9 =>
 bd (gd v8 false (ixs v9 (.int .i64 0))) fun v10 =>
 bd (gd v8 false (bi .eql v10 (.int .u8 47))) fun v11 =>
 bd (pk v8 (.bool true) v11) fun v12 =>
 cnd v12 (
 bd (ixs x0 (.int .i64 0)) fun v13 =>
 bd (f45 x4 v13) fun v14 =>
 f20_6 ap L3 x0 x4 x6) (
 bd (ixs x0 (.int .i64 0)) fun v15 =>
 bd (f46 v15) fun v16 =>
 bd (f36 x4 v16) fun v17 =>
 f20_6 ap L3 x0 x4 x6)))
theorem f20_5_eq (ap : FuncId → List AV → M AV) (L3 : AV → AV → M AV) (t : Tmps) : dcode (E20 ap) 56 (c2 (c1 (c2 (c1 (c1 (c1 (c2 (c2 B20)))))))) t (kB 1 (kJ (fun t => L3 (t 0) (t 4)) (kB 0 (kJ (fun t => f20_2 ap (t 4)) K20)))) = f20_5 ap L3 (t 0) (t 4) (t 5) (t 6) := (seq_eq (a := (c1 (c2 (c1 (c2 (c1 (c1 (c1 (c2 (c2 B20)))))))))) (b := (c2 (c2 (c1 (c2 (c1 (c1 (c1 (c2 (c2 B20)))))))))) (fun t => f20_6_eq ap L3 t) (by kernel_rfl))
noncomputable def f20_4 (ap : FuncId → List AV → M AV) (L3 : AV → AV → M AV) (x0 x4 : AV) : M AV :=
 bd (f43 x0) fun v1 =>
 bd (ex v1 0) fun v2 =>
 bd (ex v1 1) fun v3 =>
 f20_5 ap L3 x0 x4 v2 v3
theorem f20_4_eq (ap : FuncId → List AV → M AV) (L3 : AV → AV → M AV) (t : Tmps) : dcode (E20 ap) 56 (c2 (c1 (c1 (c1 (c2 (c2 B20)))))) t (kJ (fun t => L3 (t 0) (t 4)) (kB 0 (kJ (fun t => f20_2 ap (t 4)) K20))) = f20_4 ap L3 (t 0) (t 4) := (seq_eq (a := (c1 (c1 (c2 (c1 (c1 (c1 (c2 (c2 B20))))))))) (b := (c2 (c1 (c2 (c1 (c1 (c1 (c2 (c2 B20))))))))) (fun t => f20_5_eq ap L3 t) (by kernel_rfl))
noncomputable def f20_b3 (ap : FuncId → List AV → M AV) (L3 : AV → AV → M AV) (x0 x4 : AV) : M AV :=
 bd (bi .neq x0 (.str [])) fun v1 =>
 bd (gd v1 true (f42 x4)) fun v2 =>
 bd (gd v1 true (bi .leq v2 (.int .i64 255))) fun v3 =>
 bd (pk v1 v3 (.bool false)) fun v4 =>
 cnd v4 (
 f20_4 ap L3 x0 x4) (
 f20_2 ap x4)
theorem f20_b3_eq (ap : FuncId → List AV → M AV) (L3 : AV → AV → M AV) (t : Tmps) : dcode (E20 ap) 56 (c1 (c1 (c1 (c2 (c2 B20))))) t (kJ (fun t => L3 (t 0) (t 4)) (kB 0 (kJ (fun t => f20_2 ap (t 4)) K20))) = f20_b3 ap L3 (t 0) (t 4) := (seq_eq (a := (c1 (c1 (c1 (c1 (c2 (c2 B20))))))) (b := (c2 (c1 (c1 (c1 (c2 (c2 B20))))))) (fun t => f20_4_eq ap L3 t) (by kernel_rfl))
noncomputable def f20_l3 (ap : FuncId → List AV → M AV) : Nat → AV → AV → M AV
  | 0, _, _ => fail
  | n + 1, x0, x4 => f20_b3 ap (f20_l3 ap n) x0 x4
theorem f20_l3_eq (ap : FuncId → List AV → M AV) (t : Tmps) : dcode (E20 ap) 56 (c1 (c1 (c2 (c2 B20)))) t (kB 0 (kJ (fun t => f20_2 ap (t 4)) K20)) = f20_l3 ap fuel (t 0) (t 4) :=
  dloop_eq (c := (c1 (c1 (c1 (c2 (c2 B20)))))) (g := fun n t => f20_l3 ap n (t 0) (t 4)) (fun _ => rfl) (fun n t => f20_b3_eq ap (f20_l3 ap n) t)
noncomputable def f20_1 (ap : FuncId → List AV → M AV) (x0 x4 : AV) : M AV :=
 f20_l3 ap fuel x0 x4
theorem f20_1_eq (ap : FuncId → List AV → M AV) (t : Tmps) : dcode (E20 ap) 56 (c2 (c2 B20)) t K20 = f20_1 ap (t 0) (t 4) := (seq_eq (a := (c1 (c2 (c2 B20)))) (b := (c2 (c2 (c2 B20)))) (fun t => f20_2_eq ap t) (f20_l3_eq ap _))
noncomputable def f20_0 (ap : FuncId → List AV → M AV) (x0 : AV) : M AV :=
 bd (bx 61 (.agg [(.ptr none), .slN])) fun v1 =>
 f20_1 ap x0 v1
theorem f20_0_eq (ap : FuncId → List AV → M AV) (t : Tmps) : dcode (E20 ap) 56 (c2 B20) t K20 = f20_0 ap (t 0) := (seq_eq (a := (c1 (c2 B20))) (b := (c2 (c2 B20))) (fun t => f20_1_eq ap t) (by kernel_rfl))
noncomputable def f20 (ap : FuncId → List AV → M AV) (x0 : AV) : M AV :=
 f20_0 ap x0
theorem f20_top (ap : FuncId → List AV → M AV) (t : Tmps) : dcode (E20 ap) 56 B20 t K20 = f20 ap (t 0) := (seq_eq (a := (c1 B20)) (b := (c2 B20)) (fun t => f20_0_eq ap t) (by kernel_rfl))
theorem f20_eq (ap : FuncId → List AV → M AV) (x0 : AV) : dfn (E20 ap) Go.Proofs.Tryz.f20 [x0] = f20 ap x0 := dfn_eq (c := B20) (nt := 56) (K := K20) (by kernel_rfl) (by kernel_rfl) rfl (by kernel_rfl) (f20_top ap (argT [x0]))
theorem O20 (ap : FuncId → List AV → M AV) (hap : ApOK Go.Proofs.Tryz.prog 3 ap) : EnvOK (E20 ap) := ⟨fun g xs => (ok_if (S22 ap hap xs) (ok_if (S36 xs) (ok_if (S37 xs) (ok_if (S42 xs) (ok_if (S43 xs) (ok_if (S44 xs) (ok_if (S45 xs) (ok_if (S46 xs) (ok_if (S47 xs) ok_fail))))))))), hap⟩
theorem S20 (ap : FuncId → List AV → M AV) (hap : ApOK Go.Proofs.Tryz.prog 3 ap) (xs : List AV) : CallOK Go.Proofs.Tryz.prog 3 20 xs (L1 (f20 ap) xs) := ok_L1 (fun x0 => ok_fn (E := (E20 ap)) (fn := Go.Proofs.Tryz.f20) (O20 ap hap) rfl rfl (by kernel_rfl) (by kernel_rfl) (f20_eq ap x0)) xs

/-! ### etui/iri.Target: function 7 -/
noncomputable def C7 (ap : FuncId → List AV → M AV) (g : FuncId) (xs : List AV) : M AV := bif Nat.beq g 5 then L2 (f5 ap) xs else bif Nat.beq g 20 then L1 (f20 ap) xs else fail
noncomputable def E7 (ap : FuncId → List AV → M AV) : Env := ⟨Go.Proofs.Tryz.prog, 3, C7 ap, ap, fun i => bif Nat.beq i 7 then [0, 1, 2, 3, 4, 5] else [], 7, none⟩
noncomputable def B7 : Code := bodyOf Go.Proofs.Tryz.f7
noncomputable def K7 : KT := dK Go.Proofs.Tryz.prog Go.Proofs.Tryz.f7.results.toList
noncomputable def f7 (ap : FuncId → List AV → M AV) (x0 x1 : AV) : M AV :=
 bd (f5 ap x0 x1) fun v1 =>
 bd (ex v1 0) fun v2 =>
 bd (ex v1 1) fun v3 =>
 bd (bx 24 (.agg [(.str []), (.str []), (.str []), (.str []), (.str []), (.bool false), (.bool false), (.bool false), (.bool false)])) fun v4 =>
 bd (sta 9 v4 v2) fun _ =>
 bd (bi .neq v3 (.int .i64 0)) fun v5 =>
 cnd v5 (
 ret (.tuple [(.str []), (.str []), v3])) (
 bd (fa v4 2) fun v6 =>
 bd (ld v6) fun v7 =>
 bd (f20 ap v7) fun v8 =>
 bd (ex v8 0) fun v9 =>
 bd (ex v8 1) fun v10 =>
 bd (un .not v10) fun v11 =>
 bd (gd v11 false (fa v4 7)) fun v12 =>
 bd (gd v11 false (ld v12)) fun v13 =>
 bd (pk v11 (.bool true) v13) fun v14 =>
 cnd v14 (
 ret (.tuple [(.str []), (.str []), (.int .i64 21)])) (
 bd (ret v9) fun v15 =>
 bd (fa v4 4) fun v16 =>
 bd (ld v16) fun v17 =>
 bd (ret v15) fun v18 =>
 bd (ret v17) fun v19 =>
 bd (ret (.int .i64 0)) fun v20 =>
 ret (.tuple [v18, v19, v20])))
theorem f7_eq (ap : FuncId → List AV → M AV) (x0 x1 : AV) : dfn (E7 ap) Go.Proofs.Tryz.f7 [x0, x1] = f7 ap x0 x1 := dfn_eq (c := B7) (nt := 34) (K := K7) (by kernel_rfl) (by kernel_rfl) rfl (by kernel_rfl) (by kernel_rfl)
theorem O7 (ap : FuncId → List AV → M AV) (hap : ApOK Go.Proofs.Tryz.prog 3 ap) : EnvOK (E7 ap) := ⟨fun g xs => (ok_if (S5 ap hap xs) (ok_if (S20 ap hap xs) ok_fail)), hap⟩
theorem S7 (ap : FuncId → List AV → M AV) (hap : ApOK Go.Proofs.Tryz.prog 3 ap) (xs : List AV) : CallOK Go.Proofs.Tryz.prog 3 7 xs (L2 (f7 ap) xs) := ok_L2 (fun x0 x1 => ok_fn (E := (E7 ap)) (fn := Go.Proofs.Tryz.f7) (O7 ap hap) rfl rfl (by kernel_rfl) (by kernel_rfl) (f7_eq ap x0 x1)) xs

/-! ### math/bits.Mul32: function 76 -/
noncomputable def C76 (g : FuncId) (xs : List AV) : M AV := fail
noncomputable def E76 : Env := ⟨Go.Proofs.Tryz.prog, 3, C76, fun _ _ => fail, fun _ => [], 76, none⟩
noncomputable def B76 : Code := bodyOf Go.Proofs.Tryz.f76
noncomputable def K76 : KT := dK Go.Proofs.Tryz.prog Go.Proofs.Tryz.f76.results.toList
noncomputable def f76 (x0 x1 : AV) : M AV :=
 bd (ci .u64 x0) fun v1 =>
 bd (ci .u64 x1) fun v2 =>
 bd (bi .mul v1 v2) fun v3 =>
 bd (bi .shr v3 (.int .u64 32)) fun v4 =>
 bd (ci .u32 v4) fun v5 =>
 bd (ci .u32 v3) fun v6 =>
 ret (.tuple [v5, v6])
theorem f76_eq (x0 x1 : AV) : dfn E76 Go.Proofs.Tryz.f76 [x0, x1] = f76 x0 x1 := dfn_eq (c := B76) (nt := 17) (K := K76) (by kernel_rfl) (by kernel_rfl) rfl (by kernel_rfl) (by kernel_rfl)
theorem O76 : EnvOK E76 := ⟨fun g xs => ok_fail, ap_fail⟩
theorem S76 (xs : List AV) : CallOK Go.Proofs.Tryz.prog 3 76 xs (L2 f76 xs) := ok_L2 (fun x0 x1 => ok_fn (E := E76) (fn := Go.Proofs.Tryz.f76) O76 rfl rfl (by kernel_rfl) (by kernel_rfl) (f76_eq x0 x1)) xs

/-! ### math/bits.Mul64: function 77 -/
noncomputable def C77 (g : FuncId) (xs : List AV) : M AV := fail
noncomputable def E77 : Env := ⟨Go.Proofs.Tryz.prog, 3, C77, fun _ _ => fail, fun _ => [], 77, none⟩
noncomputable def B77 : Code := bodyOf Go.Proofs.Tryz.f77
noncomputable def K77 : KT := dK Go.Proofs.Tryz.prog Go.Proofs.Tryz.f77.results.toList
noncomputable def f77 (x0 x1 : AV) : M AV :=
 bd (bi .and x0 (.int .u64 4294967295)) fun v1 =>
 bd (bi .shr x0 (.int .u64 32)) fun v2 =>
 bd (bi .and x1 (.int .u64 4294967295)) fun v3 =>
 bd (bi .shr x1 (.int .u64 32)) fun v4 =>
 bd (bi .mul v1 v3) fun v5 =>
 bd (bi .mul v2 v3) fun v6 =>
 bd (bi .shr v5 (.int .u64 32)) fun v7 =>
 bd (bi .add v6 v7) fun v8 =>
 bd (bi .and v8 (.int .u64 4294967295)) fun v9 =>
 bd (bi .shr v8 (.int .u64 32)) fun v10 =>
 bd (bi .mul v1 v4) fun v11 =>
 bd (bi .add v9 v11) fun v12 =>
 bd (bi .mul v2 v4) fun v13 =>
 bd (bi .add v13 v10) fun v14 =>
 bd (bi .shr v12 (.int .u64 32)) fun v15 =>
 bd (bi .add v14 v15) fun v16 =>
 bd (bi .mul x0 x1) fun v17 =>
 ret (.tuple [v16, v17])
theorem f77_eq (x0 x1 : AV) : dfn E77 Go.Proofs.Tryz.f77 [x0, x1] = f77 x0 x1 := dfn_eq (c := B77) (nt := 51) (K := K77) (by kernel_rfl) (by kernel_rfl) rfl (by kernel_rfl) (by kernel_rfl)
theorem O77 : EnvOK E77 := ⟨fun g xs => ok_fail, ap_fail⟩
theorem S77 (xs : List AV) : CallOK Go.Proofs.Tryz.prog 3 77 xs (L2 f77 xs) := ok_L2 (fun x0 x1 => ok_fn (E := E77) (fn := Go.Proofs.Tryz.f77) O77 rfl rfl (by kernel_rfl) (by kernel_rfl) (f77_eq x0 x1)) xs

/-! ### math/bits.Mul: function 54 -/
noncomputable def C54 (g : FuncId) (xs : List AV) : M AV := bif Nat.beq g 76 then L2 f76 xs else bif Nat.beq g 77 then L2 f77 xs else fail
noncomputable def E54 : Env := ⟨Go.Proofs.Tryz.prog, 3, C54, fun _ _ => fail, fun _ => [], 54, none⟩
noncomputable def B54 : Code := bodyOf Go.Proofs.Tryz.f54
noncomputable def K54 : KT := dK Go.Proofs.Tryz.prog Go.Proofs.Tryz.f54.results.toList
noncomputable def f54 (x0 x1 : AV) : M AV :=
 cnd (.bool false) (
 bd (ci .u32 x0) fun v1 =>
 bd (ci .u32 x1) fun v2 =>
 bd (f76 v1 v2) fun v3 =>
 bd (ex v3 0) fun v4 =>
 bd (ex v3 1) fun v5 =>
 bd (ci .u64 v4) fun v6 =>
 bd (ci .u64 v5) fun v7 =>
 ret (.tuple [v6, v7])) (
 bd (f77 x0 x1) fun v8 =>
 bd (ex v8 0) fun v9 =>
 bd (ex v8 1) fun v10 =>
 ret (.tuple [v9, v10]))
theorem f54_eq (x0 x1 : AV) : dfn E54 Go.Proofs.Tryz.f54 [x0, x1] = f54 x0 x1 := dfn_eq (c := B54) (nt := 30) (K := K54) (by kernel_rfl) (by kernel_rfl) rfl (by kernel_rfl) (by kernel_rfl)
theorem O54 : EnvOK E54 := ⟨fun g xs => (ok_if (S76 xs) (ok_if (S77 xs) ok_fail)), ap_fail⟩
theorem S54 (xs : List AV) : CallOK Go.Proofs.Tryz.prog 3 54 xs (L2 f54 xs) := ok_L2 (fun x0 x1 => ok_fn (E := E54) (fn := Go.Proofs.Tryz.f54) O54 rfl rfl (by kernel_rfl) (by kernel_rfl) (f54_eq x0 x1)) xs

end Go.Proofs.YtgljgjnhagidnaaGreatDoor.Den
