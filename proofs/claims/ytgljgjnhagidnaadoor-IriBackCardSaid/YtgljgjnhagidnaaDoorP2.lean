/- Each function of the program as a denotation, and that its calls come to what the denotation says. -/
import Derived.Test.YtgljgjnhagidnaaDoorProg
import Derived.KernelRfl
import Derived.Test.YtgljgjnhagidnaaDoorDen04
import Derived.Test.YtgljgjnhagidnaaDoorP1
namespace Go.Proofs.YtgljgjnhagidnaaDoor.Den
open Go Go.Dn Go.Dn.M Go.Shelf
set_option maxRecDepth 100000
set_option linter.unusedVariables false

/-! ### etui/pname.Normal: function 17 -/
noncomputable def C17 (ap : FuncId → List AV → M AV) (g : FuncId) (xs : List AV) : M AV := bif Nat.beq g 30 then L2 f30 xs else bif Nat.beq g 31 then L1 f31 xs else bif Nat.beq g 35 then L1 (f35 ap) xs else bif Nat.beq g 40 then L1 f40 xs else bif Nat.beq g 41 then L1 f41 xs else bif Nat.beq g 42 then L1 f42 xs else bif Nat.beq g 43 then L2 f43 xs else bif Nat.beq g 44 then L1 f44 xs else bif Nat.beq g 45 then L1 f45 xs else fail
noncomputable def E17 (ap : FuncId → List AV → M AV) : Env := ⟨Go.Proofs.Tryd.prog, 3, C17 ap, ap, fun _ => [], 17, none⟩
noncomputable def B17 : Code := bodyOf Go.Proofs.Tryd.f17
noncomputable def K17 : KT := dK Go.Proofs.Tryd.prog Go.Proofs.Tryd.f17.results.toList
noncomputable def f17_2 (ap : FuncId → List AV → M AV) (x4 : AV) : M AV :=
 bd (f31 x4) fun v1 =>
 bd (f35 ap v1) fun v2 =>
 bd (un .not v2) fun v3 =>
 cnd v3 (
 ret (.tuple [(.str []), (.bool false)])) (
 bd (f31 x4) fun v4 =>
 ret (.tuple [v4, (.bool true)]))
theorem f17_2_eq (ap : FuncId → List AV → M AV) (t : Tmps) : dcode (E17 ap) 56 (c2 (c2 (c2 B17))) t K17 = f17_2 ap (t 4) := by kernel_rfl
noncomputable def f17_8 (ap : FuncId → List AV → M AV) (L3 : AV → AV → M AV) (x0 x4 x7 : AV) : M AV :=
 bd (ss x0 (some x7) none) fun v1 =>
 L3 v1 x4
theorem f17_8_eq (ap : FuncId → List AV → M AV) (L3 : AV → AV → M AV) (t : Tmps) : dcode (E17 ap) 56 (c2 (c2 (c2 (c2 (c1 (c2 (c1 (c1 (c1 (c2 (c2 B17))))))))))) t (kB 1 (kJ (fun t => L3 (t 0) (t 4)) (kB 0 (kJ (fun t => f17_2 ap (t 4)) K17)))) = f17_8 ap L3 (t 0) (t 4) (t 7) := by kernel_rfl
noncomputable def f17_7 (ap : FuncId → List AV → M AV) (L3 : AV → AV → M AV) (x0 x4 x6 x7 : AV) : M AV :=
 cnd x6 (
 f17_8 ap L3 x0 x4 (.int .i64 3)) (
 f17_8 ap L3 x0 x4 x7)
theorem f17_7_eq (ap : FuncId → List AV → M AV) (L3 : AV → AV → M AV) (t : Tmps) : dcode (E17 ap) 56 (c2 (c2 (c2 (c1 (c2 (c1 (c1 (c1 (c2 (c2 B17)))))))))) t (kB 1 (kJ (fun t => L3 (t 0) (t 4)) (kB 0 (kJ (fun t => f17_2 ap (t 4)) K17)))) = f17_7 ap L3 (t 0) (t 4) (t 6) (t 7) := (seq_eq (a := (c1 (c2 (c2 (c2 (c1 (c2 (c1 (c1 (c1 (c2 (c2 B17)))))))))))) (b := (c2 (c2 (c2 (c2 (c1 (c2 (c1 (c1 (c1 (c2 (c2 B17)))))))))))) (fun t => f17_8_eq ap L3 t) (by kernel_rfl))
noncomputable def f17_6 (ap : FuncId → List AV → M AV) (L3 : AV → AV → M AV) (x0 x4 x6 : AV) : M AV :=
 f17_7 ap L3 x0 x4 x6 (.int .i64 1)
theorem f17_6_eq (ap : FuncId → List AV → M AV) (L3 : AV → AV → M AV) (t : Tmps) : dcode (E17 ap) 56 (c2 (c2 (c1 (c2 (c1 (c1 (c1 (c2 (c2 B17))))))))) t (kB 1 (kJ (fun t => L3 (t 0) (t 4)) (kB 0 (kJ (fun t => f17_2 ap (t 4)) K17)))) = f17_6 ap L3 (t 0) (t 4) (t 6) := (seq_eq (a := (c1 (c2 (c2 (c1 (c2 (c1 (c1 (c1 (c2 (c2 B17))))))))))) (b := (c2 (c2 (c2 (c1 (c2 (c1 (c1 (c1 (c2 (c2 B17))))))))))) (fun t => f17_7_eq ap L3 t) (by kernel_rfl))
noncomputable def f17_5 (ap : FuncId → List AV → M AV) (L3 : AV → AV → M AV) (x0 x4 x5 x6 : AV) : M AV :=
 bd (gd x6 true (ret x5)) fun v1 =>
 bd (gd x6 true (f42 v1)) fun v2 =>
 bd (pk x6 v2 (.bool false)) fun v3 =>
 cnd v3 (
 bd (f43 x4 x5) fun v4 =>
 f17_6 ap L3 x0 x4 x6) (
 cnd x6 (
 bd (f44 x5) fun v5 =>
 bd (f30 x4 v5) fun v6 =>
 f17_6 ap L3 x0 x4 x6) (
 bd (ixs x0 (.int .i64 0)) fun v7 =>
 bd (f45 v7) fun v8 =>
 bd (gd v8 false (ret x0)) fun v9 =>
 bd (gd v8 false (ixs v9 (.int .i64 0))) fun v10 =>
 bd (gd v8 false (bi .eql v10 (.int .u8 47))) fun v11 =>
 bd (pk v8 (.bool true) v11) fun v12 =>
 cnd v12 (
 bd (ixs x0 (.int .i64 0)) fun v13 =>
 bd (f43 x4 v13) fun v14 =>
 f17_6 ap L3 x0 x4 x6) (
 bd (ixs x0 (.int .i64 0)) fun v15 =>
 bd (f44 v15) fun v16 =>
 bd (f30 x4 v16) fun v17 =>
 f17_6 ap L3 x0 x4 x6)))
theorem f17_5_eq (ap : FuncId → List AV → M AV) (L3 : AV → AV → M AV) (t : Tmps) : dcode (E17 ap) 56 (c2 (c1 (c2 (c1 (c1 (c1 (c2 (c2 B17)))))))) t (kB 1 (kJ (fun t => L3 (t 0) (t 4)) (kB 0 (kJ (fun t => f17_2 ap (t 4)) K17)))) = f17_5 ap L3 (t 0) (t 4) (t 5) (t 6) := (seq_eq (a := (c1 (c2 (c1 (c2 (c1 (c1 (c1 (c2 (c2 B17)))))))))) (b := (c2 (c2 (c1 (c2 (c1 (c1 (c1 (c2 (c2 B17)))))))))) (fun t => f17_6_eq ap L3 t) (by kernel_rfl))
noncomputable def f17_4 (ap : FuncId → List AV → M AV) (L3 : AV → AV → M AV) (x0 x4 : AV) : M AV :=
 bd (f41 x0) fun v1 =>
 bd (ex v1 0) fun v2 =>
 bd (ex v1 1) fun v3 =>
 f17_5 ap L3 x0 x4 v2 v3
theorem f17_4_eq (ap : FuncId → List AV → M AV) (L3 : AV → AV → M AV) (t : Tmps) : dcode (E17 ap) 56 (c2 (c1 (c1 (c1 (c2 (c2 B17)))))) t (kJ (fun t => L3 (t 0) (t 4)) (kB 0 (kJ (fun t => f17_2 ap (t 4)) K17))) = f17_4 ap L3 (t 0) (t 4) := (seq_eq (a := (c1 (c1 (c2 (c1 (c1 (c1 (c2 (c2 B17))))))))) (b := (c2 (c1 (c2 (c1 (c1 (c1 (c2 (c2 B17))))))))) (fun t => f17_5_eq ap L3 t) (by kernel_rfl))
noncomputable def f17_b3 (ap : FuncId → List AV → M AV) (L3 : AV → AV → M AV) (x0 x4 : AV) : M AV :=
 bd (bi .neq x0 (.str [])) fun v1 =>
 bd (gd v1 true (f40 x4)) fun v2 =>
 bd (gd v1 true (bi .leq v2 (.int .i64 255))) fun v3 =>
 bd (pk v1 v3 (.bool false)) fun v4 =>
 cnd v4 (
 f17_4 ap L3 x0 x4) (
 f17_2 ap x4)
theorem f17_b3_eq (ap : FuncId → List AV → M AV) (L3 : AV → AV → M AV) (t : Tmps) : dcode (E17 ap) 56 (c1 (c1 (c1 (c2 (c2 B17))))) t (kJ (fun t => L3 (t 0) (t 4)) (kB 0 (kJ (fun t => f17_2 ap (t 4)) K17))) = f17_b3 ap L3 (t 0) (t 4) := (seq_eq (a := (c1 (c1 (c1 (c1 (c2 (c2 B17))))))) (b := (c2 (c1 (c1 (c1 (c2 (c2 B17))))))) (fun t => f17_4_eq ap L3 t) (by kernel_rfl))
noncomputable def f17_l3 (ap : FuncId → List AV → M AV) : Nat → AV → AV → M AV
  | 0, _, _ => fail
  | n + 1, x0, x4 => f17_b3 ap (f17_l3 ap n) x0 x4
theorem f17_l3_eq (ap : FuncId → List AV → M AV) (t : Tmps) : dcode (E17 ap) 56 (c1 (c1 (c2 (c2 B17)))) t (kB 0 (kJ (fun t => f17_2 ap (t 4)) K17)) = f17_l3 ap fuel (t 0) (t 4) :=
  dloop_eq (c := (c1 (c1 (c1 (c2 (c2 B17)))))) (g := fun n t => f17_l3 ap n (t 0) (t 4)) (fun _ => rfl) (fun n t => f17_b3_eq ap (f17_l3 ap n) t)
noncomputable def f17_1 (ap : FuncId → List AV → M AV) (x0 x4 : AV) : M AV :=
 f17_l3 ap fuel x0 x4
theorem f17_1_eq (ap : FuncId → List AV → M AV) (t : Tmps) : dcode (E17 ap) 56 (c2 (c2 B17)) t K17 = f17_1 ap (t 0) (t 4) := (seq_eq (a := (c1 (c2 (c2 B17)))) (b := (c2 (c2 (c2 B17)))) (fun t => f17_2_eq ap t) (f17_l3_eq ap _))
noncomputable def f17_0 (ap : FuncId → List AV → M AV) (x0 : AV) : M AV :=
 bd (bx 56 (.agg [(.ptr none), .slN])) fun v1 =>
 f17_1 ap x0 v1
theorem f17_0_eq (ap : FuncId → List AV → M AV) (t : Tmps) : dcode (E17 ap) 56 (c2 B17) t K17 = f17_0 ap (t 0) := (seq_eq (a := (c1 (c2 B17))) (b := (c2 (c2 B17))) (fun t => f17_1_eq ap t) (by kernel_rfl))
noncomputable def f17 (ap : FuncId → List AV → M AV) (x0 : AV) : M AV :=
 f17_0 ap x0
theorem f17_top (ap : FuncId → List AV → M AV) (t : Tmps) : dcode (E17 ap) 56 B17 t K17 = f17 ap (t 0) := (seq_eq (a := (c1 B17)) (b := (c2 B17)) (fun t => f17_0_eq ap t) (by kernel_rfl))
theorem f17_eq (ap : FuncId → List AV → M AV) (x0 : AV) : dfn (E17 ap) Go.Proofs.Tryd.f17 [x0] = f17 ap x0 := dfn_eq (c := B17) (nt := 56) (K := K17) (by kernel_rfl) (by kernel_rfl) rfl (by kernel_rfl) (f17_top ap (argT [x0]))
theorem O17 (ap : FuncId → List AV → M AV) (hap : ApOK Go.Proofs.Tryd.prog 3 ap) : EnvOK (E17 ap) := ⟨fun g xs => (ok_if (S30 xs) (ok_if (S31 xs) (ok_if (S35 ap hap xs) (ok_if (S40 xs) (ok_if (S41 xs) (ok_if (S42 xs) (ok_if (S43 xs) (ok_if (S44 xs) (ok_if (S45 xs) ok_fail))))))))), hap⟩
theorem S17 (ap : FuncId → List AV → M AV) (hap : ApOK Go.Proofs.Tryd.prog 3 ap) (xs : List AV) : CallOK Go.Proofs.Tryd.prog 3 17 xs (L1 (f17 ap) xs) := ok_L1 (fun x0 => ok_fn (E := (E17 ap)) (fn := Go.Proofs.Tryd.f17) (O17 ap hap) rfl rfl (by kernel_rfl) (by kernel_rfl) (f17_eq ap x0)) xs

/-! ### internal/bytealg.LastIndexByteString: function 82 -/
noncomputable def C82 (g : FuncId) (xs : List AV) : M AV := fail
noncomputable def E82 : Env := ⟨Go.Proofs.Tryd.prog, 3, C82, fun _ _ => fail, fun _ => [], 82, none⟩
noncomputable def B82 : Code := bodyOf Go.Proofs.Tryd.f82
noncomputable def K82 : KT := dK Go.Proofs.Tryd.prog Go.Proofs.Tryd.f82.results.toList
noncomputable def f82_1 : M AV :=
 ret (.int .i64 (-1))
theorem f82_1_eq (t : Tmps) : dcode E82 19 (c2 (c2 B82)) t K82 = f82_1 := by kernel_rfl
noncomputable def f82_b3 (L3 : AV → AV → AV → M AV) (x0 x1 x5 : AV) : M AV :=
 bd (bi .geq x5 (.int .i64 0)) fun v1 =>
 cnd v1 (
 bd (ixs x0 x5) fun v2 =>
 bd (bi .eql v2 x1) fun v3 =>
 cnd v3 (
 ret x5) (
 bd (bi .sub x5 (.int .i64 1)) fun v4 =>
 L3 x0 x1 v4)) (
 f82_1)
theorem f82_b3_eq (L3 : AV → AV → AV → M AV) (t : Tmps) : dcode E82 19 (c1 (c1 (c2 (c1 (c2 B82))))) t (kJ (fun t => L3 (t 0) (t 1) (t 5)) (kB 0 (kJ (fun t => f82_1) K82))) = f82_b3 L3 (t 0) (t 1) (t 5) := by kernel_rfl
noncomputable def f82_l3 : Nat → AV → AV → AV → M AV
  | 0, _, _, _ => fail
  | n + 1, x0, x1, x5 => f82_b3 (f82_l3 n) x0 x1 x5
theorem f82_l3_eq (t : Tmps) : dcode E82 19 (c1 (c2 (c1 (c2 B82)))) t (kB 0 (kJ (fun t => f82_1) K82)) = f82_l3 fuel (t 0) (t 1) (t 5) :=
  dloop_eq (c := (c1 (c1 (c2 (c1 (c2 B82)))))) (g := fun n t => f82_l3 n (t 0) (t 1) (t 5)) (fun _ => rfl) (fun n t => f82_b3_eq (f82_l3 n) t)
noncomputable def f82_2 (x0 x1 x5 : AV) : M AV :=
 f82_l3 fuel x0 x1 x5
theorem f82_2_eq (t : Tmps) : dcode E82 19 (c2 (c1 (c2 B82))) t (kJ (fun t => f82_1) K82) = f82_2 (t 0) (t 1) (t 5) := (f82_l3_eq _)
noncomputable def f82_0 (x0 x1 : AV) : M AV :=
 bd (lnS x0) fun v1 =>
 bd (bi .sub v1 (.int .i64 1)) fun v2 =>
 f82_2 x0 x1 v2
theorem f82_0_eq (t : Tmps) : dcode E82 19 (c2 B82) t K82 = f82_0 (t 0) (t 1) := (seq_eq (a := (c1 (c2 B82))) (b := (c2 (c2 B82))) (fun t => f82_1_eq t) (seq_eq (a := (c1 (c1 (c2 B82)))) (b := (c2 (c1 (c2 B82)))) (fun t => f82_2_eq t) (by kernel_rfl)))
noncomputable def f82 (x0 x1 : AV) : M AV :=
 f82_0 x0 x1
theorem f82_top (t : Tmps) : dcode E82 19 B82 t K82 = f82 (t 0) (t 1) := (seq_eq (a := (c1 B82)) (b := (c2 B82)) (fun t => f82_0_eq t) (by kernel_rfl))
theorem f82_eq (x0 x1 : AV) : dfn E82 Go.Proofs.Tryd.f82 [x0, x1] = f82 x0 x1 := dfn_eq (c := B82) (nt := 19) (K := K82) (by kernel_rfl) (by kernel_rfl) rfl (by kernel_rfl) (f82_top (argT [x0, x1]))
theorem O82 : EnvOK E82 := ⟨fun g xs => ok_fail, ap_fail⟩
theorem S82 (xs : List AV) : CallOK Go.Proofs.Tryd.prog 3 82 xs (L2 f82 xs) := ok_L2 (fun x0 x1 => ok_fn (E := E82) (fn := Go.Proofs.Tryd.f82) O82 rfl rfl (by kernel_rfl) (by kernel_rfl) (f82_eq x0 x1)) xs

/-! ### strings.LastIndexByte: function 69 -/
noncomputable def C69 (g : FuncId) (xs : List AV) : M AV := bif Nat.beq g 82 then L2 f82 xs else fail
noncomputable def E69 : Env := ⟨Go.Proofs.Tryd.prog, 3, C69, fun _ _ => fail, fun _ => [], 69, none⟩
noncomputable def B69 : Code := bodyOf Go.Proofs.Tryd.f69
noncomputable def K69 : KT := dK Go.Proofs.Tryd.prog Go.Proofs.Tryd.f69.results.toList
noncomputable def f69 (x0 x1 : AV) : M AV :=
 bd (f82 x0 x1) fun v1 =>
 ret v1
theorem f69_eq (x0 x1 : AV) : dfn E69 Go.Proofs.Tryd.f69 [x0, x1] = f69 x0 x1 := dfn_eq (c := B69) (nt := 8) (K := K69) (by kernel_rfl) (by kernel_rfl) rfl (by kernel_rfl) (by kernel_rfl)
theorem O69 : EnvOK E69 := ⟨fun g xs => (ok_if (S82 xs) ok_fail), ap_fail⟩
theorem S69 (xs : List AV) : CallOK Go.Proofs.Tryd.prog 3 69 xs (L2 f69 xs) := ok_L2 (fun x0 x1 => ok_fn (E := E69) (fn := Go.Proofs.Tryd.f69) O69 rfl rfl (by kernel_rfl) (by kernel_rfl) (f69_eq x0 x1)) xs

/-! ### etui/pname.Split: function 46 -/
noncomputable def C46 (g : FuncId) (xs : List AV) : M AV := bif Nat.beq g 69 then L2 f69 xs else fail
noncomputable def E46 : Env := ⟨Go.Proofs.Tryd.prog, 3, C46, fun _ _ => fail, fun i => bif Nat.beq i 2 then [0, 1, 2, 3, 4, 5, 6, 7] else [], 46, none⟩
noncomputable def B46 : Code := bodyOf Go.Proofs.Tryd.f46
noncomputable def K46 : KT := dK Go.Proofs.Tryd.prog Go.Proofs.Tryd.f46.results.toList
noncomputable def f46 (x0 : AV) : M AV :=
 bd (f69 x0 (.int .u8 47)) fun v1 =>
 bd (bi .add v1 (.int .i64 1)) fun v2 =>
 bd (ret x0) fun v3 =>
 bd (ret v2) fun v4 =>
 bd (ss v3 none (some v4)) fun v5 =>
 bd (ret x0) fun v6 =>
 bd (ret v2) fun v7 =>
 bd (ss v6 (some v7) none) fun v8 =>
 bd (ret v5) fun v9 =>
 bd (ret v8) fun v10 =>
 ret (.tuple [v9, v10])
theorem f46_eq (x0 : AV) : dfn E46 Go.Proofs.Tryd.f46 [x0] = f46 x0 := dfn_eq (c := B46) (nt := 14) (K := K46) (by kernel_rfl) (by kernel_rfl) rfl (by kernel_rfl) (by kernel_rfl)
theorem O46 : EnvOK E46 := ⟨fun g xs => (ok_if (S69 xs) ok_fail), ap_fail⟩
theorem S46 (xs : List AV) : CallOK Go.Proofs.Tryd.prog 3 46 xs (L1 f46 xs) := ok_L1 (fun x0 => ok_fn (E := E46) (fn := Go.Proofs.Tryd.f46) O46 rfl rfl (by kernel_rfl) (by kernel_rfl) (f46_eq x0)) xs

/-! ### etui/iri.dots: function 47 -/
noncomputable def C47 (g : FuncId) (xs : List AV) : M AV := bif Nat.beq g 36 then L2 f36 xs else bif Nat.beq g 38 then L2 f38 xs else fail
noncomputable def E47 : Env := ⟨Go.Proofs.Tryd.prog, 3, C47, fun _ _ => fail, fun _ => [], 47, none⟩
noncomputable def B47 : Code := bodyOf Go.Proofs.Tryd.f47
noncomputable def K47 : KT := dK Go.Proofs.Tryd.prog Go.Proofs.Tryd.f47.results.toList
noncomputable def f47_4 (x4 : AV) : M AV :=
 bd (f38 x4 (.str [47])) fun v1 =>
 bd (bi .add (.str [47]) v1) fun v2 =>
 ret v2
theorem f47_4_eq (t : Tmps) : dcode E47 51 (c2 (c2 (c2 (c2 (c2 B47))))) t K47 = f47_4 (t 4) := by kernel_rfl
noncomputable def f47_3 (x3 x4 : AV) : M AV :=
 bd (lnL x3) fun v1 =>
 bd (bi .sub v1 (.int .i64 1)) fun v2 =>
 bd (ixp 1 x3 v2) fun v3 =>
 bd (ld v3) fun v4 =>
 bd (bi .eql v4 (.str [46])) fun v5 =>
 bd (gd v5 false (ret v4)) fun v6 =>
 bd (gd v5 false (bi .eql v6 (.str [46, 46]))) fun v7 =>
 bd (pk v5 (.bool true) v7) fun v8 =>
 cnd v8 (
 bd (bsl 9 1 1 [(.str [])] [(0, 1, (.str []))]) fun v9 =>
 bd (app 9 1 16 x4 v9) fun v10 =>
 f47_4 v10) (
 f47_4 x4)
theorem f47_3_eq (t : Tmps) : dcode E47 51 (c2 (c2 (c2 (c2 B47)))) t K47 = f47_3 (t 3) (t 4) := (seq_eq (a := (c1 (c2 (c2 (c2 (c2 B47)))))) (b := (c2 (c2 (c2 (c2 (c2 B47)))))) (fun t => f47_4_eq t) (by kernel_rfl))
noncomputable def f47_9 (L6 : AV → AV → AV → AV → AV → M AV) (x3 x4 x11 x12 x13 : AV) : M AV :=
 bd (bi .add x13 (.int .i64 1)) fun v1 =>
 L6 x3 x4 x11 x12 v1
theorem f47_9_eq (L6 : AV → AV → AV → AV → AV → M AV) (t : Tmps) : dcode E47 51 (c2 (c2 (c2 (c1 (c1 (c2 (c1 (c2 (c2 (c2 B47)))))))))) t (kJ (fun t => L6 (t 3) (t 4) (t 11) (t 12) (t 13)) (kB 0 (kJ (fun t => f47_3 (t 3) (t 4)) K47))) = f47_9 L6 (t 3) (t 4) (t 11) (t 12) (t 13) := by kernel_rfl
noncomputable def f47_8 (L6 : AV → AV → AV → AV → AV → M AV) (x3 x4 x11 x12 x13 : AV) : M AV :=
 bd (ixp 1 x11 x13) fun v1 =>
 bd (ld v1) fun v2 =>
 bd (bi .eql v2 (.str [46])) fun v3 =>
 cnd v3 (
 f47_9 L6 x3 x4 x11 x12 x13) (
 bd (bi .eql v2 (.str [46, 46])) fun v4 =>
 cnd v4 (
 bd (lnL x4) fun v5 =>
 bd (bi .sub v5 (.int .i64 1)) fun v6 =>
 bd (fold2 mx2 v6 [(.int .i64 0)]) fun v7 =>
 bd (sls 1 x4 none (some v7)) fun v8 =>
 f47_9 L6 x3 v8 x11 x12 x13) (
 bd (bsl 9 1 1 [(.str [])] [(0, 1, v2)]) fun v9 =>
 bd (app 9 1 16 x4 v9) fun v10 =>
 f47_9 L6 x3 v10 x11 x12 x13))
theorem f47_8_eq (L6 : AV → AV → AV → AV → AV → M AV) (t : Tmps) : dcode E47 51 (c2 (c2 (c1 (c1 (c2 (c1 (c2 (c2 (c2 B47))))))))) t (kJ (fun t => L6 (t 3) (t 4) (t 11) (t 12) (t 13)) (kB 0 (kJ (fun t => f47_3 (t 3) (t 4)) K47))) = f47_8 L6 (t 3) (t 4) (t 11) (t 12) (t 13) := (seq_eq (a := (c1 (c2 (c2 (c1 (c1 (c2 (c1 (c2 (c2 (c2 B47))))))))))) (b := (c2 (c2 (c2 (c1 (c1 (c2 (c1 (c2 (c2 (c2 B47))))))))))) (fun t => f47_9_eq L6 t) (by kernel_rfl))
noncomputable def f47_7 (L6 : AV → AV → AV → AV → AV → M AV) (x3 x4 x11 x12 x13 x14 : AV) : M AV :=
 cnd x14 (
 f47_8 L6 x3 x4 x11 x12 x13) (
 f47_3 x3 x4)
theorem f47_7_eq (L6 : AV → AV → AV → AV → AV → M AV) (t : Tmps) : dcode E47 51 (c2 (c1 (c1 (c2 (c1 (c2 (c2 (c2 B47)))))))) t (kJ (fun t => L6 (t 3) (t 4) (t 11) (t 12) (t 13)) (kB 0 (kJ (fun t => f47_3 (t 3) (t 4)) K47))) = f47_7 L6 (t 3) (t 4) (t 11) (t 12) (t 13) (t 14) := (seq_eq (a := (c1 (c2 (c1 (c1 (c2 (c1 (c2 (c2 (c2 B47)))))))))) (b := (c2 (c2 (c1 (c1 (c2 (c1 (c2 (c2 (c2 B47)))))))))) (fun t => f47_8_eq L6 t) (by kernel_rfl))
noncomputable def f47_b6 (L6 : AV → AV → AV → AV → AV → M AV) (x3 x4 x11 x12 x13 : AV) : M AV :=
 bd (bi .lss x13 x12) fun v1 =>
 f47_7 L6 x3 x4 x11 x12 x13 v1
theorem f47_b6_eq (L6 : AV → AV → AV → AV → AV → M AV) (t : Tmps) : dcode E47 51 (c1 (c1 (c2 (c1 (c2 (c2 (c2 B47))))))) t (kJ (fun t => L6 (t 3) (t 4) (t 11) (t 12) (t 13)) (kB 0 (kJ (fun t => f47_3 (t 3) (t 4)) K47))) = f47_b6 L6 (t 3) (t 4) (t 11) (t 12) (t 13) := (seq_eq (a := (c1 (c1 (c1 (c2 (c1 (c2 (c2 (c2 B47))))))))) (b := (c2 (c1 (c1 (c2 (c1 (c2 (c2 (c2 B47))))))))) (fun t => f47_7_eq L6 t) (by kernel_rfl))
noncomputable def f47_l6 : Nat → AV → AV → AV → AV → AV → M AV
  | 0, _, _, _, _, _ => fail
  | n + 1, x3, x4, x11, x12, x13 => f47_b6 (f47_l6 n) x3 x4 x11 x12 x13
theorem f47_l6_eq (t : Tmps) : dcode E47 51 (c1 (c2 (c1 (c2 (c2 (c2 B47)))))) t (kB 0 (kJ (fun t => f47_3 (t 3) (t 4)) K47)) = f47_l6 fuel (t 3) (t 4) (t 11) (t 12) (t 13) :=
  dloop_eq (c := (c1 (c1 (c2 (c1 (c2 (c2 (c2 B47)))))))) (g := fun n t => f47_l6 n (t 3) (t 4) (t 11) (t 12) (t 13)) (fun _ => rfl) (fun n t => f47_b6_eq (f47_l6 n) t)
noncomputable def f47_5 (x3 x4 x11 x12 x13 : AV) : M AV :=
 f47_l6 fuel x3 x4 x11 x12 x13
theorem f47_5_eq (t : Tmps) : dcode E47 51 (c2 (c1 (c2 (c2 (c2 B47))))) t (kJ (fun t => f47_3 (t 3) (t 4)) K47) = f47_5 (t 3) (t 4) (t 11) (t 12) (t 13) := (f47_l6_eq _)
noncomputable def f47_2 (x3 x4 : AV) : M AV :=
 bd (lnL x3) fun v1 =>
 f47_5 x3 x4 x3 v1 (.int .i64 0)
theorem f47_2_eq (t : Tmps) : dcode E47 51 (c2 (c2 (c2 B47))) t K47 = f47_2 (t 3) (t 4) := (seq_eq (a := (c1 (c2 (c2 (c2 B47))))) (b := (c2 (c2 (c2 (c2 B47))))) (fun t => f47_3_eq t) (seq_eq (a := (c1 (c1 (c2 (c2 (c2 B47)))))) (b := (c2 (c1 (c2 (c2 (c2 B47)))))) (fun t => f47_5_eq t) (by kernel_rfl)))
noncomputable def f47_1 (x3 : AV) : M AV :=
 f47_2 x3 .slN
theorem f47_1_eq (t : Tmps) : dcode E47 51 (c2 (c2 B47)) t K47 = f47_1 (t 3) := (seq_eq (a := (c1 (c2 (c2 B47)))) (b := (c2 (c2 (c2 B47)))) (fun t => f47_2_eq t) (by kernel_rfl))
noncomputable def f47_0 (x0 : AV) : M AV :=
 bd (ss x0 (some (.int .i64 1)) none) fun v1 =>
 bd (f36 v1 (.str [47])) fun v2 =>
 f47_1 v2
theorem f47_0_eq (t : Tmps) : dcode E47 51 (c2 B47) t K47 = f47_0 (t 0) := (seq_eq (a := (c1 (c2 B47))) (b := (c2 (c2 B47))) (fun t => f47_1_eq t) (by kernel_rfl))
noncomputable def f47 (x0 : AV) : M AV :=
 f47_0 x0
theorem f47_top (t : Tmps) : dcode E47 51 B47 t K47 = f47 (t 0) := (seq_eq (a := (c1 B47)) (b := (c2 B47)) (fun t => f47_0_eq t) (by kernel_rfl))
theorem f47_eq (x0 : AV) : dfn E47 Go.Proofs.Tryd.f47 [x0] = f47 x0 := dfn_eq (c := B47) (nt := 51) (K := K47) (by kernel_rfl) (by kernel_rfl) rfl (by kernel_rfl) (f47_top (argT [x0]))
theorem O47 : EnvOK E47 := ⟨fun g xs => (ok_if (S36 xs) (ok_if (S38 xs) ok_fail)), ap_fail⟩
theorem S47 (xs : List AV) : CallOK Go.Proofs.Tryd.prog 3 47 xs (L1 f47 xs) := ok_L1 (fun x0 => ok_fn (E := E47) (fn := Go.Proofs.Tryd.f47) O47 rfl rfl (by kernel_rfl) (by kernel_rfl) (f47_eq x0)) xs

/-! ### etui/iri.Resolve: function 18 -/
noncomputable def C18 (ap : FuncId → List AV → M AV) (g : FuncId) (xs : List AV) : M AV := bif Nat.beq g 9 then L1 (f9 ap) xs else bif Nat.beq g 23 then L2 f23 xs else bif Nat.beq g 46 then L1 f46 xs else bif Nat.beq g 47 then L1 f47 xs else fail
noncomputable def E18 (ap : FuncId → List AV → M AV) : Env := ⟨Go.Proofs.Tryd.prog, 3, C18 ap, ap, fun _ => [], 18, none⟩
noncomputable def B18 : Code := bodyOf Go.Proofs.Tryd.f18
noncomputable def K18 : KT := dK Go.Proofs.Tryd.prog Go.Proofs.Tryd.f18.results.toList
noncomputable def f18_2 (ap : FuncId → List AV → M AV) (x4 x6 : AV) : M AV :=
 bd (fa x6 2) fun v1 =>
 bd (ld v1) fun v2 =>
 bd (f47 v2) fun v3 =>
 bd (fa x6 2) fun v4 =>
 bd (st v4 v3) fun _ =>
 bd (lda 9 x6) fun v5 =>
 bd (sta 9 x4 v5) fun _ =>
 bd (lda 9 x4) fun v6 => ret (.tuple [v6, (.int .i64 0)])
theorem f18_2_eq (ap : FuncId → List AV → M AV) (t : Tmps) : dcode (E18 ap) 58 (c2 (c2 (c2 B18))) t K18 = f18_2 ap (t 4) (t 6) := by kernel_rfl
noncomputable def f18_1 (ap : FuncId → List AV → M AV) (x0 x4 x6 x7 : AV) : M AV :=
 bd (un .not x7) fun v1 =>
 cnd v1 (
 bd (bu [(.str []), (.str []), (.str []), (.str []), (.str []), (.bool false), (.bool false), (.bool false), (.bool false)] []) fun v2 =>
 bd (sta 9 x4 v2) fun _ =>
 bd (lda 9 x4) fun v3 => ret (.tuple [v3, (.int .i64 10)])) (
 bd (fa x6 5) fun v4 =>
 bd (ld v4) fun v5 =>
 bd (gd v5 false (fa x6 6)) fun v6 =>
 bd (gd v5 false (ld v6)) fun v7 =>
 bd (pk v5 (.bool true) v7) fun v8 =>
 bd (gd v8 false (ret x0)) fun v9 =>
 bd (gd v8 false (f23 v9 (.str [47]))) fun v10 =>
 bd (gd v8 false (un .not v10)) fun v11 =>
 bd (pk v8 (.bool true) v11) fun v12 =>
 cnd v12 (
 bd (bu [(.str []), (.str []), (.str []), (.str []), (.str []), (.bool false), (.bool false), (.bool false), (.bool false)] []) fun v13 =>
 bd (sta 9 x4 v13) fun _ =>
 bd (lda 9 x4) fun v14 => ret (.tuple [v14, (.int .i64 21)])) (
 bd (fa x6 2) fun v15 =>
 bd (ld v15) fun v16 =>
 bd (bi .eql v16 (.str [])) fun v17 =>
 cnd v17 (
 bd (fa x6 2) fun v18 =>
 bd (st v18 x0) fun _ =>
 f18_2 ap x4 x6) (
 bd (fa x6 2) fun v19 =>
 bd (ld v19) fun v20 =>
 bd (ixs v20 (.int .i64 0)) fun v21 =>
 bd (bi .neq v21 (.int .u8 47)) fun v22 =>
 cnd v22 (
 bd (f46 x0) fun v23 =>
 bd (ex v23 0) fun v24 =>
 bd (ex v23 1) fun v25 =>
 bd (fa x6 2) fun v26 =>
 bd (ld v26) fun v27 =>
 bd (bi .add v24 v27) fun v28 =>
 bd (fa x6 2) fun v29 =>
 bd (st v29 v28) fun _ =>
 f18_2 ap x4 x6) (
 f18_2 ap x4 x6))))
theorem f18_1_eq (ap : FuncId → List AV → M AV) (t : Tmps) : dcode (E18 ap) 58 (c2 (c2 B18)) t K18 = f18_1 ap (t 0) (t 4) (t 6) (t 7) := (seq_eq (a := (c1 (c2 (c2 B18)))) (b := (c2 (c2 (c2 B18)))) (fun t => f18_2_eq ap t) (by kernel_rfl))
noncomputable def f18_0 (ap : FuncId → List AV → M AV) (x0 x1 x4 : AV) : M AV :=
 bd (f9 ap x1) fun v1 =>
 bd (ex v1 0) fun v2 =>
 bd (ex v1 1) fun v3 =>
 bd (bx 23 (.agg [(.str []), (.str []), (.str []), (.str []), (.str []), (.bool false), (.bool false), (.bool false), (.bool false)])) fun v4 =>
 bd (sta 9 v4 v2) fun _ =>
 f18_1 ap x0 x4 v4 v3
theorem f18_0_eq (ap : FuncId → List AV → M AV) (t : Tmps) : dcode (E18 ap) 58 (c2 B18) t K18 = f18_0 ap (t 0) (t 1) (t 4) := (seq_eq (a := (c1 (c2 B18))) (b := (c2 (c2 B18))) (fun t => f18_1_eq ap t) (by kernel_rfl))
noncomputable def f18 (ap : FuncId → List AV → M AV) (x0 x1 : AV) : M AV :=
 bd (bx 23 (.agg [(.str []), (.str []), (.str []), (.str []), (.str []), (.bool false), (.bool false), (.bool false), (.bool false)])) fun v1 =>
 f18_0 ap x0 x1 v1
theorem f18_top (ap : FuncId → List AV → M AV) (t : Tmps) : dcode (E18 ap) 58 B18 t K18 = f18 ap (t 0) (t 1) := (seq_eq (a := (c1 B18)) (b := (c2 B18)) (fun t => f18_0_eq ap t) (by kernel_rfl))
theorem f18_eq (ap : FuncId → List AV → M AV) (x0 x1 : AV) : dfn (E18 ap) Go.Proofs.Tryd.f18 [x0, x1] = f18 ap x0 x1 := dfn_eq (c := B18) (nt := 58) (K := K18) (by kernel_rfl) (by kernel_rfl) rfl (by kernel_rfl) (f18_top ap (argT [x0, x1]))
theorem O18 (ap : FuncId → List AV → M AV) (hap : ApOK Go.Proofs.Tryd.prog 3 ap) : EnvOK (E18 ap) := ⟨fun g xs => (ok_if (S9 ap hap xs) (ok_if (S23 xs) (ok_if (S46 xs) (ok_if (S47 xs) ok_fail)))), hap⟩
theorem S18 (ap : FuncId → List AV → M AV) (hap : ApOK Go.Proofs.Tryd.prog 3 ap) (xs : List AV) : CallOK Go.Proofs.Tryd.prog 3 18 xs (L2 (f18 ap) xs) := ok_L2 (fun x0 x1 => ok_fn (E := (E18 ap)) (fn := Go.Proofs.Tryd.f18) (O18 ap hap) rfl rfl (by kernel_rfl) (by kernel_rfl) (f18_eq ap x0 x1)) xs

/-! ### etui/iri.Target: function 16 -/
noncomputable def C16 (ap : FuncId → List AV → M AV) (g : FuncId) (xs : List AV) : M AV := bif Nat.beq g 17 then L1 (f17 ap) xs else bif Nat.beq g 18 then L2 (f18 ap) xs else fail
noncomputable def E16 (ap : FuncId → List AV → M AV) : Env := ⟨Go.Proofs.Tryd.prog, 3, C16 ap, ap, fun i => bif Nat.beq i 7 then [0, 1, 2, 3, 4, 5] else [], 16, none⟩
noncomputable def B16 : Code := bodyOf Go.Proofs.Tryd.f16
noncomputable def K16 : KT := dK Go.Proofs.Tryd.prog Go.Proofs.Tryd.f16.results.toList
noncomputable def f16 (ap : FuncId → List AV → M AV) (x0 x1 : AV) : M AV :=
 bd (f18 ap x0 x1) fun v1 =>
 bd (ex v1 0) fun v2 =>
 bd (ex v1 1) fun v3 =>
 bd (bx 23 (.agg [(.str []), (.str []), (.str []), (.str []), (.str []), (.bool false), (.bool false), (.bool false), (.bool false)])) fun v4 =>
 bd (sta 9 v4 v2) fun _ =>
 bd (bi .neq v3 (.int .i64 0)) fun v5 =>
 cnd v5 (
 ret (.tuple [(.str []), (.str []), v3])) (
 bd (fa v4 2) fun v6 =>
 bd (ld v6) fun v7 =>
 bd (f17 ap v7) fun v8 =>
 bd (ex v8 0) fun v9 =>
 bd (ex v8 1) fun v10 =>
 bd (un .not v10) fun v11 =>
 bd (gd v11 false (fa v4 7)) fun v12 =>
 bd (gd v11 false (ld v12)) fun v13 =>
 bd (pk v11 (.bool true) v13) fun v14 =>
 cnd v14 (
 ret (.tuple [(.str []), (.str []), (.int .i64 21)])) (
 bd (ret v9) fun v15 =>
 bd (fa v4 4) fun v16 =>
 bd (ld v16) fun v17 =>
 bd (ret v15) fun v18 =>
 bd (ret v17) fun v19 =>
 bd (ret (.int .i64 0)) fun v20 =>
 ret (.tuple [v18, v19, v20])))
theorem f16_eq (ap : FuncId → List AV → M AV) (x0 x1 : AV) : dfn (E16 ap) Go.Proofs.Tryd.f16 [x0, x1] = f16 ap x0 x1 := dfn_eq (c := B16) (nt := 34) (K := K16) (by kernel_rfl) (by kernel_rfl) rfl (by kernel_rfl) (by kernel_rfl)
theorem O16 (ap : FuncId → List AV → M AV) (hap : ApOK Go.Proofs.Tryd.prog 3 ap) : EnvOK (E16 ap) := ⟨fun g xs => (ok_if (S17 ap hap xs) (ok_if (S18 ap hap xs) ok_fail)), hap⟩
theorem S16 (ap : FuncId → List AV → M AV) (hap : ApOK Go.Proofs.Tryd.prog 3 ap) (xs : List AV) : CallOK Go.Proofs.Tryd.prog 3 16 xs (L2 (f16 ap) xs) := ok_L2 (fun x0 x1 => ok_fn (E := (E16 ap)) (fn := Go.Proofs.Tryd.f16) (O16 ap hap) rfl rfl (by kernel_rfl) (by kernel_rfl) (f16_eq ap x0 x1)) xs

/-! ### etui/etuilaw16.alive: function 8 -/
noncomputable def C8 (ap : FuncId → List AV → M AV) (g : FuncId) (xs : List AV) : M AV := bif Nat.beq g 9 then L1 (f9 ap) xs else bif Nat.beq g 12 then L1 (f12 ap) xs else bif Nat.beq g 15 then L2 (f15 ap) xs else bif Nat.beq g 16 then L2 (f16 ap) xs else fail
noncomputable def E8 (ap : FuncId → List AV → M AV) : Env := ⟨Go.Proofs.Tryd.prog, 3, C8 ap, ap, fun _ => [], 8, none⟩
noncomputable def B8 : Code := bodyOf Go.Proofs.Tryd.f8
noncomputable def K8 : KT := dK Go.Proofs.Tryd.prog Go.Proofs.Tryd.f8.results.toList
noncomputable def f8 (ap : FuncId → List AV → M AV) : M AV :=
 bd (f16 ap (.str [47, 119, 111, 114, 100, 47, 100, 111, 99, 117, 109, 101, 110, 116, 46, 120, 109, 108]) (.str [46, 46, 47, 109, 101, 100, 105, 97, 47, 97, 37, 54, 50, 46, 112, 110, 103, 35, 120])) fun v1 =>
 bd (ex v1 0) fun v2 =>
 bd (ex v1 1) fun v3 =>
 bd (ex v1 2) fun v4 =>
 bd (f16 ap (.str [47, 97]) (.str [104, 116, 116, 112, 58, 47, 47, 98, 47, 99])) fun v5 =>
 bd (ex v5 0) fun v6 =>
 bd (ex v5 1) fun v7 =>
 bd (ex v5 2) fun v8 =>
 bd (f9 ap (.str [97, 58, 98, 63, 99, 35, 100])) fun v9 =>
 bd (ex v9 0) fun v10 =>
 bd (ex v9 1) fun v11 =>
 bd (bx 23 (.agg [(.str []), (.str []), (.str []), (.str []), (.str []), (.bool false), (.bool false), (.bool false), (.bool false)])) fun v12 =>
 bd (sta 9 v12 v10) fun _ =>
 bd (bi .eql v4 (.int .i64 0)) fun v13 =>
 bd (gd v13 true (ret v2)) fun v14 =>
 bd (gd v13 true (bi .eql v14 (.str [47, 109, 101, 100, 105, 97, 47, 97, 98, 46, 112, 110, 103]))) fun v15 =>
 bd (pk v13 v15 (.bool false)) fun v16 =>
 bd (gd v16 true (ret v3)) fun v17 =>
 bd (gd v16 true (bi .eql v17 (.str [120]))) fun v18 =>
 bd (pk v16 v18 (.bool false)) fun v19 =>
 bd (gd v19 true (ret v8)) fun v20 =>
 bd (gd v19 true (bi .eql v20 (.int .i64 21))) fun v21 =>
 bd (pk v19 v21 (.bool false)) fun v22 =>
 bd (gd v22 true (ret v11)) fun v23 =>
 bd (pk v22 v23 (.bool false)) fun v24 =>
 bd (gd v24 true (lda 9 v12)) fun v25 =>
 bd (gd v24 true (bu [(.str []), (.str []), (.str []), (.str []), (.str []), (.bool false), (.bool false), (.bool false), (.bool false)] [(0, 1, (.str [97])), (2, 1, (.str [98])), (3, 1, (.str [99])), (4, 1, (.str [100])), (5, 1, (.bool true)), (7, 1, (.bool true)), (8, 1, (.bool true))])) fun v26 =>
 bd (gd v24 true (bis [.s, .s, .s, .s, .s, .b, .b, .b, .b] .eql v25 v26)) fun v27 =>
 bd (pk v24 v27 (.bool false)) fun v28 =>
 bd (gd v28 true (lda 9 v12)) fun v29 =>
 bd (gd v28 true (f12 ap v29)) fun v30 =>
 bd (gd v28 true (bi .eql v30 (.str [97, 58, 98, 63, 99, 35, 100]))) fun v31 =>
 bd (pk v28 v31 (.bool false)) fun v32 =>
 bd (gd v32 true (f15 ap (.str [47, 119, 111, 114, 100, 47, 100, 111, 99, 117, 109, 101, 110, 116, 46, 120, 109, 108]) (.str [47, 109, 101, 100, 105, 97, 47, 97, 46, 112, 110, 103]))) fun v33 =>
 bd (gd v32 true (bi .eql v33 (.str [46, 46, 47, 109, 101, 100, 105, 97, 47, 97, 46, 112, 110, 103]))) fun v34 =>
 bd (pk v32 v34 (.bool false)) fun v35 =>
 ret v35
theorem f8_eq (ap : FuncId → List AV → M AV) : dfn (E8 ap) Go.Proofs.Tryd.f8 [] = f8 ap := dfn_eq (c := B8) (nt := 54) (K := K8) (by kernel_rfl) (by kernel_rfl) rfl (by kernel_rfl) (by kernel_rfl)
theorem O8 (ap : FuncId → List AV → M AV) (hap : ApOK Go.Proofs.Tryd.prog 3 ap) : EnvOK (E8 ap) := ⟨fun g xs => (ok_if (S9 ap hap xs) (ok_if (S12 ap hap xs) (ok_if (S15 ap hap xs) (ok_if (S16 ap hap xs) ok_fail)))), hap⟩
theorem S8 (ap : FuncId → List AV → M AV) (hap : ApOK Go.Proofs.Tryd.prog 3 ap) (xs : List AV) : CallOK Go.Proofs.Tryd.prog 3 8 xs (L0 (f8 ap) xs) := ok_L0 (ok_fn (E := (E8 ap)) (fn := Go.Proofs.Tryd.f8) (O8 ap hap) rfl rfl (by kernel_rfl) (by kernel_rfl) (f8_eq ap)) xs

/-! ### etui/etuiref16.hex: function 48 -/
noncomputable def C48 (g : FuncId) (xs : List AV) : M AV := fail
noncomputable def E48 : Env := ⟨Go.Proofs.Tryd.prog, 3, C48, fun _ _ => fail, fun _ => [], 48, none⟩
noncomputable def B48 : Code := bodyOf Go.Proofs.Tryd.f48
noncomputable def K48 : KT := dK Go.Proofs.Tryd.prog Go.Proofs.Tryd.f48.results.toList
noncomputable def f48 (x0 : AV) : M AV :=
 bd (bi .geq x0 (.int .u8 48)) fun v1 =>
 bd (gd v1 true (ret x0)) fun v2 =>
 bd (gd v1 true (bi .leq v2 (.int .u8 57))) fun v3 =>
 bd (pk v1 v3 (.bool false)) fun v4 =>
 bd (gd v4 false (ret x0)) fun v5 =>
 bd (gd v4 false (bi .geq v5 (.int .u8 97))) fun v6 =>
 bd (gd v4 false (ret v6)) fun v7 =>
 bd (gd v7 true (ret x0)) fun v8 =>
 bd (gd v7 true (bi .leq v8 (.int .u8 102))) fun v9 =>
 bd (gd v4 false (pk v7 v9 (.bool false))) fun v10 =>
 bd (pk v4 (.bool true) v10) fun v11 =>
 bd (gd v11 false (ret x0)) fun v12 =>
 bd (gd v11 false (bi .geq v12 (.int .u8 65))) fun v13 =>
 bd (gd v11 false (ret v13)) fun v14 =>
 bd (gd v14 true (ret x0)) fun v15 =>
 bd (gd v14 true (bi .leq v15 (.int .u8 70))) fun v16 =>
 bd (gd v11 false (pk v14 v16 (.bool false))) fun v17 =>
 bd (pk v11 (.bool true) v17) fun v18 =>
 ret v18
theorem f48_eq (x0 : AV) : dfn E48 Go.Proofs.Tryd.f48 [x0] = f48 x0 := dfn_eq (c := B48) (nt := 25) (K := K48) (by kernel_rfl) (by kernel_rfl) rfl (by kernel_rfl) (by kernel_rfl)
theorem O48 : EnvOK E48 := ⟨fun g xs => ok_fail, ap_fail⟩
theorem S48 (xs : List AV) : CallOK Go.Proofs.Tryd.prog 3 48 xs (L1 f48 xs) := ok_L1 (fun x0 => ok_fn (E := E48) (fn := Go.Proofs.Tryd.f48) O48 rfl rfl (by kernel_rfl) (by kernel_rfl) (f48_eq x0)) xs

/-! ### etui/etuiref16.Right: function 20 -/
noncomputable def C20 (g : FuncId) (xs : List AV) : M AV := bif Nat.beq g 48 then L1 f48 xs else fail
noncomputable def E20 : Env := ⟨Go.Proofs.Tryd.prog, 3, C20, fun _ _ => fail, fun _ => [], 20, none⟩
noncomputable def B20 : Code := bodyOf Go.Proofs.Tryd.f20
noncomputable def K20 : KT := dK Go.Proofs.Tryd.prog Go.Proofs.Tryd.f20.results.toList
noncomputable def f20_2 : M AV :=
 ret (.bool true)
theorem f20_2_eq (t : Tmps) : dcode E20 80 (c2 (c2 (c2 B20))) t K20 = f20_2 := by kernel_rfl
noncomputable def f20_b4 (L4 : AV → AV → M AV) (x0 x3 : AV) : M AV :=
 bd (lnS x0) fun v1 =>
 bd (bi .lss x3 v1) fun v2 =>
 cnd v2 (
 bd (ixs x0 x3) fun v3 =>
 bd (bi .lss v3 (.int .u8 33)) fun v4 =>
 bd (gd v4 false (ret v3)) fun v5 =>
 bd (gd v4 false (bi .eql v5 (.int .u8 127))) fun v6 =>
 bd (pk v4 (.bool true) v6) fun v7 =>
 bd (gd v7 false (ret v3)) fun v8 =>
 bd (gd v7 false (bi .eql v8 (.int .u8 34))) fun v9 =>
 bd (pk v7 (.bool true) v9) fun v10 =>
 bd (gd v10 false (ret v3)) fun v11 =>
 bd (gd v10 false (bi .eql v11 (.int .u8 60))) fun v12 =>
 bd (pk v10 (.bool true) v12) fun v13 =>
 bd (gd v13 false (ret v3)) fun v14 =>
 bd (gd v13 false (bi .eql v14 (.int .u8 62))) fun v15 =>
 bd (pk v13 (.bool true) v15) fun v16 =>
 bd (gd v16 false (ret v3)) fun v17 =>
 bd (gd v16 false (bi .eql v17 (.int .u8 92))) fun v18 =>
 bd (pk v16 (.bool true) v18) fun v19 =>
 bd (gd v19 false (ret v3)) fun v20 =>
 bd (gd v19 false (bi .eql v20 (.int .u8 94))) fun v21 =>
 bd (pk v19 (.bool true) v21) fun v22 =>
 bd (gd v22 false (ret v3)) fun v23 =>
 bd (gd v22 false (bi .eql v23 (.int .u8 96))) fun v24 =>
 bd (pk v22 (.bool true) v24) fun v25 =>
 bd (gd v25 false (ret v3)) fun v26 =>
 bd (gd v25 false (bi .geq v26 (.int .u8 123))) fun v27 =>
 bd (gd v25 false (ret v27)) fun v28 =>
 bd (gd v28 true (ret v3)) fun v29 =>
 bd (gd v28 true (bi .leq v29 (.int .u8 125))) fun v30 =>
 bd (gd v25 false (pk v28 v30 (.bool false))) fun v31 =>
 bd (pk v25 (.bool true) v31) fun v32 =>
 cnd v32 (
 ret (.bool false)) (
 bd (bi .eql v3 (.int .u8 37)) fun v33 =>
 bd (gd v33 true (ret x3)) fun v34 =>
 bd (gd v33 true (bi .add v34 (.int .i64 2))) fun v35 =>
 bd (gd v33 true (ret x0)) fun v36 =>
 bd (gd v33 true (lnS v36)) fun v37 =>
 bd (gd v33 true (bi .geq v35 v37)) fun v38 =>
 bd (gd v33 true (ret v38)) fun v39 =>
 bd (gd v39 false (ret x0)) fun v40 =>
 bd (gd v39 false (ret x3)) fun v41 =>
 bd (gd v39 false (bi .add v41 (.int .i64 1))) fun v42 =>
 bd (gd v39 false (ixs v40 v42)) fun v43 =>
 bd (gd v39 false (f48 v43)) fun v44 =>
 bd (gd v39 false (un .not v44)) fun v45 =>
 bd (gd v33 true (pk v39 (.bool true) v45)) fun v46 =>
 bd (gd v33 true (ret v46)) fun v47 =>
 bd (gd v47 false (ret x0)) fun v48 =>
 bd (gd v47 false (ret x3)) fun v49 =>
 bd (gd v47 false (bi .add v49 (.int .i64 2))) fun v50 =>
 bd (gd v47 false (ixs v48 v50)) fun v51 =>
 bd (gd v47 false (f48 v51)) fun v52 =>
 bd (gd v47 false (un .not v52)) fun v53 =>
 bd (gd v33 true (pk v47 (.bool true) v53)) fun v54 =>
 bd (pk v33 v54 (.bool false)) fun v55 =>
 cnd v55 (
 ret (.bool false)) (
 bd (bi .add x3 (.int .i64 1)) fun v56 =>
 L4 x0 v56))) (
 f20_2)
theorem f20_b4_eq (L4 : AV → AV → M AV) (t : Tmps) : dcode E20 80 (c1 (c1 (c2 (c1 (c2 (c2 B20)))))) t (kJ (fun t => L4 (t 0) (t 3)) (kB 0 (kJ (fun t => f20_2) K20))) = f20_b4 L4 (t 0) (t 3) := by kernel_rfl
noncomputable def f20_l4 : Nat → AV → AV → M AV
  | 0, _, _ => fail
  | n + 1, x0, x3 => f20_b4 (f20_l4 n) x0 x3
theorem f20_l4_eq (t : Tmps) : dcode E20 80 (c1 (c2 (c1 (c2 (c2 B20))))) t (kB 0 (kJ (fun t => f20_2) K20)) = f20_l4 fuel (t 0) (t 3) :=
  dloop_eq (c := (c1 (c1 (c2 (c1 (c2 (c2 B20))))))) (g := fun n t => f20_l4 n (t 0) (t 3)) (fun _ => rfl) (fun n t => f20_b4_eq (f20_l4 n) t)
noncomputable def f20_3 (x0 x3 : AV) : M AV :=
 f20_l4 fuel x0 x3
theorem f20_3_eq (t : Tmps) : dcode E20 80 (c2 (c1 (c2 (c2 B20)))) t (kJ (fun t => f20_2) K20) = f20_3 (t 0) (t 3) := (f20_l4_eq _)
noncomputable def f20_1 (x0 : AV) : M AV :=
 f20_3 x0 (.int .i64 0)
theorem f20_1_eq (t : Tmps) : dcode E20 80 (c2 (c2 B20)) t K20 = f20_1 (t 0) := (seq_eq (a := (c1 (c2 (c2 B20)))) (b := (c2 (c2 (c2 B20)))) (fun t => f20_2_eq t) (seq_eq (a := (c1 (c1 (c2 (c2 B20))))) (b := (c2 (c1 (c2 (c2 B20))))) (fun t => f20_3_eq t) (by kernel_rfl)))
noncomputable def f20_0 (x0 : AV) : M AV :=
 bd (lnS x0) fun v1 =>
 bd (bi .gtr v1 (.int .i64 1000)) fun v2 =>
 cnd v2 (
 ret (.bool false)) (
 f20_1 x0)
theorem f20_0_eq (t : Tmps) : dcode E20 80 (c2 B20) t K20 = f20_0 (t 0) := (seq_eq (a := (c1 (c2 B20))) (b := (c2 (c2 B20))) (fun t => f20_1_eq t) (by kernel_rfl))
noncomputable def f20 (x0 : AV) : M AV :=
 f20_0 x0
theorem f20_top (t : Tmps) : dcode E20 80 B20 t K20 = f20 (t 0) := (seq_eq (a := (c1 B20)) (b := (c2 B20)) (fun t => f20_0_eq t) (by kernel_rfl))
theorem f20_eq (x0 : AV) : dfn E20 Go.Proofs.Tryd.f20 [x0] = f20 x0 := dfn_eq (c := B20) (nt := 80) (K := K20) (by kernel_rfl) (by kernel_rfl) rfl (by kernel_rfl) (f20_top (argT [x0]))
theorem O20 : EnvOK E20 := ⟨fun g xs => (ok_if (S48 xs) ok_fail), ap_fail⟩
theorem S20 (xs : List AV) : CallOK Go.Proofs.Tryd.prog 3 20 xs (L1 f20 xs) := ok_L1 (fun x0 => ok_fn (E := E20) (fn := Go.Proofs.Tryd.f20) O20 rfl rfl (by kernel_rfl) (by kernel_rfl) (f20_eq x0)) xs

/-! ### etui/etuiref16.until: function 27 -/
noncomputable def C27 (g : FuncId) (xs : List AV) : M AV := fail
noncomputable def E27 : Env := ⟨Go.Proofs.Tryd.prog, 3, C27, fun _ _ => fail, fun i => bif Nat.beq i 7 then [0, 1, 2, 3, 4, 5, 6] else [], 27, none⟩
noncomputable def B27 : Code := bodyOf Go.Proofs.Tryd.f27
noncomputable def K27 : KT := dK Go.Proofs.Tryd.prog Go.Proofs.Tryd.f27.results.toList
noncomputable def f27_1 (x0 : AV) : M AV :=
 bd (lnS x0) fun v1 =>
 ret v1
theorem f27_1_eq (t : Tmps) : dcode E27 29 (c2 (c2 B27)) t K27 = f27_1 (t 0) := by kernel_rfl
noncomputable def f27_5 (L3 : AV → AV → AV → M AV) (x0 x1 x5 : AV) : M AV :=
 bd (bi .add x5 (.int .i64 1)) fun v1 =>
 L3 x0 x1 v1
theorem f27_5_eq (L3 : AV → AV → AV → M AV) (t : Tmps) : dcode E27 29 (c2 (c2 (c1 (c1 (c2 (c1 (c2 B27))))))) t (kJ (fun t => L3 (t 0) (t 1) (t 5)) (kB 0 (kJ (fun t => f27_1 (t 0)) K27))) = f27_5 L3 (t 0) (t 1) (t 5) := by kernel_rfl
noncomputable def f27_b7 (L3 : AV → AV → AV → M AV) (L7 : AV → AV → AV → AV → M AV) (x0 x1 x5 x6 : AV) : M AV :=
 bd (lnS x1) fun v1 =>
 bd (bi .lss x6 v1) fun v2 =>
 cnd v2 (
 bd (ret x0) fun v3 =>
 bd (ret x5) fun v4 =>
 bd (ixs v3 v4) fun v5 =>
 bd (ret x1) fun v6 =>
 bd (ret x6) fun v7 =>
 bd (ixs v6 v7) fun v8 =>
 bd (bi .eql v5 v8) fun v9 =>
 cnd v9 (
 ret x5) (
 bd (bi .add x6 (.int .i64 1)) fun v10 =>
 L7 x0 x1 x5 v10)) (
 f27_5 L3 x0 x1 x5)
theorem f27_b7_eq (L3 : AV → AV → AV → M AV) (L7 : AV → AV → AV → AV → M AV) (t : Tmps) : dcode E27 29 (c1 (c1 (c2 (c1 (c1 (c2 (c1 (c1 (c2 (c1 (c2 B27))))))))))) t (kJ (fun t => L7 (t 0) (t 1) (t 5) (t 6)) (kB 2 (kB 1 (kJ (fun t => f27_5 L3 (t 0) (t 1) (t 5)) (kJ (fun t => L3 (t 0) (t 1) (t 5)) (kB 0 (kJ (fun t => f27_1 (t 0)) K27))))))) = f27_b7 L3 L7 (t 0) (t 1) (t 5) (t 6) := by kernel_rfl
noncomputable def f27_l7 (L3 : AV → AV → AV → M AV) : Nat → AV → AV → AV → AV → M AV
  | 0, _, _, _, _ => fail
  | n + 1, x0, x1, x5, x6 => f27_b7 L3 (f27_l7 L3 n) x0 x1 x5 x6
theorem f27_l7_eq (L3 : AV → AV → AV → M AV) (t : Tmps) : dcode E27 29 (c1 (c2 (c1 (c1 (c2 (c1 (c1 (c2 (c1 (c2 B27)))))))))) t (kB 2 (kB 1 (kJ (fun t => f27_5 L3 (t 0) (t 1) (t 5)) (kJ (fun t => L3 (t 0) (t 1) (t 5)) (kB 0 (kJ (fun t => f27_1 (t 0)) K27)))))) = f27_l7 L3 fuel (t 0) (t 1) (t 5) (t 6) :=
  dloop_eq (c := (c1 (c1 (c2 (c1 (c1 (c2 (c1 (c1 (c2 (c1 (c2 B27)))))))))))) (g := fun n t => f27_l7 L3 n (t 0) (t 1) (t 5) (t 6)) (fun _ => rfl) (fun n t => f27_b7_eq L3 (f27_l7 L3 n) t)
noncomputable def f27_6 (L3 : AV → AV → AV → M AV) (x0 x1 x5 x6 : AV) : M AV :=
 f27_l7 L3 fuel x0 x1 x5 x6
theorem f27_6_eq (L3 : AV → AV → AV → M AV) (t : Tmps) : dcode E27 29 (c2 (c1 (c1 (c2 (c1 (c1 (c2 (c1 (c2 B27))))))))) t (kB 1 (kJ (fun t => f27_5 L3 (t 0) (t 1) (t 5)) (kJ (fun t => L3 (t 0) (t 1) (t 5)) (kB 0 (kJ (fun t => f27_1 (t 0)) K27))))) = f27_6 L3 (t 0) (t 1) (t 5) (t 6) := (f27_l7_eq L3 _)
noncomputable def f27_4 (L3 : AV → AV → AV → M AV) (x0 x1 x5 : AV) : M AV :=
 f27_6 L3 x0 x1 x5 (.int .i64 0)
theorem f27_4_eq (L3 : AV → AV → AV → M AV) (t : Tmps) : dcode E27 29 (c2 (c1 (c1 (c2 (c1 (c2 B27)))))) t (kJ (fun t => L3 (t 0) (t 1) (t 5)) (kB 0 (kJ (fun t => f27_1 (t 0)) K27))) = f27_4 L3 (t 0) (t 1) (t 5) := (seq_eq (a := (c1 (c2 (c1 (c1 (c2 (c1 (c2 B27)))))))) (b := (c2 (c2 (c1 (c1 (c2 (c1 (c2 B27)))))))) (fun t => f27_5_eq L3 t) (seq_eq (a := (c1 (c1 (c1 (c2 (c1 (c1 (c2 (c1 (c2 B27)))))))))) (b := (c2 (c1 (c1 (c2 (c1 (c1 (c2 (c1 (c2 B27)))))))))) (fun t => f27_6_eq L3 t) (by kernel_rfl)))
noncomputable def f27_b3 (L3 : AV → AV → AV → M AV) (x0 x1 x5 : AV) : M AV :=
 bd (lnS x0) fun v1 =>
 bd (bi .lss x5 v1) fun v2 =>
 cnd v2 (
 f27_4 L3 x0 x1 x5) (
 f27_1 x0)
theorem f27_b3_eq (L3 : AV → AV → AV → M AV) (t : Tmps) : dcode E27 29 (c1 (c1 (c2 (c1 (c2 B27))))) t (kJ (fun t => L3 (t 0) (t 1) (t 5)) (kB 0 (kJ (fun t => f27_1 (t 0)) K27))) = f27_b3 L3 (t 0) (t 1) (t 5) := (seq_eq (a := (c1 (c1 (c1 (c2 (c1 (c2 B27))))))) (b := (c2 (c1 (c1 (c2 (c1 (c2 B27))))))) (fun t => f27_4_eq L3 t) (by kernel_rfl))
noncomputable def f27_l3 : Nat → AV → AV → AV → M AV
  | 0, _, _, _ => fail
  | n + 1, x0, x1, x5 => f27_b3 (f27_l3 n) x0 x1 x5
theorem f27_l3_eq (t : Tmps) : dcode E27 29 (c1 (c2 (c1 (c2 B27)))) t (kB 0 (kJ (fun t => f27_1 (t 0)) K27)) = f27_l3 fuel (t 0) (t 1) (t 5) :=
  dloop_eq (c := (c1 (c1 (c2 (c1 (c2 B27)))))) (g := fun n t => f27_l3 n (t 0) (t 1) (t 5)) (fun _ => rfl) (fun n t => f27_b3_eq (f27_l3 n) t)
noncomputable def f27_2 (x0 x1 x5 : AV) : M AV :=
 f27_l3 fuel x0 x1 x5
theorem f27_2_eq (t : Tmps) : dcode E27 29 (c2 (c1 (c2 B27))) t (kJ (fun t => f27_1 (t 0)) K27) = f27_2 (t 0) (t 1) (t 5) := (f27_l3_eq _)
noncomputable def f27_0 (x0 x1 : AV) : M AV :=
 f27_2 x0 x1 (.int .i64 0)
theorem f27_0_eq (t : Tmps) : dcode E27 29 (c2 B27) t K27 = f27_0 (t 0) (t 1) := (seq_eq (a := (c1 (c2 B27))) (b := (c2 (c2 B27))) (fun t => f27_1_eq t) (seq_eq (a := (c1 (c1 (c2 B27)))) (b := (c2 (c1 (c2 B27)))) (fun t => f27_2_eq t) (by kernel_rfl)))
noncomputable def f27 (x0 x1 : AV) : M AV :=
 f27_0 x0 x1
theorem f27_top (t : Tmps) : dcode E27 29 B27 t K27 = f27 (t 0) (t 1) := (seq_eq (a := (c1 B27)) (b := (c2 B27)) (fun t => f27_0_eq t) (by kernel_rfl))
theorem f27_eq (x0 x1 : AV) : dfn E27 Go.Proofs.Tryd.f27 [x0, x1] = f27 x0 x1 := dfn_eq (c := B27) (nt := 29) (K := K27) (by kernel_rfl) (by kernel_rfl) rfl (by kernel_rfl) (f27_top (argT [x0, x1]))
theorem O27 : EnvOK E27 := ⟨fun g xs => ok_fail, ap_fail⟩
theorem S27 (xs : List AV) : CallOK Go.Proofs.Tryd.prog 3 27 xs (L2 f27 xs) := ok_L2 (fun x0 x1 => ok_fn (E := E27) (fn := Go.Proofs.Tryd.f27) O27 rfl rfl (by kernel_rfl) (by kernel_rfl) (f27_eq x0 x1)) xs

/-! ### etui/etuiref16.scheme: function 28 -/
noncomputable def C28 (g : FuncId) (xs : List AV) : M AV := fail
noncomputable def E28 : Env := ⟨Go.Proofs.Tryd.prog, 3, C28, fun _ _ => fail, fun _ => [], 28, none⟩
noncomputable def B28 : Code := bodyOf Go.Proofs.Tryd.f28
noncomputable def K28 : KT := dK Go.Proofs.Tryd.prog Go.Proofs.Tryd.f28.results.toList
noncomputable def f28_1 (x0 : AV) : M AV :=
 bd (bi .neq x0 (.str [])) fun v1 =>
 ret v1
theorem f28_1_eq (t : Tmps) : dcode E28 58 (c2 (c2 B28)) t K28 = f28_1 (t 0) := by kernel_rfl
noncomputable def f28_b3 (L3 : AV → AV → M AV) (x0 x3 : AV) : M AV :=
 bd (lnS x0) fun v1 =>
 bd (bi .lss x3 v1) fun v2 =>
 cnd v2 (
 bd (ixs x0 x3) fun v3 =>
 bd (bi .geq v3 (.int .u8 97)) fun v4 =>
 bd (gd v4 true (ret v3)) fun v5 =>
 bd (gd v4 true (bi .leq v5 (.int .u8 122))) fun v6 =>
 bd (pk v4 v6 (.bool false)) fun v7 =>
 bd (gd v7 false (ret v3)) fun v8 =>
 bd (gd v7 false (bi .geq v8 (.int .u8 65))) fun v9 =>
 bd (gd v7 false (ret v9)) fun v10 =>
 bd (gd v10 true (ret v3)) fun v11 =>
 bd (gd v10 true (bi .leq v11 (.int .u8 90))) fun v12 =>
 bd (gd v7 false (pk v10 v12 (.bool false))) fun v13 =>
 bd (pk v7 (.bool true) v13) fun v14 =>
 bd (un .not v14) fun v15 =>
 bd (gd v15 true (ret x3)) fun v16 =>
 bd (gd v15 true (bi .eql v16 (.int .i64 0))) fun v17 =>
 bd (gd v15 true (ret v17)) fun v18 =>
 bd (gd v18 false (ret v3)) fun v19 =>
 bd (gd v18 false (bi .geq v19 (.int .u8 48))) fun v20 =>
 bd (gd v18 false (ret v20)) fun v21 =>
 bd (gd v21 true (ret v3)) fun v22 =>
 bd (gd v21 true (bi .leq v22 (.int .u8 57))) fun v23 =>
 bd (gd v18 false (pk v21 v23 (.bool false))) fun v24 =>
 bd (gd v18 false (ret v24)) fun v25 =>
 bd (gd v25 false (ret v3)) fun v26 =>
 bd (gd v25 false (bi .eql v26 (.int .u8 43))) fun v27 =>
 bd (gd v18 false (pk v25 (.bool true) v27)) fun v28 =>
 bd (gd v18 false (ret v28)) fun v29 =>
 bd (gd v29 false (ret v3)) fun v30 =>
 bd (gd v29 false (bi .eql v30 (.int .u8 45))) fun v31 =>
 bd (gd v18 false (pk v29 (.bool true) v31)) fun v32 =>
 bd (gd v18 false (ret v32)) fun v33 =>
 bd (gd v33 false (ret v3)) fun v34 =>
 bd (gd v33 false (bi .eql v34 (.int .u8 46))) fun v35 =>
 bd (gd v18 false (pk v33 (.bool true) v35)) fun v36 =>
 bd (gd v18 false (un .not v36)) fun v37 =>
 bd (gd v15 true (pk v18 (.bool true) v37)) fun v38 =>
 bd (pk v15 v38 (.bool false)) fun v39 =>
 cnd v39 (
 ret (.bool false)) (
 bd (bi .add x3 (.int .i64 1)) fun v40 =>
 L3 x0 v40)) (
 f28_1 x0)
theorem f28_b3_eq (L3 : AV → AV → M AV) (t : Tmps) : dcode E28 58 (c1 (c1 (c2 (c1 (c2 B28))))) t (kJ (fun t => L3 (t 0) (t 3)) (kB 0 (kJ (fun t => f28_1 (t 0)) K28))) = f28_b3 L3 (t 0) (t 3) := by kernel_rfl
noncomputable def f28_l3 : Nat → AV → AV → M AV
  | 0, _, _ => fail
  | n + 1, x0, x3 => f28_b3 (f28_l3 n) x0 x3
theorem f28_l3_eq (t : Tmps) : dcode E28 58 (c1 (c2 (c1 (c2 B28)))) t (kB 0 (kJ (fun t => f28_1 (t 0)) K28)) = f28_l3 fuel (t 0) (t 3) :=
  dloop_eq (c := (c1 (c1 (c2 (c1 (c2 B28)))))) (g := fun n t => f28_l3 n (t 0) (t 3)) (fun _ => rfl) (fun n t => f28_b3_eq (f28_l3 n) t)
noncomputable def f28_2 (x0 x3 : AV) : M AV :=
 f28_l3 fuel x0 x3
theorem f28_2_eq (t : Tmps) : dcode E28 58 (c2 (c1 (c2 B28))) t (kJ (fun t => f28_1 (t 0)) K28) = f28_2 (t 0) (t 3) := (f28_l3_eq _)
noncomputable def f28_0 (x0 : AV) : M AV :=
 f28_2 x0 (.int .i64 0)
theorem f28_0_eq (t : Tmps) : dcode E28 58 (c2 B28) t K28 = f28_0 (t 0) := (seq_eq (a := (c1 (c2 B28))) (b := (c2 (c2 B28))) (fun t => f28_1_eq t) (seq_eq (a := (c1 (c1 (c2 B28)))) (b := (c2 (c1 (c2 B28)))) (fun t => f28_2_eq t) (by kernel_rfl)))
noncomputable def f28 (x0 : AV) : M AV :=
 f28_0 x0
theorem f28_top (t : Tmps) : dcode E28 58 B28 t K28 = f28 (t 0) := (seq_eq (a := (c1 B28)) (b := (c2 B28)) (fun t => f28_0_eq t) (by kernel_rfl))
theorem f28_eq (x0 : AV) : dfn E28 Go.Proofs.Tryd.f28 [x0] = f28 x0 := dfn_eq (c := B28) (nt := 58) (K := K28) (by kernel_rfl) (by kernel_rfl) rfl (by kernel_rfl) (f28_top (argT [x0]))
theorem O28 : EnvOK E28 := ⟨fun g xs => ok_fail, ap_fail⟩
theorem S28 (xs : List AV) : CallOK Go.Proofs.Tryd.prog 3 28 xs (L1 f28 xs) := ok_L1 (fun x0 => ok_fn (E := E28) (fn := Go.Proofs.Tryd.f28) O28 rfl rfl (by kernel_rfl) (by kernel_rfl) (f28_eq x0)) xs

/-! ### etui/etuiref16.Cut: function 10 -/
noncomputable def C10 (g : FuncId) (xs : List AV) : M AV := bif Nat.beq g 20 then L1 f20 xs else bif Nat.beq g 27 then L2 f27 xs else bif Nat.beq g 28 then L1 f28 xs else fail
noncomputable def E10 : Env := ⟨Go.Proofs.Tryd.prog, 3, C10, fun _ _ => fail, fun _ => [], 10, none⟩
noncomputable def B10 : Code := bodyOf Go.Proofs.Tryd.f10
noncomputable def K10 : KT := dK Go.Proofs.Tryd.prog Go.Proofs.Tryd.f10.results.toList
noncomputable def f10_10 (x2 x4 : AV) : M AV :=
 bd (lda 9 x4) fun v1 =>
 bd (sta 9 x2 v1) fun _ =>
 bd (lda 9 x2) fun v2 => ret (.tuple [v2, (.bool true)])
theorem f10_10_eq (t : Tmps) : dcode E10 96 (c2 (c2 (c2 (c2 (c2 (c2 (c2 (c2 (c2 (c2 (c2 B10))))))))))) t K10 = f10_10 (t 2) (t 4) := by kernel_rfl
noncomputable def f10_9 (x0 x2 x4 : AV) : M AV :=
 bd (bi .neq x0 (.str [])) fun v1 =>
 cnd v1 (
 bd (fa x4 8) fun v2 =>
 bd (st v2 (.bool true)) fun _ =>
 bd (ss x0 (some (.int .i64 1)) none) fun v3 =>
 bd (fa x4 4) fun v4 =>
 bd (st v4 v3) fun _ =>
 f10_10 x2 x4) (
 f10_10 x2 x4)
theorem f10_9_eq (t : Tmps) : dcode E10 96 (c2 (c2 (c2 (c2 (c2 (c2 (c2 (c2 (c2 (c2 B10)))))))))) t K10 = f10_9 (t 0) (t 2) (t 4) := (seq_eq (a := (c1 (c2 (c2 (c2 (c2 (c2 (c2 (c2 (c2 (c2 (c2 B10)))))))))))) (b := (c2 (c2 (c2 (c2 (c2 (c2 (c2 (c2 (c2 (c2 (c2 B10)))))))))))) (fun t => f10_10_eq t) (by kernel_rfl))
noncomputable def f10_8 (x0 x2 x4 : AV) : M AV :=
 bd (bi .neq x0 (.str [])) fun v1 =>
 bd (gd v1 true (ret x0)) fun v2 =>
 bd (gd v1 true (ixs v2 (.int .i64 0))) fun v3 =>
 bd (gd v1 true (bi .eql v3 (.int .u8 63))) fun v4 =>
 bd (pk v1 v4 (.bool false)) fun v5 =>
 cnd v5 (
 bd (f27 x0 (.str [35])) fun v6 =>
 bd (fa x4 7) fun v7 =>
 bd (st v7 (.bool true)) fun _ =>
 bd (ss x0 (some (.int .i64 1)) (some v6)) fun v8 =>
 bd (fa x4 3) fun v9 =>
 bd (st v9 v8) fun _ =>
 bd (ss x0 (some v6) none) fun v10 =>
 f10_9 v10 x2 x4) (
 f10_9 x0 x2 x4)
theorem f10_8_eq (t : Tmps) : dcode E10 96 (c2 (c2 (c2 (c2 (c2 (c2 (c2 (c2 (c2 B10))))))))) t K10 = f10_8 (t 0) (t 2) (t 4) := (seq_eq (a := (c1 (c2 (c2 (c2 (c2 (c2 (c2 (c2 (c2 (c2 B10))))))))))) (b := (c2 (c2 (c2 (c2 (c2 (c2 (c2 (c2 (c2 (c2 B10))))))))))) (fun t => f10_9_eq t) (by kernel_rfl))
noncomputable def f10_7 (x0 x2 x4 x5 : AV) : M AV :=
 bd (ss x0 (some x5) none) fun v1 =>
 f10_8 v1 x2 x4
theorem f10_7_eq (t : Tmps) : dcode E10 96 (c2 (c2 (c2 (c2 (c2 (c2 (c2 (c2 B10)))))))) t K10 = f10_7 (t 0) (t 2) (t 4) (t 5) := (seq_eq (a := (c1 (c2 (c2 (c2 (c2 (c2 (c2 (c2 (c2 B10)))))))))) (b := (c2 (c2 (c2 (c2 (c2 (c2 (c2 (c2 (c2 B10)))))))))) (fun t => f10_8_eq t) (by kernel_rfl))
noncomputable def f10_6 (x0 x2 x4 x5 : AV) : M AV :=
 bd (ss x0 none (some x5)) fun v1 =>
 bd (fa x4 2) fun v2 =>
 bd (st v2 v1) fun _ =>
 f10_7 x0 x2 x4 x5
theorem f10_6_eq (t : Tmps) : dcode E10 96 (c2 (c2 (c2 (c2 (c2 (c2 (c2 B10))))))) t K10 = f10_6 (t 0) (t 2) (t 4) (t 5) := (seq_eq (a := (c1 (c2 (c2 (c2 (c2 (c2 (c2 (c2 B10))))))))) (b := (c2 (c2 (c2 (c2 (c2 (c2 (c2 (c2 B10))))))))) (fun t => f10_7_eq t) (by kernel_rfl))
noncomputable def f10_5 (x0 x2 x4 : AV) : M AV :=
 bd (f27 x0 (.str [63, 35])) fun v1 =>
 f10_6 x0 x2 x4 v1
theorem f10_5_eq (t : Tmps) : dcode E10 96 (c2 (c2 (c2 (c2 (c2 (c2 B10)))))) t K10 = f10_5 (t 0) (t 2) (t 4) := (seq_eq (a := (c1 (c2 (c2 (c2 (c2 (c2 (c2 B10)))))))) (b := (c2 (c2 (c2 (c2 (c2 (c2 (c2 B10)))))))) (fun t => f10_6_eq t) (by kernel_rfl))
noncomputable def f10_4 (x0 x2 x4 : AV) : M AV :=
 bd (lnS x0) fun v1 =>
 bd (bi .gtr v1 (.int .i64 1)) fun v2 =>
 bd (gd v2 true (ret x0)) fun v3 =>
 bd (gd v2 true (ixs v3 (.int .i64 0))) fun v4 =>
 bd (gd v2 true (bi .eql v4 (.int .u8 47))) fun v5 =>
 bd (pk v2 v5 (.bool false)) fun v6 =>
 bd (gd v6 true (ret x0)) fun v7 =>
 bd (gd v6 true (ixs v7 (.int .i64 1))) fun v8 =>
 bd (gd v6 true (bi .eql v8 (.int .u8 47))) fun v9 =>
 bd (pk v6 v9 (.bool false)) fun v10 =>
 cnd v10 (
 bd (ss x0 (some (.int .i64 2)) none) fun v11 =>
 bd (f27 v11 (.str [47, 63, 35])) fun v12 =>
 bd (fa x4 6) fun v13 =>
 bd (st v13 (.bool true)) fun _ =>
 bd (ss v11 none (some v12)) fun v14 =>
 bd (fa x4 1) fun v15 =>
 bd (st v15 v14) fun _ =>
 bd (ss v11 (some v12) none) fun v16 =>
 f10_5 v16 x2 x4) (
 f10_5 x0 x2 x4)
theorem f10_4_eq (t : Tmps) : dcode E10 96 (c2 (c2 (c2 (c2 (c2 B10))))) t K10 = f10_4 (t 0) (t 2) (t 4) := (seq_eq (a := (c1 (c2 (c2 (c2 (c2 (c2 B10))))))) (b := (c2 (c2 (c2 (c2 (c2 (c2 B10))))))) (fun t => f10_5_eq t) (by kernel_rfl))
noncomputable def f10_3 (x0 x2 x4 x5 : AV) : M AV :=
 bd (lnS x0) fun v1 =>
 bd (bi .lss x5 v1) fun v2 =>
 bd (gd v2 true (ret x0)) fun v3 =>
 bd (gd v2 true (ret x5)) fun v4 =>
 bd (gd v2 true (ixs v3 v4)) fun v5 =>
 bd (gd v2 true (bi .eql v5 (.int .u8 58))) fun v6 =>
 bd (pk v2 v6 (.bool false)) fun v7 =>
 bd (gd v7 true (ret x0)) fun v8 =>
 bd (gd v7 true (ret x5)) fun v9 =>
 bd (gd v7 true (ss v8 none (some v9))) fun v10 =>
 bd (gd v7 true (f28 v10)) fun v11 =>
 bd (pk v7 v11 (.bool false)) fun v12 =>
 cnd v12 (
 bd (fa x4 5) fun v13 =>
 bd (st v13 (.bool true)) fun _ =>
 bd (ss x0 none (some x5)) fun v14 =>
 bd (fa x4 0) fun v15 =>
 bd (st v15 v14) fun _ =>
 bd (bi .add x5 (.int .i64 1)) fun v16 =>
 bd (ss x0 (some v16) none) fun v17 =>
 f10_4 v17 x2 x4) (
 f10_4 x0 x2 x4)
theorem f10_3_eq (t : Tmps) : dcode E10 96 (c2 (c2 (c2 (c2 B10)))) t K10 = f10_3 (t 0) (t 2) (t 4) (t 5) := (seq_eq (a := (c1 (c2 (c2 (c2 (c2 B10)))))) (b := (c2 (c2 (c2 (c2 (c2 B10)))))) (fun t => f10_4_eq t) (by kernel_rfl))
noncomputable def f10_2 (x0 x2 x4 : AV) : M AV :=
 bd (f27 x0 (.str [58, 47, 63, 35])) fun v1 =>
 f10_3 x0 x2 x4 v1
theorem f10_2_eq (t : Tmps) : dcode E10 96 (c2 (c2 (c2 B10))) t K10 = f10_2 (t 0) (t 2) (t 4) := (seq_eq (a := (c1 (c2 (c2 (c2 B10))))) (b := (c2 (c2 (c2 (c2 B10))))) (fun t => f10_3_eq t) (by kernel_rfl))
noncomputable def f10_1 (x0 x2 x4 : AV) : M AV :=
 bd (f20 x0) fun v1 =>
 bd (un .not v1) fun v2 =>
 cnd v2 (
 bd (lda 9 x4) fun v3 =>
 bd (sta 9 x2 v3) fun _ =>
 bd (lda 9 x2) fun v4 => ret (.tuple [v4, (.bool false)])) (
 f10_2 x0 x2 x4)
theorem f10_1_eq (t : Tmps) : dcode E10 96 (c2 (c2 B10)) t K10 = f10_1 (t 0) (t 2) (t 4) := (seq_eq (a := (c1 (c2 (c2 B10)))) (b := (c2 (c2 (c2 B10)))) (fun t => f10_2_eq t) (by kernel_rfl))
noncomputable def f10_0 (x0 x2 : AV) : M AV :=
 bd (bu [(.str []), (.str []), (.str []), (.str []), (.str []), (.bool false), (.bool false), (.bool false), (.bool false)] []) fun v1 =>
 bd (bx 27 (.agg [(.str []), (.str []), (.str []), (.str []), (.str []), (.bool false), (.bool false), (.bool false), (.bool false)])) fun v2 =>
 bd (sta 9 v2 v1) fun _ =>
 f10_1 x0 x2 v2
theorem f10_0_eq (t : Tmps) : dcode E10 96 (c2 B10) t K10 = f10_0 (t 0) (t 2) := (seq_eq (a := (c1 (c2 B10))) (b := (c2 (c2 B10))) (fun t => f10_1_eq t) (by kernel_rfl))
noncomputable def f10 (x0 : AV) : M AV :=
 bd (bx 27 (.agg [(.str []), (.str []), (.str []), (.str []), (.str []), (.bool false), (.bool false), (.bool false), (.bool false)])) fun v1 =>
 f10_0 x0 v1
theorem f10_top (t : Tmps) : dcode E10 96 B10 t K10 = f10 (t 0) := (seq_eq (a := (c1 B10)) (b := (c2 B10)) (fun t => f10_0_eq t) (by kernel_rfl))
theorem f10_eq (x0 : AV) : dfn E10 Go.Proofs.Tryd.f10 [x0] = f10 x0 := dfn_eq (c := B10) (nt := 96) (K := K10) (by kernel_rfl) (by kernel_rfl) rfl (by kernel_rfl) (f10_top (argT [x0]))
theorem O10 : EnvOK E10 := ⟨fun g xs => (ok_if (S20 xs) (ok_if (S27 xs) (ok_if (S28 xs) ok_fail))), ap_fail⟩
theorem S10 (xs : List AV) : CallOK Go.Proofs.Tryd.prog 3 10 xs (L1 f10 xs) := ok_L1 (fun x0 => ok_fn (E := E10) (fn := Go.Proofs.Tryd.f10) O10 rfl rfl (by kernel_rfl) (by kernel_rfl) (f10_eq x0)) xs

/-! ### etui/etuilaw16.of: function 11 -/
noncomputable def C11 (g : FuncId) (xs : List AV) : M AV := fail
noncomputable def E11 : Env := ⟨Go.Proofs.Tryd.prog, 3, C11, fun _ _ => fail, fun _ => [], 11, none⟩
noncomputable def B11 : Code := bodyOf Go.Proofs.Tryd.f11
noncomputable def K11 : KT := dK Go.Proofs.Tryd.prog Go.Proofs.Tryd.f11.results.toList
noncomputable def f11 (x0 : AV) : M AV :=
 bd (bx 23 x0) fun v1 =>
 bd (bx 27 (.agg [(.str []), (.str []), (.str []), (.str []), (.str []), (.bool false), (.bool false), (.bool false), (.bool false)])) fun v2 =>
 bd (fa v1 0) fun v3 =>
 bd (ld v3) fun v4 =>
 bd (fa v1 1) fun v5 =>
 bd (ld v5) fun v6 =>
 bd (fa v1 2) fun v7 =>
 bd (ld v7) fun v8 =>
 bd (fa v1 3) fun v9 =>
 bd (ld v9) fun v10 =>
 bd (fa v1 4) fun v11 =>
 bd (ld v11) fun v12 =>
 bd (fa v1 5) fun v13 =>
 bd (ld v13) fun v14 =>
 bd (fa v1 6) fun v15 =>
 bd (ld v15) fun v16 =>
 bd (fa v1 7) fun v17 =>
 bd (ld v17) fun v18 =>
 bd (fa v1 8) fun v19 =>
 bd (ld v19) fun v20 =>
 bd (bu [(.str []), (.str []), (.str []), (.str []), (.str []), (.bool false), (.bool false), (.bool false), (.bool false)] [(0, 1, v4), (1, 1, v6), (2, 1, v8), (3, 1, v10), (4, 1, v12), (5, 1, v14), (6, 1, v16), (7, 1, v18), (8, 1, v20)]) fun v21 =>
 bd (sta 9 v2 v21) fun _ =>
 bd (lda 9 v2) fun v22 => ret v22
theorem f11_eq (x0 : AV) : dfn E11 Go.Proofs.Tryd.f11 [x0] = f11 x0 := dfn_eq (c := B11) (nt := 22) (K := K11) (by kernel_rfl) (by kernel_rfl) rfl (by kernel_rfl) (by kernel_rfl)
theorem O11 : EnvOK E11 := ⟨fun g xs => ok_fail, ap_fail⟩
theorem S11 (xs : List AV) : CallOK Go.Proofs.Tryd.prog 3 11 xs (L1 f11 xs) := ok_L1 (fun x0 => ok_fn (E := E11) (fn := Go.Proofs.Tryd.f11) O11 rfl rfl (by kernel_rfl) (by kernel_rfl) (f11_eq x0)) xs

/-! ### etui/etuiref16.Join: function 13 -/
noncomputable def C13 (g : FuncId) (xs : List AV) : M AV := fail
noncomputable def E13 : Env := ⟨Go.Proofs.Tryd.prog, 3, C13, fun _ _ => fail, fun _ => [], 13, none⟩
noncomputable def B13 : Code := bodyOf Go.Proofs.Tryd.f13
noncomputable def K13 : KT := dK Go.Proofs.Tryd.prog Go.Proofs.Tryd.f13.results.toList
noncomputable def f13_6 (x3 : AV) : M AV :=
 ret x3
theorem f13_6_eq (t : Tmps) : dcode E13 37 (c2 (c2 (c2 (c2 (c2 (c2 (c2 B13))))))) t K13 = f13_6 (t 3) := by kernel_rfl
noncomputable def f13_5 (x1 x3 : AV) : M AV :=
 bd (fa x1 8) fun v1 =>
 bd (ld v1) fun v2 =>
 cnd v2 (
 bd (fa x1 4) fun v3 =>
 bd (ld v3) fun v4 =>
 bd (bi .add (.str [35]) v4) fun v5 =>
 bd (bi .add x3 v5) fun v6 =>
 f13_6 v6) (
 f13_6 x3)
theorem f13_5_eq (t : Tmps) : dcode E13 37 (c2 (c2 (c2 (c2 (c2 (c2 B13)))))) t K13 = f13_5 (t 1) (t 3) := (seq_eq (a := (c1 (c2 (c2 (c2 (c2 (c2 (c2 B13)))))))) (b := (c2 (c2 (c2 (c2 (c2 (c2 (c2 B13)))))))) (fun t => f13_6_eq t) (by kernel_rfl))
noncomputable def f13_4 (x1 x3 : AV) : M AV :=
 bd (fa x1 7) fun v1 =>
 bd (ld v1) fun v2 =>
 cnd v2 (
 bd (fa x1 3) fun v3 =>
 bd (ld v3) fun v4 =>
 bd (bi .add (.str [63]) v4) fun v5 =>
 bd (bi .add x3 v5) fun v6 =>
 f13_5 x1 v6) (
 f13_5 x1 x3)
theorem f13_4_eq (t : Tmps) : dcode E13 37 (c2 (c2 (c2 (c2 (c2 B13))))) t K13 = f13_4 (t 1) (t 3) := (seq_eq (a := (c1 (c2 (c2 (c2 (c2 (c2 B13))))))) (b := (c2 (c2 (c2 (c2 (c2 (c2 B13))))))) (fun t => f13_5_eq t) (by kernel_rfl))
noncomputable def f13_3 (x1 x3 : AV) : M AV :=
 bd (fa x1 2) fun v1 =>
 bd (ld v1) fun v2 =>
 bd (bi .add x3 v2) fun v3 =>
 f13_4 x1 v3
theorem f13_3_eq (t : Tmps) : dcode E13 37 (c2 (c2 (c2 (c2 B13)))) t K13 = f13_3 (t 1) (t 3) := (seq_eq (a := (c1 (c2 (c2 (c2 (c2 B13)))))) (b := (c2 (c2 (c2 (c2 (c2 B13)))))) (fun t => f13_4_eq t) (by kernel_rfl))
noncomputable def f13_2 (x1 x3 : AV) : M AV :=
 bd (fa x1 6) fun v1 =>
 bd (ld v1) fun v2 =>
 cnd v2 (
 bd (fa x1 1) fun v3 =>
 bd (ld v3) fun v4 =>
 bd (bi .add (.str [47, 47]) v4) fun v5 =>
 bd (bi .add x3 v5) fun v6 =>
 f13_3 x1 v6) (
 f13_3 x1 x3)
theorem f13_2_eq (t : Tmps) : dcode E13 37 (c2 (c2 (c2 B13))) t K13 = f13_2 (t 1) (t 3) := (seq_eq (a := (c1 (c2 (c2 (c2 B13))))) (b := (c2 (c2 (c2 (c2 B13))))) (fun t => f13_3_eq t) (by kernel_rfl))
noncomputable def f13_1 (x1 x3 : AV) : M AV :=
 bd (fa x1 5) fun v1 =>
 bd (ld v1) fun v2 =>
 cnd v2 (
 bd (fa x1 0) fun v3 =>
 bd (ld v3) fun v4 =>
 bd (bi .add v4 (.str [58])) fun v5 =>
 bd (bi .add x3 v5) fun v6 =>
 f13_2 x1 v6) (
 f13_2 x1 x3)
theorem f13_1_eq (t : Tmps) : dcode E13 37 (c2 (c2 B13)) t K13 = f13_1 (t 1) (t 3) := (seq_eq (a := (c1 (c2 (c2 B13)))) (b := (c2 (c2 (c2 B13)))) (fun t => f13_2_eq t) (by kernel_rfl))
noncomputable def f13_0 (x1 : AV) : M AV :=
 f13_1 x1 (.str [])
theorem f13_0_eq (t : Tmps) : dcode E13 37 (c2 B13) t K13 = f13_0 (t 1) := (seq_eq (a := (c1 (c2 B13))) (b := (c2 (c2 B13))) (fun t => f13_1_eq t) (by kernel_rfl))
noncomputable def f13 (x0 : AV) : M AV :=
 bd (bx 27 x0) fun v1 =>
 f13_0 v1
theorem f13_top (t : Tmps) : dcode E13 37 B13 t K13 = f13 (t 0) := (seq_eq (a := (c1 B13)) (b := (c2 B13)) (fun t => f13_0_eq t) (by kernel_rfl))
theorem f13_eq (x0 : AV) : dfn E13 Go.Proofs.Tryd.f13 [x0] = f13 x0 := dfn_eq (c := B13) (nt := 37) (K := K13) (by kernel_rfl) (by kernel_rfl) rfl (by kernel_rfl) (f13_top (argT [x0]))
theorem O13 : EnvOK E13 := ⟨fun g xs => ok_fail, ap_fail⟩
theorem S13 (xs : List AV) : CallOK Go.Proofs.Tryd.prog 3 13 xs (L1 f13 xs) := ok_L1 (fun x0 => ok_fn (E := E13) (fn := Go.Proofs.Tryd.f13) O13 rfl rfl (by kernel_rfl) (by kernel_rfl) (f13_eq x0)) xs

/-! ### etui/etuilaw16.IriCuts: function 3 -/
noncomputable def C3 (ap : FuncId → List AV → M AV) (g : FuncId) (xs : List AV) : M AV := bif Nat.beq g 8 then L0 (f8 ap) xs else bif Nat.beq g 9 then L1 (f9 ap) xs else bif Nat.beq g 10 then L1 f10 xs else bif Nat.beq g 11 then L1 f11 xs else bif Nat.beq g 12 then L1 (f12 ap) xs else bif Nat.beq g 13 then L1 f13 xs else fail
noncomputable def E3 (ap : FuncId → List AV → M AV) : Env := ⟨Go.Proofs.Tryd.prog, 3, C3 ap, ap, fun i => bif Nat.beq i 7 then [0, 1, 2, 3, 4, 6, 5, 7, 8, 9, 10, 12, 11, 13, 14, 15, 16] else [], 3, none⟩
noncomputable def B3 : Code := bodyOf Go.Proofs.Tryd.f3
noncomputable def K3 : KT := dK Go.Proofs.Tryd.prog Go.Proofs.Tryd.f3.results.toList
noncomputable def f3 (ap : FuncId → List AV → M AV) (x0 x1 : AV) : M AV :=
 bd (bx 23 x1) fun v1 =>
 bd (f8 ap) fun v2 =>
 bd (un .not v2) fun v3 =>
 cnd v3 (
 ret (.bool false)) (
 bd (lnS x0) fun v4 =>
 bd (bi .gtr v4 (.int .i64 2000)) fun v5 =>
 bd (gd v5 false (fa v1 0)) fun v6 =>
 bd (gd v5 false (ld v6)) fun v7 =>
 bd (gd v5 false (lnS v7)) fun v8 =>
 bd (gd v5 false (bi .gtr v8 (.int .i64 500))) fun v9 =>
 bd (pk v5 (.bool true) v9) fun v10 =>
 bd (gd v10 false (fa v1 1)) fun v11 =>
 bd (gd v10 false (ld v11)) fun v12 =>
 bd (gd v10 false (lnS v12)) fun v13 =>
 bd (gd v10 false (bi .gtr v13 (.int .i64 500))) fun v14 =>
 bd (pk v10 (.bool true) v14) fun v15 =>
 bd (gd v15 false (fa v1 2)) fun v16 =>
 bd (gd v15 false (ld v16)) fun v17 =>
 bd (gd v15 false (lnS v17)) fun v18 =>
 bd (gd v15 false (bi .gtr v18 (.int .i64 500))) fun v19 =>
 bd (pk v15 (.bool true) v19) fun v20 =>
 bd (gd v20 false (fa v1 3)) fun v21 =>
 bd (gd v20 false (ld v21)) fun v22 =>
 bd (gd v20 false (lnS v22)) fun v23 =>
 bd (gd v20 false (bi .gtr v23 (.int .i64 500))) fun v24 =>
 bd (pk v20 (.bool true) v24) fun v25 =>
 bd (gd v25 false (fa v1 4)) fun v26 =>
 bd (gd v25 false (ld v26)) fun v27 =>
 bd (gd v25 false (lnS v27)) fun v28 =>
 bd (gd v25 false (bi .gtr v28 (.int .i64 500))) fun v29 =>
 bd (pk v25 (.bool true) v29) fun v30 =>
 cnd v30 (
 ret (.bool true)) (
 bd (f9 ap x0) fun v31 =>
 bd (ex v31 0) fun v32 =>
 bd (ex v31 1) fun v33 =>
 bd (bx 23 (.agg [(.str []), (.str []), (.str []), (.str []), (.str []), (.bool false), (.bool false), (.bool false), (.bool false)])) fun v34 =>
 bd (sta 9 v34 v32) fun _ =>
 bd (f10 x0) fun v35 =>
 bd (ex v35 0) fun v36 =>
 bd (ex v35 1) fun v37 =>
 bd (bx 27 (.agg [(.str []), (.str []), (.str []), (.str []), (.str []), (.bool false), (.bool false), (.bool false), (.bool false)])) fun v38 =>
 bd (sta 9 v38 v36) fun _ =>
 bd (ret v33) fun v39 =>
 bd (ret v37) fun v40 =>
 bd (be .b .neq v39 v40) fun v41 =>
 bd (ret v41) fun v42 =>
 bd (gd v42 false (lda 9 v34)) fun v43 =>
 bd (gd v42 false (lda 9 v38)) fun v44 =>
 bd (gd v42 false (f11 v43)) fun v45 =>
 rck (gd v42 false (lda 9 v38)) v44 (
 bd (gd v42 false (bis [.s, .s, .s, .s, .s, .b, .b, .b, .b] .neq v45 v44)) fun v46 =>
 bd (pk v42 (.bool true) v46) fun v47 =>
 bd (ret v47) fun v48 =>
 bd (gd v48 false (lda 9 v1)) fun v49 =>
 bd (gd v48 false (lda 9 v1)) fun v50 =>
 bd (gd v48 false (f12 ap v49)) fun v51 =>
 rck (gd v48 false (lda 9 v1)) v50 (
 bd (gd v48 false (f11 v50)) fun v52 =>
 bd (gd v48 false (f13 v52)) fun v53 =>
 bd (gd v48 false (bi .neq v51 v53)) fun v54 =>
 bd (pk v48 (.bool true) v54) fun v55 =>
 cnd v55 (
 ret (.bool false)) (
 bd (un .not v33) fun v56 =>
 bd (gd v56 false (lda 9 v34)) fun v57 =>
 bd (gd v56 false (f12 ap v57)) fun v58 =>
 bd (gd v56 false (ret x0)) fun v59 =>
 bd (gd v56 false (bi .eql v58 v59)) fun v60 =>
 bd (pk v56 (.bool true) v60) fun v61 =>
 ret v61)))))
theorem f3_eq (ap : FuncId → List AV → M AV) (x0 x1 : AV) : dfn (E3 ap) Go.Proofs.Tryd.f3 [x0, x1] = f3 ap x0 x1 := dfn_eq (c := B3) (nt := 79) (K := K3) (by kernel_rfl) (by kernel_rfl) rfl (by kernel_rfl) (by kernel_rfl)
theorem O3 (ap : FuncId → List AV → M AV) (hap : ApOK Go.Proofs.Tryd.prog 3 ap) : EnvOK (E3 ap) := ⟨fun g xs => (ok_if (S8 ap hap xs) (ok_if (S9 ap hap xs) (ok_if (S10 xs) (ok_if (S11 xs) (ok_if (S12 ap hap xs) (ok_if (S13 xs) ok_fail)))))), hap⟩
theorem S3 (ap : FuncId → List AV → M AV) (hap : ApOK Go.Proofs.Tryd.prog 3 ap) (xs : List AV) : CallOK Go.Proofs.Tryd.prog 3 3 xs (L2 (f3 ap) xs) := ok_L2 (fun x0 x1 => ok_fn (E := (E3 ap)) (fn := Go.Proofs.Tryd.f3) (O3 ap hap) rfl rfl (by kernel_rfl) (by kernel_rfl) (f3_eq ap x0 x1)) xs

/-! ### etui/etuiref15.digit: function 59 -/
noncomputable def C59 (g : FuncId) (xs : List AV) : M AV := fail
noncomputable def E59 : Env := ⟨Go.Proofs.Tryd.prog, 3, C59, fun _ _ => fail, fun _ => [], 59, none⟩
noncomputable def B59 : Code := bodyOf Go.Proofs.Tryd.f59
noncomputable def K59 : KT := dK Go.Proofs.Tryd.prog Go.Proofs.Tryd.f59.results.toList
noncomputable def f59 (x0 : AV) : M AV :=
 bd (bi .geq x0 (.int .i64 48)) fun v1 =>
 bd (gd v1 true (ret x0)) fun v2 =>
 bd (gd v1 true (bi .leq v2 (.int .i64 57))) fun v3 =>
 bd (pk v1 v3 (.bool false)) fun v4 =>
 cnd v4 (
 bd (bi .sub x0 (.int .i64 48)) fun v5 =>
 ret v5) (
 bd (bi .geq x0 (.int .i64 97)) fun v6 =>
 bd (gd v6 true (ret x0)) fun v7 =>
 bd (gd v6 true (bi .leq v7 (.int .i64 102))) fun v8 =>
 bd (pk v6 v8 (.bool false)) fun v9 =>
 cnd v9 (
 bd (bi .sub x0 (.int .i64 97)) fun v10 =>
 bd (bi .add v10 (.int .i64 10)) fun v11 =>
 ret v11) (
 bd (bi .geq x0 (.int .i64 65)) fun v12 =>
 bd (gd v12 true (ret x0)) fun v13 =>
 bd (gd v12 true (bi .leq v13 (.int .i64 70))) fun v14 =>
 bd (pk v12 v14 (.bool false)) fun v15 =>
 cnd v15 (
 bd (bi .sub x0 (.int .i64 65)) fun v16 =>
 bd (bi .add v16 (.int .i64 10)) fun v17 =>
 ret v17) (
 ret (.int .i64 (-1)))))
theorem f59_eq (x0 : AV) : dfn E59 Go.Proofs.Tryd.f59 [x0] = f59 x0 := dfn_eq (c := B59) (nt := 32) (K := K59) (by kernel_rfl) (by kernel_rfl) rfl (by kernel_rfl) (by kernel_rfl)
theorem O59 : EnvOK E59 := ⟨fun g xs => ok_fail, ap_fail⟩
theorem S59 (xs : List AV) : CallOK Go.Proofs.Tryd.prog 3 59 xs (L1 f59 xs) := ok_L1 (fun x0 => ok_fn (E := E59) (fn := Go.Proofs.Tryd.f59) O59 rfl rfl (by kernel_rfl) (by kernel_rfl) (f59_eq x0)) xs

/-! ### etui/etuiref15.told: function 32 -/
noncomputable def C32 (g : FuncId) (xs : List AV) : M AV := bif Nat.beq g 59 then L1 f59 xs else fail
noncomputable def E32 : Env := ⟨Go.Proofs.Tryd.prog, 3, C32, fun _ _ => fail, fun _ => [], 32, none⟩
noncomputable def B32 : Code := bodyOf Go.Proofs.Tryd.f32
noncomputable def K32 : KT := dK Go.Proofs.Tryd.prog Go.Proofs.Tryd.f32.results.toList
noncomputable def f32 (x0 x1 : AV) : M AV :=
 bd (bi .add x1 (.int .i64 2)) fun v1 =>
 bd (lnS x0) fun v2 =>
 bd (bi .geq v1 v2) fun v3 =>
 bd (gd v3 false (ret x0)) fun v4 =>
 bd (gd v3 false (ret x1)) fun v5 =>
 bd (gd v3 false (ixs v4 v5)) fun v6 =>
 bd (gd v3 false (bi .neq v6 (.int .u8 37))) fun v7 =>
 bd (pk v3 (.bool true) v7) fun v8 =>
 cnd v8 (
 ret (.int .i64 (-1))) (
 bd (bi .add x1 (.int .i64 1)) fun v9 =>
 bd (ixs x0 v9) fun v10 =>
 bd (ci .i64 v10) fun v11 =>
 bd (f59 v11) fun v12 =>
 bd (bi .add x1 (.int .i64 2)) fun v13 =>
 bd (ixs x0 v13) fun v14 =>
 bd (ci .i64 v14) fun v15 =>
 bd (f59 v15) fun v16 =>
 bd (bi .lss v12 (.int .i64 0)) fun v17 =>
 bd (gd v17 false (ret v16)) fun v18 =>
 bd (gd v17 false (bi .lss v18 (.int .i64 0))) fun v19 =>
 bd (pk v17 (.bool true) v19) fun v20 =>
 cnd v20 (
 ret (.int .i64 (-1))) (
 bd (bi .mul (.int .i64 16) v12) fun v21 =>
 bd (bi .add v21 v16) fun v22 =>
 ret v22))
theorem f32_eq (x0 x1 : AV) : dfn E32 Go.Proofs.Tryd.f32 [x0, x1] = f32 x0 x1 := dfn_eq (c := B32) (nt := 40) (K := K32) (by kernel_rfl) (by kernel_rfl) rfl (by kernel_rfl) (by kernel_rfl)
theorem O32 : EnvOK E32 := ⟨fun g xs => (ok_if (S59 xs) ok_fail), ap_fail⟩
theorem S32 (xs : List AV) : CallOK Go.Proofs.Tryd.prog 3 32 xs (L2 f32 xs) := ok_L2 (fun x0 x1 => ok_fn (E := E32) (fn := Go.Proofs.Tryd.f32) O32 rfl rfl (by kernel_rfl) (by kernel_rfl) (f32_eq x0 x1)) xs

/-! ### etui/etuiref15.plain: function 33 -/
noncomputable def C33 (g : FuncId) (xs : List AV) : M AV := fail
noncomputable def E33 : Env := ⟨Go.Proofs.Tryd.prog, 3, C33, fun _ _ => fail, fun _ => [], 33, none⟩
noncomputable def B33 : Code := bodyOf Go.Proofs.Tryd.f33
noncomputable def K33 : KT := dK Go.Proofs.Tryd.prog Go.Proofs.Tryd.f33.results.toList
noncomputable def f33 (x0 : AV) : M AV :=
 bd (bi .geq x0 (.int .i64 65)) fun v1 =>
 bd (gd v1 true (ret x0)) fun v2 =>
 bd (gd v1 true (bi .leq v2 (.int .i64 90))) fun v3 =>
 bd (pk v1 v3 (.bool false)) fun v4 =>
 bd (gd v4 false (ret x0)) fun v5 =>
 bd (gd v4 false (bi .geq v5 (.int .i64 97))) fun v6 =>
 bd (gd v4 false (ret v6)) fun v7 =>
 bd (gd v7 true (ret x0)) fun v8 =>
 bd (gd v7 true (bi .leq v8 (.int .i64 122))) fun v9 =>
 bd (gd v4 false (pk v7 v9 (.bool false))) fun v10 =>
 bd (pk v4 (.bool true) v10) fun v11 =>
 bd (gd v11 false (ret x0)) fun v12 =>
 bd (gd v11 false (bi .geq v12 (.int .i64 48))) fun v13 =>
 bd (gd v11 false (ret v13)) fun v14 =>
 bd (gd v14 true (ret x0)) fun v15 =>
 bd (gd v14 true (bi .leq v15 (.int .i64 57))) fun v16 =>
 bd (gd v11 false (pk v14 v16 (.bool false))) fun v17 =>
 bd (pk v11 (.bool true) v17) fun v18 =>
 bd (gd v18 false (ret x0)) fun v19 =>
 bd (gd v18 false (bi .eql v19 (.int .i64 45))) fun v20 =>
 bd (pk v18 (.bool true) v20) fun v21 =>
 bd (gd v21 false (ret x0)) fun v22 =>
 bd (gd v21 false (bi .eql v22 (.int .i64 46))) fun v23 =>
 bd (pk v21 (.bool true) v23) fun v24 =>
 bd (gd v24 false (ret x0)) fun v25 =>
 bd (gd v24 false (bi .eql v25 (.int .i64 95))) fun v26 =>
 bd (pk v24 (.bool true) v26) fun v27 =>
 bd (gd v27 false (ret x0)) fun v28 =>
 bd (gd v27 false (bi .eql v28 (.int .i64 126))) fun v29 =>
 bd (pk v27 (.bool true) v29) fun v30 =>
 ret v30
theorem f33_eq (x0 : AV) : dfn E33 Go.Proofs.Tryd.f33 [x0] = f33 x0 := dfn_eq (c := B33) (nt := 41) (K := K33) (by kernel_rfl) (by kernel_rfl) rfl (by kernel_rfl) (by kernel_rfl)
theorem O33 : EnvOK E33 := ⟨fun g xs => ok_fail, ap_fail⟩
theorem S33 (xs : List AV) : CallOK Go.Proofs.Tryd.prog 3 33 xs (L1 f33 xs) := ok_L1 (fun x0 => ok_fn (E := E33) (fn := Go.Proofs.Tryd.f33) O33 rfl rfl (by kernel_rfl) (by kernel_rfl) (f33_eq x0)) xs

/-! ### etui/etuiref15.sign: function 34 -/
noncomputable def C34 (g : FuncId) (xs : List AV) : M AV := bif Nat.beq g 33 then L1 f33 xs else fail
noncomputable def E34 : Env := ⟨Go.Proofs.Tryd.prog, 3, C34, fun _ _ => fail, fun _ => [], 34, none⟩
noncomputable def B34 : Code := bodyOf Go.Proofs.Tryd.f34
noncomputable def K34 : KT := dK Go.Proofs.Tryd.prog Go.Proofs.Tryd.f34.results.toList
noncomputable def f34_3 : M AV :=
 ret (.bool false)
theorem f34_3_eq (t : Tmps) : dcode E34 19 (c2 (c2 (c2 (c2 B34)))) t K34 = f34_3 := by kernel_rfl
noncomputable def f34_b5 (L5 : AV → AV → AV → M AV) (x0 x3 x4 : AV) : M AV :=
 bd (lnS x3) fun v1 =>
 bd (bi .lss x4 v1) fun v2 =>
 cnd v2 (
 bd (ixs x3 x4) fun v3 =>
 bd (ci .i64 v3) fun v4 =>
 bd (bi .eql v4 x0) fun v5 =>
 cnd v5 (
 ret (.bool true)) (
 bd (bi .add x4 (.int .i64 1)) fun v6 =>
 L5 x0 x3 v6)) (
 f34_3)
theorem f34_b5_eq (L5 : AV → AV → AV → M AV) (t : Tmps) : dcode E34 19 (c1 (c1 (c2 (c1 (c2 (c2 (c2 B34))))))) t (kJ (fun t => L5 (t 0) (t 3) (t 4)) (kB 0 (kJ (fun t => f34_3) K34))) = f34_b5 L5 (t 0) (t 3) (t 4) := by kernel_rfl
noncomputable def f34_l5 : Nat → AV → AV → AV → M AV
  | 0, _, _, _ => fail
  | n + 1, x0, x3, x4 => f34_b5 (f34_l5 n) x0 x3 x4
theorem f34_l5_eq (t : Tmps) : dcode E34 19 (c1 (c2 (c1 (c2 (c2 (c2 B34)))))) t (kB 0 (kJ (fun t => f34_3) K34)) = f34_l5 fuel (t 0) (t 3) (t 4) :=
  dloop_eq (c := (c1 (c1 (c2 (c1 (c2 (c2 (c2 B34)))))))) (g := fun n t => f34_l5 n (t 0) (t 3) (t 4)) (fun _ => rfl) (fun n t => f34_b5_eq (f34_l5 n) t)
noncomputable def f34_4 (x0 x3 x4 : AV) : M AV :=
 f34_l5 fuel x0 x3 x4
theorem f34_4_eq (t : Tmps) : dcode E34 19 (c2 (c1 (c2 (c2 (c2 B34))))) t (kJ (fun t => f34_3) K34) = f34_4 (t 0) (t 3) (t 4) := (f34_l5_eq _)
noncomputable def f34_2 (x0 x3 : AV) : M AV :=
 f34_4 x0 x3 (.int .i64 0)
theorem f34_2_eq (t : Tmps) : dcode E34 19 (c2 (c2 (c2 B34))) t K34 = f34_2 (t 0) (t 3) := (seq_eq (a := (c1 (c2 (c2 (c2 B34))))) (b := (c2 (c2 (c2 (c2 B34))))) (fun t => f34_3_eq t) (seq_eq (a := (c1 (c1 (c2 (c2 (c2 B34)))))) (b := (c2 (c1 (c2 (c2 (c2 B34)))))) (fun t => f34_4_eq t) (by kernel_rfl)))
noncomputable def f34_1 (x0 : AV) : M AV :=
 f34_2 x0 (.str [33, 36, 38, 39, 40, 41, 42, 43, 44, 59, 61, 58, 64])
theorem f34_1_eq (t : Tmps) : dcode E34 19 (c2 (c2 B34)) t K34 = f34_1 (t 0) := (seq_eq (a := (c1 (c2 (c2 B34)))) (b := (c2 (c2 (c2 B34)))) (fun t => f34_2_eq t) (by kernel_rfl))
noncomputable def f34_0 (x0 : AV) : M AV :=
 bd (f33 x0) fun v1 =>
 cnd v1 (
 ret (.bool true)) (
 f34_1 x0)
theorem f34_0_eq (t : Tmps) : dcode E34 19 (c2 B34) t K34 = f34_0 (t 0) := (seq_eq (a := (c1 (c2 B34))) (b := (c2 (c2 B34))) (fun t => f34_1_eq t) (by kernel_rfl))
noncomputable def f34 (x0 : AV) : M AV :=
 f34_0 x0
theorem f34_top (t : Tmps) : dcode E34 19 B34 t K34 = f34 (t 0) := (seq_eq (a := (c1 B34)) (b := (c2 B34)) (fun t => f34_0_eq t) (by kernel_rfl))
theorem f34_eq (x0 : AV) : dfn E34 Go.Proofs.Tryd.f34 [x0] = f34 x0 := dfn_eq (c := B34) (nt := 19) (K := K34) (by kernel_rfl) (by kernel_rfl) rfl (by kernel_rfl) (f34_top (argT [x0]))
theorem O34 : EnvOK E34 := ⟨fun g xs => (ok_if (S33 xs) ok_fail), ap_fail⟩
theorem S34 (xs : List AV) : CallOK Go.Proofs.Tryd.prog 3 34 xs (L1 f34 xs) := ok_L1 (fun x0 => ok_fn (E := E34) (fn := Go.Proofs.Tryd.f34) O34 rfl rfl (by kernel_rfl) (by kernel_rfl) (f34_eq x0)) xs

/-! ### etui/etuiref15.Right: function 14 -/
noncomputable def C14 (g : FuncId) (xs : List AV) : M AV := bif Nat.beq g 32 then L2 f32 xs else bif Nat.beq g 33 then L1 f33 xs else bif Nat.beq g 34 then L1 f34 xs else fail
noncomputable def E14 : Env := ⟨Go.Proofs.Tryd.prog, 3, C14, fun _ _ => fail, fun _ => [], 14, none⟩
noncomputable def B14 : Code := bodyOf Go.Proofs.Tryd.f14
noncomputable def K14 : KT := dK Go.Proofs.Tryd.prog Go.Proofs.Tryd.f14.results.toList
noncomputable def f14_2 (x0 : AV) : M AV :=
 bd (lnS x0) fun v1 =>
 bd (bi .sub v1 (.int .i64 1)) fun v2 =>
 bd (ixs x0 v2) fun v3 =>
 bd (bi .neq v3 (.int .u8 47)) fun v4 =>
 bd (gd v4 true (ret v3)) fun v5 =>
 bd (gd v4 true (bi .neq v5 (.int .u8 46))) fun v6 =>
 bd (pk v4 v6 (.bool false)) fun v7 =>
 ret v7
theorem f14_2_eq (t : Tmps) : dcode E14 81 (c2 (c2 (c2 B14))) t K14 = f14_2 (t 0) := by kernel_rfl
noncomputable def f14_b4 (L4 : AV → AV → M AV) (x0 x3 : AV) : M AV :=
 bd (lnS x0) fun v1 =>
 bd (bi .lss x3 v1) fun v2 =>
 cnd v2 (
 bd (ixs x0 x3) fun v3 =>
 bd (ci .i64 v3) fun v4 =>
 bd (bi .eql v4 (.int .i64 47)) fun v5 =>
 cnd v5 (
 bd (bi .sub x3 (.int .i64 1)) fun v6 =>
 bd (ixs x0 v6) fun v7 =>
 bd (bi .eql v7 (.int .u8 47)) fun v8 =>
 bd (gd v8 false (ret x0)) fun v9 =>
 bd (gd v8 false (ret x3)) fun v10 =>
 bd (gd v8 false (bi .sub v10 (.int .i64 1))) fun v11 =>
 bd (gd v8 false (ixs v9 v11)) fun v12 =>
 bd (gd v8 false (bi .eql v12 (.int .u8 46))) fun v13 =>
 bd (pk v8 (.bool true) v13) fun v14 =>
 cnd v14 (
 ret (.bool false)) (
 bd (bi .add x3 (.int .i64 1)) fun v15 =>
 L4 x0 v15)) (
 bd (f32 x0 x3) fun v16 =>
 bd (bi .geq v16 (.int .i64 0)) fun v17 =>
 cnd v17 (
 bd (f33 v16) fun v18 =>
 bd (gd v18 false (ret v16)) fun v19 =>
 bd (gd v18 false (bi .eql v19 (.int .i64 47))) fun v20 =>
 bd (pk v18 (.bool true) v20) fun v21 =>
 bd (gd v21 false (ret v16)) fun v22 =>
 bd (gd v21 false (bi .eql v22 (.int .i64 92))) fun v23 =>
 bd (pk v21 (.bool true) v23) fun v24 =>
 bd (gd v24 false (ret v16)) fun v25 =>
 bd (gd v24 false (bi .eql v25 (.int .i64 0))) fun v26 =>
 bd (pk v24 (.bool true) v26) fun v27 =>
 cnd v27 (
 ret (.bool false)) (
 bd (bi .add x3 (.int .i64 3)) fun v28 =>
 L4 x0 v28)) (
 bd (f34 v4) fun v29 =>
 bd (un .not v29) fun v30 =>
 cnd v30 (
 ret (.bool false)) (
 bd (bi .add x3 (.int .i64 1)) fun v31 =>
 L4 x0 v31)))) (
 f14_2 x0)
theorem f14_b4_eq (L4 : AV → AV → M AV) (t : Tmps) : dcode E14 81 (c1 (c1 (c2 (c1 (c2 (c2 B14)))))) t (kJ (fun t => L4 (t 0) (t 3)) (kB 0 (kJ (fun t => f14_2 (t 0)) K14))) = f14_b4 L4 (t 0) (t 3) := by kernel_rfl
noncomputable def f14_l4 : Nat → AV → AV → M AV
  | 0, _, _ => fail
  | n + 1, x0, x3 => f14_b4 (f14_l4 n) x0 x3
theorem f14_l4_eq (t : Tmps) : dcode E14 81 (c1 (c2 (c1 (c2 (c2 B14))))) t (kB 0 (kJ (fun t => f14_2 (t 0)) K14)) = f14_l4 fuel (t 0) (t 3) :=
  dloop_eq (c := (c1 (c1 (c2 (c1 (c2 (c2 B14))))))) (g := fun n t => f14_l4 n (t 0) (t 3)) (fun _ => rfl) (fun n t => f14_b4_eq (f14_l4 n) t)
noncomputable def f14_3 (x0 x3 : AV) : M AV :=
 f14_l4 fuel x0 x3
theorem f14_3_eq (t : Tmps) : dcode E14 81 (c2 (c1 (c2 (c2 B14)))) t (kJ (fun t => f14_2 (t 0)) K14) = f14_3 (t 0) (t 3) := (f14_l4_eq _)
noncomputable def f14_1 (x0 : AV) : M AV :=
 f14_3 x0 (.int .i64 1)
theorem f14_1_eq (t : Tmps) : dcode E14 81 (c2 (c2 B14)) t K14 = f14_1 (t 0) := (seq_eq (a := (c1 (c2 (c2 B14)))) (b := (c2 (c2 (c2 B14)))) (fun t => f14_2_eq t) (seq_eq (a := (c1 (c1 (c2 (c2 B14))))) (b := (c2 (c1 (c2 (c2 B14))))) (fun t => f14_3_eq t) (by kernel_rfl)))
noncomputable def f14_0 (x0 : AV) : M AV :=
 bd (lnS x0) fun v1 =>
 bd (bi .lss v1 (.int .i64 2)) fun v2 =>
 bd (gd v2 false (ret x0)) fun v3 =>
 bd (gd v2 false (lnS v3)) fun v4 =>
 bd (gd v2 false (bi .gtr v4 (.int .i64 255))) fun v5 =>
 bd (pk v2 (.bool true) v5) fun v6 =>
 bd (gd v6 false (ret x0)) fun v7 =>
 bd (gd v6 false (ixs v7 (.int .i64 0))) fun v8 =>
 bd (gd v6 false (bi .neq v8 (.int .u8 47))) fun v9 =>
 bd (pk v6 (.bool true) v9) fun v10 =>
 cnd v10 (
 ret (.bool false)) (
 f14_1 x0)
theorem f14_0_eq (t : Tmps) : dcode E14 81 (c2 B14) t K14 = f14_0 (t 0) := (seq_eq (a := (c1 (c2 B14))) (b := (c2 (c2 B14))) (fun t => f14_1_eq t) (by kernel_rfl))
noncomputable def f14 (x0 : AV) : M AV :=
 f14_0 x0
theorem f14_top (t : Tmps) : dcode E14 81 B14 t K14 = f14 (t 0) := (seq_eq (a := (c1 B14)) (b := (c2 B14)) (fun t => f14_0_eq t) (by kernel_rfl))
theorem f14_eq (x0 : AV) : dfn E14 Go.Proofs.Tryd.f14 [x0] = f14 x0 := dfn_eq (c := B14) (nt := 81) (K := K14) (by kernel_rfl) (by kernel_rfl) rfl (by kernel_rfl) (f14_top (argT [x0]))
theorem O14 : EnvOK E14 := ⟨fun g xs => (ok_if (S32 xs) (ok_if (S33 xs) (ok_if (S34 xs) ok_fail))), ap_fail⟩
theorem S14 (xs : List AV) : CallOK Go.Proofs.Tryd.prog 3 14 xs (L1 f14 xs) := ok_L1 (fun x0 => ok_fn (E := E14) (fn := Go.Proofs.Tryd.f14) O14 rfl rfl (by kernel_rfl) (by kernel_rfl) (f14_eq x0)) xs

/-! ### etui/etuilaw16.IriBack: function 4 -/
noncomputable def C4 (ap : FuncId → List AV → M AV) (g : FuncId) (xs : List AV) : M AV := bif Nat.beq g 8 then L0 (f8 ap) xs else bif Nat.beq g 9 then L1 (f9 ap) xs else bif Nat.beq g 14 then L1 f14 xs else bif Nat.beq g 15 then L2 (f15 ap) xs else bif Nat.beq g 16 then L2 (f16 ap) xs else bif Nat.beq g 17 then L1 (f17 ap) xs else fail
noncomputable def E4 (ap : FuncId → List AV → M AV) : Env := ⟨Go.Proofs.Tryd.prog, 3, C4 ap, ap, fun _ => [], 4, none⟩
noncomputable def B4 : Code := bodyOf Go.Proofs.Tryd.f4
noncomputable def K4 : KT := dK Go.Proofs.Tryd.prog Go.Proofs.Tryd.f4.results.toList
noncomputable def f4 (ap : FuncId → List AV → M AV) (x0 x1 : AV) : M AV :=
 bd (f8 ap) fun v1 =>
 bd (un .not v1) fun v2 =>
 cnd v2 (
 ret (.bool false)) (
 bd (bi .neq x0 (.str [47])) fun v3 =>
 bd (gd v3 true (ret x0)) fun v4 =>
 bd (gd v3 true (f14 v4)) fun v5 =>
 bd (gd v3 true (un .not v5)) fun v6 =>
 bd (pk v3 v6 (.bool false)) fun v7 =>
 bd (gd v7 false (ret x1)) fun v8 =>
 bd (gd v7 false (f14 v8)) fun v9 =>
 bd (gd v7 false (un .not v9)) fun v10 =>
 bd (pk v7 (.bool true) v10) fun v11 =>
 cnd v11 (
 bd (f15 ap x0 x1) fun v12 =>
 bd (bi .eql v12 (.str [])) fun v13 =>
 ret v13) (
 bd (f15 ap x0 x1) fun v14 =>
 bd (f9 ap v14) fun v15 =>
 bd (ex v15 0) fun v16 =>
 bd (ex v15 1) fun v17 =>
 bd (bx 23 (.agg [(.str []), (.str []), (.str []), (.str []), (.str []), (.bool false), (.bool false), (.bool false), (.bool false)])) fun v18 =>
 bd (sta 9 v18 v16) fun _ =>
 bd (f16 ap x0 v14) fun v19 =>
 bd (ex v19 0) fun v20 =>
 bd (ex v19 1) fun v21 =>
 bd (ex v19 2) fun v22 =>
 bd (f17 ap x1) fun v23 =>
 bd (ex v23 0) fun v24 =>
 bd (ex v23 1) fun v25 =>
 bd (f16 ap x0 x1) fun v26 =>
 bd (ex v26 0) fun v27 =>
 bd (ex v26 1) fun v28 =>
 bd (ex v26 2) fun v29 =>
 bd (gd v17 true (ret v25)) fun v30 =>
 bd (pk v17 v30 (.bool false)) fun v31 =>
 bd (gd v31 true (ret v22)) fun v32 =>
 bd (gd v31 true (bi .eql v32 (.int .i64 0))) fun v33 =>
 bd (pk v31 v33 (.bool false)) fun v34 =>
 bd (gd v34 true (ret v20)) fun v35 =>
 bd (gd v34 true (ret v24)) fun v36 =>
 bd (gd v34 true (bi .eql v35 v36)) fun v37 =>
 bd (pk v34 v37 (.bool false)) fun v38 =>
 bd (gd v38 true (ret v21)) fun v39 =>
 bd (gd v38 true (bi .eql v39 (.str []))) fun v40 =>
 bd (pk v38 v40 (.bool false)) fun v41 =>
 bd (gd v41 true (fa v18 5)) fun v42 =>
 bd (gd v41 true (ld v42)) fun v43 =>
 bd (gd v41 true (un .not v43)) fun v44 =>
 bd (pk v41 v44 (.bool false)) fun v45 =>
 bd (gd v45 true (fa v18 6)) fun v46 =>
 bd (gd v45 true (ld v46)) fun v47 =>
 bd (gd v45 true (un .not v47)) fun v48 =>
 bd (pk v45 v48 (.bool false)) fun v49 =>
 bd (gd v49 true (fa v18 7)) fun v50 =>
 bd (gd v49 true (ld v50)) fun v51 =>
 bd (gd v49 true (un .not v51)) fun v52 =>
 bd (pk v49 v52 (.bool false)) fun v53 =>
 bd (gd v53 true (fa v18 8)) fun v54 =>
 bd (gd v53 true (ld v54)) fun v55 =>
 bd (gd v53 true (un .not v55)) fun v56 =>
 bd (pk v53 v56 (.bool false)) fun v57 =>
 bd (gd v57 true (ret v14)) fun v58 =>
 bd (gd v57 true (bi .neq v58 (.str []))) fun v59 =>
 bd (pk v57 v59 (.bool false)) fun v60 =>
 bd (gd v60 true (ret v29)) fun v61 =>
 bd (gd v60 true (bi .eql v61 (.int .i64 0))) fun v62 =>
 bd (pk v60 v62 (.bool false)) fun v63 =>
 bd (gd v63 true (ret v27)) fun v64 =>
 bd (gd v63 true (ret v24)) fun v65 =>
 bd (gd v63 true (bi .eql v64 v65)) fun v66 =>
 bd (pk v63 v66 (.bool false)) fun v67 =>
 ret v67))
theorem f4_eq (ap : FuncId → List AV → M AV) (x0 x1 : AV) : dfn (E4 ap) Go.Proofs.Tryd.f4 [x0, x1] = f4 ap x0 x1 := dfn_eq (c := B4) (nt := 111) (K := K4) (by kernel_rfl) (by kernel_rfl) rfl (by kernel_rfl) (by kernel_rfl)
theorem O4 (ap : FuncId → List AV → M AV) (hap : ApOK Go.Proofs.Tryd.prog 3 ap) : EnvOK (E4 ap) := ⟨fun g xs => (ok_if (S8 ap hap xs) (ok_if (S9 ap hap xs) (ok_if (S14 xs) (ok_if (S15 ap hap xs) (ok_if (S16 ap hap xs) (ok_if (S17 ap hap xs) ok_fail)))))), hap⟩
theorem S4 (ap : FuncId → List AV → M AV) (hap : ApOK Go.Proofs.Tryd.prog 3 ap) (xs : List AV) : CallOK Go.Proofs.Tryd.prog 3 4 xs (L2 (f4 ap) xs) := ok_L2 (fun x0 x1 => ok_fn (E := (E4 ap)) (fn := Go.Proofs.Tryd.f4) (O4 ap hap) rfl rfl (by kernel_rfl) (by kernel_rfl) (f4_eq ap x0 x1)) xs

/-! ### etui/etuiref16.Parts: function 19 -/
noncomputable def C19 (g : FuncId) (xs : List AV) : M AV := fail
noncomputable def E19 : Env := ⟨Go.Proofs.Tryd.prog, 3, C19, fun _ _ => fail, fun i => bif Nat.beq i 7 then [0, 1, 2, 3, 4, 5, 6, 7, 8, 9, 10, 11, 12, 13] else [], 19, none⟩
noncomputable def B19 : Code := bodyOf Go.Proofs.Tryd.f19
noncomputable def K19 : KT := dK Go.Proofs.Tryd.prog Go.Proofs.Tryd.f19.results.toList
noncomputable def f19_2 (x3 : AV) : M AV :=
 ret x3
theorem f19_2_eq (t : Tmps) : dcode E19 33 (c2 (c2 (c2 B19))) t K19 = f19_2 (t 3) := by kernel_rfl
noncomputable def f19_6 (L4 : AV → AV → AV → M AV) (x0 x3 x4 : AV) : M AV :=
 bd (bi .add x4 (.int .i64 1)) fun v1 =>
 L4 x0 x3 v1
theorem f19_6_eq (L4 : AV → AV → AV → M AV) (t : Tmps) : dcode E19 33 (c2 (c2 (c1 (c1 (c2 (c1 (c2 (c2 B19)))))))) t (kJ (fun t => L4 (t 0) (t 3) (t 4)) (kB 0 (kJ (fun t => f19_2 (t 3)) K19))) = f19_6 L4 (t 0) (t 3) (t 4) := by kernel_rfl
noncomputable def f19_5 (L4 : AV → AV → AV → M AV) (x0 x3 x4 : AV) : M AV :=
 bd (ixs x0 x4) fun v1 =>
 bd (bi .eql v1 (.int .u8 47)) fun v2 =>
 cnd v2 (
 bd (bsl 9 1 1 [(.str [])] [(0, 1, (.str []))]) fun v3 =>
 bd (app 9 1 16 x3 v3) fun v4 =>
 f19_6 L4 x0 v4 x4) (
 bd (ret x3) fun v5 =>
 bd (ret x3) fun v6 =>
 bd (lnL v6) fun v7 =>
 bd (bi .sub v7 (.int .i64 1)) fun v8 =>
 bd (ixp 1 v5 v8) fun v9 =>
 bd (ld v9) fun v10 =>
 bd (ret x0) fun v11 =>
 bd (ret x4) fun v12 =>
 bd (ret x4) fun v13 =>
 bd (bi .add v13 (.int .i64 1)) fun v14 =>
 bd (ss v11 (some v12) (some v14)) fun v15 =>
 bd (bi .add v10 v15) fun v16 =>
 bd (ixp 1 v5 v8) fun v17 =>
 bd (st v17 v16) fun v18 =>
 f19_6 L4 x0 x3 x4)
theorem f19_5_eq (L4 : AV → AV → AV → M AV) (t : Tmps) : dcode E19 33 (c2 (c1 (c1 (c2 (c1 (c2 (c2 B19))))))) t (kJ (fun t => L4 (t 0) (t 3) (t 4)) (kB 0 (kJ (fun t => f19_2 (t 3)) K19))) = f19_5 L4 (t 0) (t 3) (t 4) := (seq_eq (a := (c1 (c2 (c1 (c1 (c2 (c1 (c2 (c2 B19))))))))) (b := (c2 (c2 (c1 (c1 (c2 (c1 (c2 (c2 B19))))))))) (fun t => f19_6_eq L4 t) (by kernel_rfl))
noncomputable def f19_b4 (L4 : AV → AV → AV → M AV) (x0 x3 x4 : AV) : M AV :=
 bd (lnS x0) fun v1 =>
 bd (bi .lss x4 v1) fun v2 =>
 cnd v2 (
 f19_5 L4 x0 x3 x4) (
 f19_2 x3)
theorem f19_b4_eq (L4 : AV → AV → AV → M AV) (t : Tmps) : dcode E19 33 (c1 (c1 (c2 (c1 (c2 (c2 B19)))))) t (kJ (fun t => L4 (t 0) (t 3) (t 4)) (kB 0 (kJ (fun t => f19_2 (t 3)) K19))) = f19_b4 L4 (t 0) (t 3) (t 4) := (seq_eq (a := (c1 (c1 (c1 (c2 (c1 (c2 (c2 B19)))))))) (b := (c2 (c1 (c1 (c2 (c1 (c2 (c2 B19)))))))) (fun t => f19_5_eq L4 t) (by kernel_rfl))
noncomputable def f19_l4 : Nat → AV → AV → AV → M AV
  | 0, _, _, _ => fail
  | n + 1, x0, x3, x4 => f19_b4 (f19_l4 n) x0 x3 x4
theorem f19_l4_eq (t : Tmps) : dcode E19 33 (c1 (c2 (c1 (c2 (c2 B19))))) t (kB 0 (kJ (fun t => f19_2 (t 3)) K19)) = f19_l4 fuel (t 0) (t 3) (t 4) :=
  dloop_eq (c := (c1 (c1 (c2 (c1 (c2 (c2 B19))))))) (g := fun n t => f19_l4 n (t 0) (t 3) (t 4)) (fun _ => rfl) (fun n t => f19_b4_eq (f19_l4 n) t)
noncomputable def f19_3 (x0 x3 x4 : AV) : M AV :=
 f19_l4 fuel x0 x3 x4
theorem f19_3_eq (t : Tmps) : dcode E19 33 (c2 (c1 (c2 (c2 B19)))) t (kJ (fun t => f19_2 (t 3)) K19) = f19_3 (t 0) (t 3) (t 4) := (f19_l4_eq _)
noncomputable def f19_1 (x0 x3 : AV) : M AV :=
 f19_3 x0 x3 (.int .i64 0)
theorem f19_1_eq (t : Tmps) : dcode E19 33 (c2 (c2 B19)) t K19 = f19_1 (t 0) (t 3) := (seq_eq (a := (c1 (c2 (c2 B19)))) (b := (c2 (c2 (c2 B19)))) (fun t => f19_2_eq t) (seq_eq (a := (c1 (c1 (c2 (c2 B19))))) (b := (c2 (c1 (c2 (c2 B19))))) (fun t => f19_3_eq t) (by kernel_rfl)))
noncomputable def f19_0 (x0 : AV) : M AV :=
 bd (bsl 9 1 1 [(.str [])] [(0, 1, (.str []))]) fun v1 =>
 f19_1 x0 v1
theorem f19_0_eq (t : Tmps) : dcode E19 33 (c2 B19) t K19 = f19_0 (t 0) := (seq_eq (a := (c1 (c2 B19))) (b := (c2 (c2 B19))) (fun t => f19_1_eq t) (by kernel_rfl))
noncomputable def f19 (x0 : AV) : M AV :=
 f19_0 x0
theorem f19_top (t : Tmps) : dcode E19 33 B19 t K19 = f19 (t 0) := (seq_eq (a := (c1 B19)) (b := (c2 B19)) (fun t => f19_0_eq t) (by kernel_rfl))
theorem f19_eq (x0 : AV) : dfn E19 Go.Proofs.Tryd.f19 [x0] = f19 x0 := dfn_eq (c := B19) (nt := 33) (K := K19) (by kernel_rfl) (by kernel_rfl) rfl (by kernel_rfl) (f19_top (argT [x0]))
theorem O19 : EnvOK E19 := ⟨fun g xs => ok_fail, ap_fail⟩
theorem S19 (xs : List AV) : CallOK Go.Proofs.Tryd.prog 3 19 xs (L1 f19 xs) := ok_L1 (fun x0 => ok_fn (E := E19) (fn := Go.Proofs.Tryd.f19) O19 rfl rfl (by kernel_rfl) (by kernel_rfl) (f19_eq x0)) xs

/-! ### etui/etuilaw16.IriDots: function 5 -/
noncomputable def C5 (ap : FuncId → List AV → M AV) (g : FuncId) (xs : List AV) : M AV := bif Nat.beq g 8 then L0 (f8 ap) xs else bif Nat.beq g 18 then L2 (f18 ap) xs else bif Nat.beq g 19 then L1 f19 xs else bif Nat.beq g 20 then L1 f20 xs else fail
noncomputable def E5 (ap : FuncId → List AV → M AV) : Env := ⟨Go.Proofs.Tryd.prog, 3, C5 ap, ap, fun _ => [], 5, none⟩
noncomputable def B5 : Code := bodyOf Go.Proofs.Tryd.f5
noncomputable def K5 : KT := dK Go.Proofs.Tryd.prog Go.Proofs.Tryd.f5.results.toList
noncomputable def f5_7 (ap : FuncId → List AV → M AV) (x5 : AV) : M AV :=
 bd (fa x5 2) fun v1 =>
 bd (ld v1) fun v2 =>
 bd (bi .eql v2 (.str [])) fun v3 =>
 bd (gd v3 false (fa x5 2)) fun v4 =>
 bd (gd v3 false (ld v4)) fun v5 =>
 bd (gd v3 false (ixs v5 (.int .i64 0))) fun v6 =>
 bd (gd v3 false (bi .neq v6 (.int .u8 47))) fun v7 =>
 bd (pk v3 (.bool true) v7) fun v8 =>
 bd (gd v8 false (fa x5 2)) fun v9 =>
 bd (gd v8 false (ld v9)) fun v10 =>
 bd (gd v8 false (lnS v10)) fun v11 =>
 bd (gd v8 false (bi .gtr v11 (.int .i64 1))) fun v12 =>
 bd (gd v8 false (ret v12)) fun v13 =>
 bd (gd v13 true (fa x5 2)) fun v14 =>
 bd (gd v13 true (ld v14)) fun v15 =>
 bd (gd v13 true (ixs v15 (.int .i64 1))) fun v16 =>
 bd (gd v13 true (bi .eql v16 (.int .u8 47))) fun v17 =>
 bd (gd v8 false (pk v13 v17 (.bool false))) fun v18 =>
 bd (pk v8 (.bool true) v18) fun v19 =>
 bd (gd v19 false (fa x5 2)) fun v20 =>
 bd (gd v19 false (ld v20)) fun v21 =>
 bd (gd v19 false (f20 v21)) fun v22 =>
 bd (gd v19 false (un .not v22)) fun v23 =>
 bd (pk v19 (.bool true) v23) fun v24 =>
 cnd v24 (
 bd (fa x5 2) fun v25 =>
 bd (ld v25) fun v26 =>
 bd (bi .neq v26 (.str [])) fun v27 =>
 bd (gd v27 true (fa x5 2)) fun v28 =>
 bd (gd v27 true (ld v28)) fun v29 =>
 bd (gd v27 true (ixs v29 (.int .i64 0))) fun v30 =>
 bd (gd v27 true (bi .eql v30 (.int .u8 47))) fun v31 =>
 bd (pk v27 v31 (.bool false)) fun v32 =>
 ret v32) (
 bd (fa x5 2) fun v33 =>
 bd (ld v33) fun v34 =>
 bd (f18 ap (.str [47]) v34) fun v35 =>
 bd (ex v35 0) fun v36 =>
 bd (ex v35 1) fun v37 =>
 bd (bx 23 (.agg [(.str []), (.str []), (.str []), (.str []), (.str []), (.bool false), (.bool false), (.bool false), (.bool false)])) fun v38 =>
 bd (sta 9 v38 v36) fun _ =>
 bd (bi .eql v37 (.int .i64 0)) fun v39 =>
 bd (gd v39 true (fa v38 2)) fun v40 =>
 bd (gd v39 true (ld v40)) fun v41 =>
 bd (gd v39 true (fa x5 2)) fun v42 =>
 bd (gd v39 true (ld v42)) fun v43 =>
 bd (gd v39 true (bi .eql v41 v43)) fun v44 =>
 bd (pk v39 v44 (.bool false)) fun v45 =>
 ret v45)
theorem f5_7_eq (ap : FuncId → List AV → M AV) (t : Tmps) : dcode (E5 ap) 124 (c2 (c2 (c2 (c2 (c2 (c2 (c2 (c2 B5)))))))) t K5 = f5_7 ap (t 5) := by kernel_rfl
noncomputable def f5_b9 (ap : FuncId → List AV → M AV) (L9 : AV → AV → AV → M AV) (x5 x8 x9 : AV) : M AV :=
 bd (lnL x8) fun v1 =>
 bd (bi .lss x9 v1) fun v2 =>
 cnd v2 (
 bd (ixp 1 x8 x9) fun v3 =>
 bd (ld v3) fun v4 =>
 bd (bi .eql v4 (.str [46])) fun v5 =>
 bd (gd v5 false (ret x8)) fun v6 =>
 bd (gd v5 false (ret x9)) fun v7 =>
 bd (gd v5 false (ixp 1 v6 v7)) fun v8 =>
 bd (gd v5 false (ld v8)) fun v9 =>
 bd (gd v5 false (bi .eql v9 (.str [46, 46]))) fun v10 =>
 bd (pk v5 (.bool true) v10) fun v11 =>
 cnd v11 (
 ret (.bool false)) (
 bd (bi .add x9 (.int .i64 1)) fun v12 =>
 L9 x5 x8 v12)) (
 f5_7 ap x5)
theorem f5_b9_eq (ap : FuncId → List AV → M AV) (L9 : AV → AV → AV → M AV) (t : Tmps) : dcode (E5 ap) 124 (c1 (c1 (c2 (c1 (c2 (c2 (c2 (c2 (c2 (c2 (c2 B5))))))))))) t (kJ (fun t => L9 (t 5) (t 8) (t 9)) (kB 2 (kJ (fun t => f5_7 ap (t 5)) K5))) = f5_b9 ap L9 (t 5) (t 8) (t 9) := by kernel_rfl
noncomputable def f5_l9 (ap : FuncId → List AV → M AV) : Nat → AV → AV → AV → M AV
  | 0, _, _, _ => fail
  | n + 1, x5, x8, x9 => f5_b9 ap (f5_l9 ap n) x5 x8 x9
theorem f5_l9_eq (ap : FuncId → List AV → M AV) (t : Tmps) : dcode (E5 ap) 124 (c1 (c2 (c1 (c2 (c2 (c2 (c2 (c2 (c2 (c2 B5)))))))))) t (kB 2 (kJ (fun t => f5_7 ap (t 5)) K5)) = f5_l9 ap fuel (t 5) (t 8) (t 9) :=
  dloop_eq (c := (c1 (c1 (c2 (c1 (c2 (c2 (c2 (c2 (c2 (c2 (c2 B5)))))))))))) (g := fun n t => f5_l9 ap n (t 5) (t 8) (t 9)) (fun _ => rfl) (fun n t => f5_b9_eq ap (f5_l9 ap n) t)
noncomputable def f5_8 (ap : FuncId → List AV → M AV) (x5 x8 x9 : AV) : M AV :=
 f5_l9 ap fuel x5 x8 x9
theorem f5_8_eq (ap : FuncId → List AV → M AV) (t : Tmps) : dcode (E5 ap) 124 (c2 (c1 (c2 (c2 (c2 (c2 (c2 (c2 (c2 B5))))))))) t (kJ (fun t => f5_7 ap (t 5)) K5) = f5_8 ap (t 5) (t 8) (t 9) := (f5_l9_eq ap _)
noncomputable def f5_6 (ap : FuncId → List AV → M AV) (x5 x8 : AV) : M AV :=
 f5_8 ap x5 x8 (.int .i64 0)
theorem f5_6_eq (ap : FuncId → List AV → M AV) (t : Tmps) : dcode (E5 ap) 124 (c2 (c2 (c2 (c2 (c2 (c2 (c2 B5))))))) t K5 = f5_6 ap (t 5) (t 8) := (seq_eq (a := (c1 (c2 (c2 (c2 (c2 (c2 (c2 (c2 B5))))))))) (b := (c2 (c2 (c2 (c2 (c2 (c2 (c2 (c2 B5))))))))) (fun t => f5_7_eq ap t) (seq_eq (a := (c1 (c1 (c2 (c2 (c2 (c2 (c2 (c2 (c2 B5)))))))))) (b := (c2 (c1 (c2 (c2 (c2 (c2 (c2 (c2 (c2 B5)))))))))) (fun t => f5_8_eq ap t) (by kernel_rfl)))
noncomputable def f5_5 (ap : FuncId → List AV → M AV) (x5 : AV) : M AV :=
 bd (fa x5 2) fun v1 =>
 bd (ld v1) fun v2 =>
 bd (f19 v2) fun v3 =>
 f5_6 ap x5 v3
theorem f5_5_eq (ap : FuncId → List AV → M AV) (t : Tmps) : dcode (E5 ap) 124 (c2 (c2 (c2 (c2 (c2 (c2 B5)))))) t K5 = f5_5 ap (t 5) := (seq_eq (a := (c1 (c2 (c2 (c2 (c2 (c2 (c2 B5)))))))) (b := (c2 (c2 (c2 (c2 (c2 (c2 (c2 B5)))))))) (fun t => f5_6_eq ap t) (by kernel_rfl))
noncomputable def f5_b11 (ap : FuncId → List AV → M AV) (L11 : AV → AV → M AV) (x5 x7 : AV) : M AV :=
 bd (fa x5 2) fun v1 =>
 bd (ld v1) fun v2 =>
 bd (lnS v2) fun v3 =>
 bd (bi .lss x7 v3) fun v4 =>
 cnd v4 (
 bd (fa x5 2) fun v5 =>
 bd (ld v5) fun v6 =>
 bd (ixs v6 x7) fun v7 =>
 bd (bi .eql v7 (.int .u8 63)) fun v8 =>
 bd (gd v8 false (fa x5 2)) fun v9 =>
 bd (gd v8 false (ld v9)) fun v10 =>
 bd (gd v8 false (ret x7)) fun v11 =>
 bd (gd v8 false (ixs v10 v11)) fun v12 =>
 bd (gd v8 false (bi .eql v12 (.int .u8 35))) fun v13 =>
 bd (pk v8 (.bool true) v13) fun v14 =>
 cnd v14 (
 ret (.bool true)) (
 bd (bi .add x7 (.int .i64 1)) fun v15 =>
 L11 x5 v15)) (
 f5_5 ap x5)
theorem f5_b11_eq (ap : FuncId → List AV → M AV) (L11 : AV → AV → M AV) (t : Tmps) : dcode (E5 ap) 124 (c1 (c1 (c2 (c1 (c2 (c2 (c2 (c2 (c2 B5))))))))) t (kJ (fun t => L11 (t 5) (t 7)) (kB 0 (kJ (fun t => f5_5 ap (t 5)) K5))) = f5_b11 ap L11 (t 5) (t 7) := by kernel_rfl
noncomputable def f5_l11 (ap : FuncId → List AV → M AV) : Nat → AV → AV → M AV
  | 0, _, _ => fail
  | n + 1, x5, x7 => f5_b11 ap (f5_l11 ap n) x5 x7
theorem f5_l11_eq (ap : FuncId → List AV → M AV) (t : Tmps) : dcode (E5 ap) 124 (c1 (c2 (c1 (c2 (c2 (c2 (c2 (c2 B5)))))))) t (kB 0 (kJ (fun t => f5_5 ap (t 5)) K5)) = f5_l11 ap fuel (t 5) (t 7) :=
  dloop_eq (c := (c1 (c1 (c2 (c1 (c2 (c2 (c2 (c2 (c2 B5)))))))))) (g := fun n t => f5_l11 ap n (t 5) (t 7)) (fun _ => rfl) (fun n t => f5_b11_eq ap (f5_l11 ap n) t)
noncomputable def f5_10 (ap : FuncId → List AV → M AV) (x5 x7 : AV) : M AV :=
 f5_l11 ap fuel x5 x7
theorem f5_10_eq (ap : FuncId → List AV → M AV) (t : Tmps) : dcode (E5 ap) 124 (c2 (c1 (c2 (c2 (c2 (c2 (c2 B5))))))) t (kJ (fun t => f5_5 ap (t 5)) K5) = f5_10 ap (t 5) (t 7) := (f5_l11_eq ap _)
noncomputable def f5_4 (ap : FuncId → List AV → M AV) (x5 : AV) : M AV :=
 f5_10 ap x5 (.int .i64 0)
theorem f5_4_eq (ap : FuncId → List AV → M AV) (t : Tmps) : dcode (E5 ap) 124 (c2 (c2 (c2 (c2 (c2 B5))))) t K5 = f5_4 ap (t 5) := (seq_eq (a := (c1 (c2 (c2 (c2 (c2 (c2 B5))))))) (b := (c2 (c2 (c2 (c2 (c2 (c2 B5))))))) (fun t => f5_5_eq ap t) (seq_eq (a := (c1 (c1 (c2 (c2 (c2 (c2 (c2 B5)))))))) (b := (c2 (c1 (c2 (c2 (c2 (c2 (c2 B5)))))))) (fun t => f5_10_eq ap t) (by kernel_rfl)))
noncomputable def f5_3 (ap : FuncId → List AV → M AV) (x5 x6 : AV) : M AV :=
 bd (bi .neq x6 (.int .i64 0)) fun v1 =>
 cnd v1 (
 bd (lda 9 x5) fun v2 =>
 bd (bu [(.str []), (.str []), (.str []), (.str []), (.str []), (.bool false), (.bool false), (.bool false), (.bool false)] []) fun v3 =>
 bd (bis [.s, .s, .s, .s, .s, .b, .b, .b, .b] .eql v2 v3) fun v4 =>
 ret v4) (
 f5_4 ap x5)
theorem f5_3_eq (ap : FuncId → List AV → M AV) (t : Tmps) : dcode (E5 ap) 124 (c2 (c2 (c2 (c2 B5)))) t K5 = f5_3 ap (t 5) (t 6) := (seq_eq (a := (c1 (c2 (c2 (c2 (c2 B5)))))) (b := (c2 (c2 (c2 (c2 (c2 B5)))))) (fun t => f5_4_eq ap t) (by kernel_rfl))
noncomputable def f5_2 (ap : FuncId → List AV → M AV) (x0 x1 : AV) : M AV :=
 bd (f18 ap x0 x1) fun v1 =>
 bd (ex v1 0) fun v2 =>
 bd (ex v1 1) fun v3 =>
 bd (bx 23 (.agg [(.str []), (.str []), (.str []), (.str []), (.str []), (.bool false), (.bool false), (.bool false), (.bool false)])) fun v4 =>
 bd (sta 9 v4 v2) fun _ =>
 f5_3 ap v4 v3
theorem f5_2_eq (ap : FuncId → List AV → M AV) (t : Tmps) : dcode (E5 ap) 124 (c2 (c2 (c2 B5))) t K5 = f5_2 ap (t 0) (t 1) := (seq_eq (a := (c1 (c2 (c2 (c2 B5))))) (b := (c2 (c2 (c2 (c2 B5))))) (fun t => f5_3_eq ap t) (by kernel_rfl))
noncomputable def f5_1 (ap : FuncId → List AV → M AV) (x0 x1 : AV) : M AV :=
 bd (lnS x0) fun v1 =>
 bd (bi .gtr v1 (.int .i64 400)) fun v2 =>
 bd (gd v2 false (ret x1)) fun v3 =>
 bd (gd v2 false (lnS v3)) fun v4 =>
 bd (gd v2 false (bi .gtr v4 (.int .i64 400))) fun v5 =>
 bd (pk v2 (.bool true) v5) fun v6 =>
 cnd v6 (
 ret (.bool true)) (
 f5_2 ap x0 x1)
theorem f5_1_eq (ap : FuncId → List AV → M AV) (t : Tmps) : dcode (E5 ap) 124 (c2 (c2 B5)) t K5 = f5_1 ap (t 0) (t 1) := (seq_eq (a := (c1 (c2 (c2 B5)))) (b := (c2 (c2 (c2 B5)))) (fun t => f5_2_eq ap t) (by kernel_rfl))
noncomputable def f5_0 (ap : FuncId → List AV → M AV) (x0 x1 : AV) : M AV :=
 bd (f8 ap) fun v1 =>
 bd (un .not v1) fun v2 =>
 cnd v2 (
 ret (.bool false)) (
 f5_1 ap x0 x1)
theorem f5_0_eq (ap : FuncId → List AV → M AV) (t : Tmps) : dcode (E5 ap) 124 (c2 B5) t K5 = f5_0 ap (t 0) (t 1) := (seq_eq (a := (c1 (c2 B5))) (b := (c2 (c2 B5))) (fun t => f5_1_eq ap t) (by kernel_rfl))
noncomputable def f5 (ap : FuncId → List AV → M AV) (x0 x1 : AV) : M AV :=
 f5_0 ap x0 x1
theorem f5_top (ap : FuncId → List AV → M AV) (t : Tmps) : dcode (E5 ap) 124 B5 t K5 = f5 ap (t 0) (t 1) := (seq_eq (a := (c1 B5)) (b := (c2 B5)) (fun t => f5_0_eq ap t) (by kernel_rfl))
theorem f5_eq (ap : FuncId → List AV → M AV) (x0 x1 : AV) : dfn (E5 ap) Go.Proofs.Tryd.f5 [x0, x1] = f5 ap x0 x1 := dfn_eq (c := B5) (nt := 124) (K := K5) (by kernel_rfl) (by kernel_rfl) rfl (by kernel_rfl) (f5_top ap (argT [x0, x1]))
theorem O5 (ap : FuncId → List AV → M AV) (hap : ApOK Go.Proofs.Tryd.prog 3 ap) : EnvOK (E5 ap) := ⟨fun g xs => (ok_if (S8 ap hap xs) (ok_if (S18 ap hap xs) (ok_if (S19 xs) (ok_if (S20 xs) ok_fail)))), hap⟩
theorem S5 (ap : FuncId → List AV → M AV) (hap : ApOK Go.Proofs.Tryd.prog 3 ap) (xs : List AV) : CallOK Go.Proofs.Tryd.prog 3 5 xs (L2 (f5 ap) xs) := ok_L2 (fun x0 x1 => ok_fn (E := (E5 ap)) (fn := Go.Proofs.Tryd.f5) (O5 ap hap) rfl rfl (by kernel_rfl) (by kernel_rfl) (f5_eq ap x0 x1)) xs

/-! ### etui/etuilaw16.IriWhole: function 6 -/
noncomputable def C6 (ap : FuncId → List AV → M AV) (g : FuncId) (xs : List AV) : M AV := bif Nat.beq g 8 then L0 (f8 ap) xs else bif Nat.beq g 14 then L1 f14 xs else bif Nat.beq g 16 then L2 (f16 ap) xs else bif Nat.beq g 17 then L1 (f17 ap) xs else fail
noncomputable def E6 (ap : FuncId → List AV → M AV) : Env := ⟨Go.Proofs.Tryd.prog, 3, C6 ap, ap, fun _ => [], 6, none⟩
noncomputable def B6 : Code := bodyOf Go.Proofs.Tryd.f6
noncomputable def K6 : KT := dK Go.Proofs.Tryd.prog Go.Proofs.Tryd.f6.results.toList
noncomputable def f6 (ap : FuncId → List AV → M AV) (x0 x1 x2 : AV) : M AV :=
 bd (f8 ap) fun v1 =>
 bd (un .not v1) fun v2 =>
 cnd v2 (
 ret (.bool false)) (
 bd (lnS x0) fun v3 =>
 bd (bi .gtr v3 (.int .i64 1000)) fun v4 =>
 bd (gd v4 false (ret x1)) fun v5 =>
 bd (gd v4 false (lnS v5)) fun v6 =>
 bd (gd v4 false (bi .gtr v6 (.int .i64 1000))) fun v7 =>
 bd (pk v4 (.bool true) v7) fun v8 =>
 bd (gd v8 false (ret x2)) fun v9 =>
 bd (gd v8 false (lnS v9)) fun v10 =>
 bd (gd v8 false (bi .gtr v10 (.int .i64 1000))) fun v11 =>
 bd (pk v8 (.bool true) v11) fun v12 =>
 bd (gd v12 false (ret x0)) fun v13 =>
 bd (gd v12 false (bi .eql v13 (.str []))) fun v14 =>
 bd (pk v12 (.bool true) v14) fun v15 =>
 bd (gd v15 false (ret x1)) fun v16 =>
 bd (gd v15 false (bi .eql v16 (.str []))) fun v17 =>
 bd (pk v15 (.bool true) v17) fun v18 =>
 bd (gd v18 false (ret x0)) fun v19 =>
 bd (gd v18 false (ixs v19 (.int .i64 0))) fun v20 =>
 bd (gd v18 false (bi .neq v20 (.int .u8 47))) fun v21 =>
 bd (pk v18 (.bool true) v21) fun v22 =>
 bd (gd v22 false (ret x1)) fun v23 =>
 bd (gd v22 false (ixs v23 (.int .i64 0))) fun v24 =>
 bd (gd v22 false (bi .neq v24 (.int .u8 47))) fun v25 =>
 bd (pk v22 (.bool true) v25) fun v26 =>
 bd (gd v26 false (ret x2)) fun v27 =>
 bd (gd v26 false (lnS v27)) fun v28 =>
 bd (gd v26 false (bi .lss v28 (.int .i64 1))) fun v29 =>
 bd (pk v26 (.bool true) v29) fun v30 =>
 bd (gd v30 false (ret x2)) fun v31 =>
 bd (gd v30 false (ixs v31 (.int .i64 0))) fun v32 =>
 bd (gd v30 false (bi .neq v32 (.int .u8 47))) fun v33 =>
 bd (pk v30 (.bool true) v33) fun v34 =>
 cnd v34 (
 ret (.bool true)) (
 bd (f16 ap x0 x2) fun v35 =>
 bd (ex v35 0) fun v36 =>
 bd (ex v35 1) fun v37 =>
 bd (ex v35 2) fun v38 =>
 bd (f16 ap x1 x2) fun v39 =>
 bd (ex v39 0) fun v40 =>
 bd (ex v39 1) fun v41 =>
 bd (ex v39 2) fun v42 =>
 bd (bi .neq v36 v40) fun v43 =>
 bd (gd v43 false (ret v37)) fun v44 =>
 bd (gd v43 false (ret v41)) fun v45 =>
 bd (gd v43 false (bi .neq v44 v45)) fun v46 =>
 bd (pk v43 (.bool true) v46) fun v47 =>
 bd (gd v47 false (ret v38)) fun v48 =>
 bd (gd v47 false (ret v42)) fun v49 =>
 bd (gd v47 false (bi .neq v48 v49)) fun v50 =>
 bd (pk v47 (.bool true) v50) fun v51 =>
 cnd v51 (
 ret (.bool false)) (
 bd (f14 x0) fun v52 =>
 bd (un .not v52) fun v53 =>
 cnd v53 (
 ret (.bool true)) (
 bd (f16 ap x0 (.str [35, 102])) fun v54 =>
 bd (ex v54 0) fun v55 =>
 bd (ex v54 1) fun v56 =>
 bd (ex v54 2) fun v57 =>
 bd (f17 ap x0) fun v58 =>
 bd (ex v58 0) fun v59 =>
 bd (ex v58 1) fun v60 =>
 bd (bi .eql v57 (.int .i64 0)) fun v61 =>
 bd (gd v61 true (ret v60)) fun v62 =>
 bd (pk v61 v62 (.bool false)) fun v63 =>
 bd (gd v63 true (ret v55)) fun v64 =>
 bd (gd v63 true (ret v59)) fun v65 =>
 bd (gd v63 true (bi .eql v64 v65)) fun v66 =>
 bd (pk v63 v66 (.bool false)) fun v67 =>
 bd (gd v67 true (ret v56)) fun v68 =>
 bd (gd v67 true (bi .eql v68 (.str [102]))) fun v69 =>
 bd (pk v67 v69 (.bool false)) fun v70 =>
 ret v70))))
theorem f6_eq (ap : FuncId → List AV → M AV) (x0 x1 x2 : AV) : dfn (E6 ap) Go.Proofs.Tryd.f6 [x0, x1, x2] = f6 ap x0 x1 x2 := dfn_eq (c := B6) (nt := 116) (K := K6) (by kernel_rfl) (by kernel_rfl) rfl (by kernel_rfl) (by kernel_rfl)
theorem O6 (ap : FuncId → List AV → M AV) (hap : ApOK Go.Proofs.Tryd.prog 3 ap) : EnvOK (E6 ap) := ⟨fun g xs => (ok_if (S8 ap hap xs) (ok_if (S14 xs) (ok_if (S16 ap hap xs) (ok_if (S17 ap hap xs) ok_fail)))), hap⟩
theorem S6 (ap : FuncId → List AV → M AV) (hap : ApOK Go.Proofs.Tryd.prog 3 ap) (xs : List AV) : CallOK Go.Proofs.Tryd.prog 3 6 xs (L3 (f6 ap) xs) := ok_L3 (fun x0 x1 x2 => ok_fn (E := (E6 ap)) (fn := Go.Proofs.Tryd.f6) (O6 ap hap) rfl rfl (by kernel_rfl) (by kernel_rfl) (f6_eq ap x0 x1 x2)) xs

/-! ### etui/etuilaw16.IriFragments: function 7 -/
noncomputable def C7 (ap : FuncId → List AV → M AV) (g : FuncId) (xs : List AV) : M AV := bif Nat.beq g 8 then L0 (f8 ap) xs else bif Nat.beq g 9 then L1 (f9 ap) xs else bif Nat.beq g 16 then L2 (f16 ap) xs else fail
noncomputable def E7 (ap : FuncId → List AV → M AV) : Env := ⟨Go.Proofs.Tryd.prog, 3, C7 ap, ap, fun _ => [], 7, none⟩
noncomputable def B7 : Code := bodyOf Go.Proofs.Tryd.f7
noncomputable def K7 : KT := dK Go.Proofs.Tryd.prog Go.Proofs.Tryd.f7.results.toList
noncomputable def f7 (ap : FuncId → List AV → M AV) (x0 x1 x2 : AV) : M AV :=
 bd (f8 ap) fun v1 =>
 bd (un .not v1) fun v2 =>
 cnd v2 (
 ret (.bool false)) (
 bd (lnS x0) fun v3 =>
 bd (bi .gtr v3 (.int .i64 500)) fun v4 =>
 bd (gd v4 false (ret x1)) fun v5 =>
 bd (gd v4 false (lnS v5)) fun v6 =>
 bd (gd v4 false (bi .gtr v6 (.int .i64 300))) fun v7 =>
 bd (pk v4 (.bool true) v7) fun v8 =>
 bd (gd v8 false (ret x2)) fun v9 =>
 bd (gd v8 false (lnS v9)) fun v10 =>
 bd (gd v8 false (bi .gtr v10 (.int .i64 300))) fun v11 =>
 bd (pk v8 (.bool true) v11) fun v12 =>
 cnd v12 (
 ret (.bool true)) (
 bd (f9 ap x1) fun v13 =>
 bd (ex v13 0) fun v14 =>
 bd (ex v13 1) fun v15 =>
 bd (bx 23 (.agg [(.str []), (.str []), (.str []), (.str []), (.str []), (.bool false), (.bool false), (.bool false), (.bool false)])) fun v16 =>
 bd (sta 9 v16 v14) fun _ =>
 bd (bi .add (.str [35]) x2) fun v17 =>
 bd (f9 ap v17) fun v18 =>
 bd (ex v18 0) fun v19 =>
 bd (ex v18 1) fun v20 =>
 bd (bx 23 (.agg [(.str []), (.str []), (.str []), (.str []), (.str []), (.bool false), (.bool false), (.bool false), (.bool false)])) fun v21 =>
 bd (sta 9 v21 v19) fun _ =>
 bd (un .not v15) fun v22 =>
 bd (gd v22 false (ret v20)) fun v23 =>
 bd (gd v22 false (un .not v23)) fun v24 =>
 bd (pk v22 (.bool true) v24) fun v25 =>
 bd (gd v25 false (fa v16 8)) fun v26 =>
 bd (gd v25 false (ld v26)) fun v27 =>
 bd (pk v25 (.bool true) v27) fun v28 =>
 bd (gd v28 false (fa v16 7)) fun v29 =>
 bd (gd v28 false (ld v29)) fun v30 =>
 bd (pk v28 (.bool true) v30) fun v31 =>
 cnd v31 (
 ret (.bool true)) (
 bd (f16 ap x0 x1) fun v32 =>
 bd (ex v32 0) fun v33 =>
 bd (ex v32 1) fun v34 =>
 bd (ex v32 2) fun v35 =>
 bd (bi .add x1 (.str [35])) fun v36 =>
 bd (fa v21 4) fun v37 =>
 bd (ld v37) fun v38 =>
 bd (bi .add v36 v38) fun v39 =>
 bd (f16 ap x0 v39) fun v40 =>
 bd (ex v40 0) fun v41 =>
 bd (ex v40 1) fun v42 =>
 bd (ex v40 2) fun v43 =>
 bd (bi .add x1 (.str [63, 120])) fun v44 =>
 bd (f16 ap x0 v44) fun v45 =>
 bd (ex v45 0) fun v46 =>
 bd (ex v45 1) fun v47 =>
 bd (ex v45 2) fun v48 =>
 bd (bi .eql v33 v41) fun v49 =>
 bd (gd v49 true (ret v35)) fun v50 =>
 bd (gd v49 true (ret v43)) fun v51 =>
 bd (gd v49 true (bi .eql v50 v51)) fun v52 =>
 bd (pk v49 v52 (.bool false)) fun v53 =>
 bd (gd v53 true (ret v34)) fun v54 =>
 bd (gd v53 true (bi .eql v54 (.str []))) fun v55 =>
 bd (pk v53 v55 (.bool false)) fun v56 =>
 bd (gd v56 true (ret v35)) fun v57 =>
 bd (gd v56 true (bi .neq v57 (.int .i64 0))) fun v58 =>
 bd (gd v56 true (ret v58)) fun v59 =>
 bd (gd v59 false (ret v42)) fun v60 =>
 bd (gd v59 false (fa v21 4)) fun v61 =>
 bd (gd v59 false (ld v61)) fun v62 =>
 bd (gd v59 false (bi .eql v60 v62)) fun v63 =>
 bd (gd v56 true (pk v59 (.bool true) v63)) fun v64 =>
 bd (pk v56 v64 (.bool false)) fun v65 =>
 bd (gd v65 true (ret v48)) fun v66 =>
 bd (gd v65 true (bi .neq v66 (.int .i64 0))) fun v67 =>
 bd (pk v65 v67 (.bool false)) fun v68 =>
 ret v68)))
theorem f7_eq (ap : FuncId → List AV → M AV) (x0 x1 x2 : AV) : dfn (E7 ap) Go.Proofs.Tryd.f7 [x0, x1, x2] = f7 ap x0 x1 x2 := dfn_eq (c := B7) (nt := 112) (K := K7) (by kernel_rfl) (by kernel_rfl) rfl (by kernel_rfl) (by kernel_rfl)
theorem O7 (ap : FuncId → List AV → M AV) (hap : ApOK Go.Proofs.Tryd.prog 3 ap) : EnvOK (E7 ap) := ⟨fun g xs => (ok_if (S8 ap hap xs) (ok_if (S9 ap hap xs) (ok_if (S16 ap hap xs) ok_fail))), hap⟩
theorem S7 (ap : FuncId → List AV → M AV) (hap : ApOK Go.Proofs.Tryd.prog 3 ap) (xs : List AV) : CallOK Go.Proofs.Tryd.prog 3 7 xs (L3 (f7 ap) xs) := ok_L3 (fun x0 x1 x2 => ok_fn (E := (E7 ap)) (fn := Go.Proofs.Tryd.f7) (O7 ap hap) rfl rfl (by kernel_rfl) (by kernel_rfl) (f7_eq ap x0 x1 x2)) xs

/-! ### etui/iri.Join$1: function 29 -/
noncomputable def C29 (g : FuncId) (xs : List AV) : M AV := bif Nat.beq g 30 then L2 f30 xs else fail
noncomputable def E29 : Env := ⟨Go.Proofs.Tryd.prog, 3, C29, fun _ _ => fail, fun _ => [], 29, none⟩
noncomputable def B29 : Code := bodyOf Go.Proofs.Tryd.f29
noncomputable def K29 : KT := dK Go.Proofs.Tryd.prog Go.Proofs.Tryd.f29.results.toList
noncomputable def f29_4 (L1 : AV → AV → AV → AV → AV → M AV) (x0 x2 x7 x8 x9 : AV) : M AV :=
 bd (bi .add x9 (.int .i64 1)) fun v1 =>
 L1 x0 x2 x7 x8 v1
theorem f29_4_eq (L1 : AV → AV → AV → AV → AV → M AV) (t : Tmps) : dcode E29 17 (c2 (c2 (c2 (c1 (c1 (c2 B29)))))) t (kJ (fun t => L1 (t 0) (t 2) (t 7) (t 8) (t 9)) (kB 0 K29)) = f29_4 L1 (t 0) (t 2) (t 7) (t 8) (t 9) := by kernel_rfl
noncomputable def f29_3 (L1 : AV → AV → AV → AV → AV → M AV) (x0 x2 x7 x8 x9 : AV) : M AV :=
 bd (ixp 1 x7 x9) fun v1 =>
 bd (ld v1) fun v2 =>
 cnd x0 (
 bd (f30 x2 v2) fun v3 =>
 f29_4 L1 x0 x2 x7 x8 x9) (
 f29_4 L1 x0 x2 x7 x8 x9)
theorem f29_3_eq (L1 : AV → AV → AV → AV → AV → M AV) (t : Tmps) : dcode E29 17 (c2 (c2 (c1 (c1 (c2 B29))))) t (kJ (fun t => L1 (t 0) (t 2) (t 7) (t 8) (t 9)) (kB 0 K29)) = f29_3 L1 (t 0) (t 2) (t 7) (t 8) (t 9) := (seq_eq (a := (c1 (c2 (c2 (c1 (c1 (c2 B29))))))) (b := (c2 (c2 (c2 (c1 (c1 (c2 B29))))))) (fun t => f29_4_eq L1 t) (by kernel_rfl))
noncomputable def f29_2 (L1 : AV → AV → AV → AV → AV → M AV) (x0 x2 x7 x8 x9 x10 : AV) : M AV :=
 cnd x10 (
 f29_3 L1 x0 x2 x7 x8 x9) (
 ret (.tuple []))
theorem f29_2_eq (L1 : AV → AV → AV → AV → AV → M AV) (t : Tmps) : dcode E29 17 (c2 (c1 (c1 (c2 B29)))) t (kJ (fun t => L1 (t 0) (t 2) (t 7) (t 8) (t 9)) (kB 0 K29)) = f29_2 L1 (t 0) (t 2) (t 7) (t 8) (t 9) (t 10) := (seq_eq (a := (c1 (c2 (c1 (c1 (c2 B29)))))) (b := (c2 (c2 (c1 (c1 (c2 B29)))))) (fun t => f29_3_eq L1 t) (by kernel_rfl))
noncomputable def f29_b1 (L1 : AV → AV → AV → AV → AV → M AV) (x0 x2 x7 x8 x9 : AV) : M AV :=
 bd (bi .lss x9 x8) fun v1 =>
 f29_2 L1 x0 x2 x7 x8 x9 v1
theorem f29_b1_eq (L1 : AV → AV → AV → AV → AV → M AV) (t : Tmps) : dcode E29 17 (c1 (c1 (c2 B29))) t (kJ (fun t => L1 (t 0) (t 2) (t 7) (t 8) (t 9)) (kB 0 K29)) = f29_b1 L1 (t 0) (t 2) (t 7) (t 8) (t 9) := (seq_eq (a := (c1 (c1 (c1 (c2 B29))))) (b := (c2 (c1 (c1 (c2 B29))))) (fun t => f29_2_eq L1 t) (by kernel_rfl))
noncomputable def f29_l1 : Nat → AV → AV → AV → AV → AV → M AV
  | 0, _, _, _, _, _ => fail
  | n + 1, x0, x2, x7, x8, x9 => f29_b1 (f29_l1 n) x0 x2 x7 x8 x9
theorem f29_l1_eq (t : Tmps) : dcode E29 17 (c1 (c2 B29)) t (kB 0 K29) = f29_l1 fuel (t 0) (t 2) (t 7) (t 8) (t 9) :=
  dloop_eq (c := (c1 (c1 (c2 B29)))) (g := fun n t => f29_l1 n (t 0) (t 2) (t 7) (t 8) (t 9)) (fun _ => rfl) (fun n t => f29_b1_eq (f29_l1 n) t)
noncomputable def f29_0 (x0 x2 x7 x8 x9 : AV) : M AV :=
 f29_l1 fuel x0 x2 x7 x8 x9
theorem f29_0_eq (t : Tmps) : dcode E29 17 (c2 B29) t K29 = f29_0 (t 0) (t 2) (t 7) (t 8) (t 9) := (f29_l1_eq _)
noncomputable def f29 (x0 x1 x2 : AV) : M AV :=
 bd (lnL x1) fun v1 =>
 f29_0 x0 x2 x1 v1 (.int .i64 0)
theorem f29_top (t : Tmps) : dcode E29 17 B29 t K29 = f29 (t 0) (t 1) (t 2) := (seq_eq (a := (c1 B29)) (b := (c2 B29)) (fun t => f29_0_eq t) (by kernel_rfl))
theorem f29_eq (x0 x1 x2 : AV) : dfn E29 Go.Proofs.Tryd.f29 [x0, x1, x2] = f29 x0 x1 x2 := dfn_eq (c := B29) (nt := 17) (K := K29) (by kernel_rfl) (by kernel_rfl) rfl (by kernel_rfl) (f29_top (argT [x0, x1, x2]))
theorem O29 : EnvOK E29 := ⟨fun g xs => (ok_if (S30 xs) ok_fail), ap_fail⟩
theorem S29 (xs : List AV) : CallOK Go.Proofs.Tryd.prog 3 29 xs (L3 f29 xs) := ok_L3 (fun x0 x1 x2 => ok_fn (E := E29) (fn := Go.Proofs.Tryd.f29) O29 rfl rfl (by kernel_rfl) (by kernel_rfl) (f29_eq x0 x1 x2)) xs

/-! ### etui/iri.scheme$1: function 53 -/
noncomputable def C53 (g : FuncId) (xs : List AV) : M AV := fail
noncomputable def E53 : Env := ⟨Go.Proofs.Tryd.prog, 3, C53, fun _ _ => fail, fun _ => [], 53, none⟩
noncomputable def B53 : Code := bodyOf Go.Proofs.Tryd.f53
noncomputable def K53 : KT := dK Go.Proofs.Tryd.prog Go.Proofs.Tryd.f53.results.toList
noncomputable def f53 (x0 : AV) : M AV :=
 bd (bi .geq x0 (.int .i32 97)) fun v1 =>
 bd (gd v1 true (ret x0)) fun v2 =>
 bd (gd v1 true (bi .leq v2 (.int .i32 122))) fun v3 =>
 bd (pk v1 v3 (.bool false)) fun v4 =>
 bd (gd v4 false (ret x0)) fun v5 =>
 bd (gd v4 false (bi .geq v5 (.int .i32 65))) fun v6 =>
 bd (gd v4 false (ret v6)) fun v7 =>
 bd (gd v7 true (ret x0)) fun v8 =>
 bd (gd v7 true (bi .leq v8 (.int .i32 90))) fun v9 =>
 bd (gd v4 false (pk v7 v9 (.bool false))) fun v10 =>
 bd (pk v4 (.bool true) v10) fun v11 =>
 ret v11
theorem f53_eq (x0 : AV) : dfn E53 Go.Proofs.Tryd.f53 [x0] = f53 x0 := dfn_eq (c := B53) (nt := 17) (K := K53) (by kernel_rfl) (by kernel_rfl) rfl (by kernel_rfl) (by kernel_rfl)
theorem O53 : EnvOK E53 := ⟨fun g xs => ok_fail, ap_fail⟩
theorem S53 (xs : List AV) : CallOK Go.Proofs.Tryd.prog 3 53 xs (L1 f53 xs) := ok_L1 (fun x0 => ok_fn (E := E53) (fn := Go.Proofs.Tryd.f53) O53 rfl rfl (by kernel_rfl) (by kernel_rfl) (f53_eq x0)) xs

/-! ### etui/iri.scheme$2: function 54 -/
noncomputable def C54 (ap : FuncId → List AV → M AV) (g : FuncId) (xs : List AV) : M AV := fail
noncomputable def E54 (ap : FuncId → List AV → M AV) : Env := ⟨Go.Proofs.Tryd.prog, 3, C54 ap, ap, fun _ => [], 54, none⟩
noncomputable def B54 : Code := bodyOf Go.Proofs.Tryd.f54
noncomputable def K54 : KT := dK Go.Proofs.Tryd.prog Go.Proofs.Tryd.f54.results.toList
noncomputable def f54 (ap : FuncId → List AV → M AV) (x0 x1 : AV) : M AV :=
 bd (ld x1) fun v1 =>
 bd (apv ap v1 [x0]) fun v2 =>
 bd (un .not v2) fun v3 =>
 bd (gd v3 true (ret x0)) fun v4 =>
 bd (gd v3 true (bi .lss v4 (.int .i32 48))) fun v5 =>
 bd (gd v3 true (ret v5)) fun v6 =>
 bd (gd v6 false (ret x0)) fun v7 =>
 bd (gd v6 false (bi .gtr v7 (.int .i32 57))) fun v8 =>
 bd (gd v3 true (pk v6 (.bool true) v8)) fun v9 =>
 bd (pk v3 v9 (.bool false)) fun v10 =>
 bd (gd v10 true (ret x0)) fun v11 =>
 bd (gd v10 true (bi .neq v11 (.int .i32 43))) fun v12 =>
 bd (pk v10 v12 (.bool false)) fun v13 =>
 bd (gd v13 true (ret x0)) fun v14 =>
 bd (gd v13 true (bi .neq v14 (.int .i32 45))) fun v15 =>
 bd (pk v13 v15 (.bool false)) fun v16 =>
 bd (gd v16 true (ret x0)) fun v17 =>
 bd (gd v16 true (bi .neq v17 (.int .i32 46))) fun v18 =>
 bd (pk v16 v18 (.bool false)) fun v19 =>
 ret v19
theorem f54_eq (ap : FuncId → List AV → M AV) (x0 x1 : AV) : dfn (E54 ap) Go.Proofs.Tryd.f54 [x0, x1] = f54 ap x0 x1 := dfn_eq (c := B54) (nt := 28) (K := K54) (by kernel_rfl) (by kernel_rfl) rfl (by kernel_rfl) (by kernel_rfl)
theorem O54 (ap : FuncId → List AV → M AV) (hap : ApOK Go.Proofs.Tryd.prog 3 ap) : EnvOK (E54 ap) := ⟨fun g xs => ok_fail, hap⟩
theorem S54 (ap : FuncId → List AV → M AV) (hap : ApOK Go.Proofs.Tryd.prog 3 ap) (xs : List AV) : CallOK Go.Proofs.Tryd.prog 3 54 xs (L2 (f54 ap) xs) := ok_L2 (fun x0 x1 => ok_fn (E := (E54 ap)) (fn := Go.Proofs.Tryd.f54) (O54 ap hap) rfl rfl (by kernel_rfl) (by kernel_rfl) (f54_eq ap x0 x1)) xs

/-! ### internal/bytealg.hashStr[string]: function 99 -/
noncomputable def C99 (g : FuncId) (xs : List AV) : M AV := fail
noncomputable def E99 : Env := ⟨Go.Proofs.Tryd.prog, 3, C99, fun _ _ => fail, fun _ => [], 99, none⟩
noncomputable def B99 : Code := bodyOf Go.Proofs.Tryd.f99
noncomputable def K99 : KT := dK Go.Proofs.Tryd.prog Go.Proofs.Tryd.f99.results.toList
noncomputable def f99_4 (x4 x6 : AV) : M AV :=
 ret (.tuple [x4, x6])
theorem f99_4_eq (t : Tmps) : dcode E99 39 (c2 (c2 (c2 (c2 (c2 B99))))) t K99 = f99_4 (t 4) (t 6) := by kernel_rfl
noncomputable def f99_8 (L6 : AV → AV → AV → AV → M AV) (x4 x6 x7 x8 : AV) : M AV :=
 bd (bi .shr x8 (.int .u64 1)) fun v1 =>
 L6 x4 x6 x7 v1
theorem f99_8_eq (L6 : AV → AV → AV → AV → M AV) (t : Tmps) : dcode E99 39 (c2 (c2 (c1 (c1 (c2 (c1 (c2 (c2 (c2 (c2 B99)))))))))) t (kJ (fun t => L6 (t 4) (t 6) (t 7) (t 8)) (kB 2 (kJ (fun t => f99_4 (t 4) (t 6)) K99))) = f99_8 L6 (t 4) (t 6) (t 7) (t 8) := by kernel_rfl
noncomputable def f99_9 (L6 : AV → AV → AV → AV → M AV) (x4 x6 x7 x8 : AV) : M AV :=
 bd (bi .mul x7 x7) fun v1 =>
 f99_8 L6 x4 x6 v1 x8
theorem f99_9_eq (L6 : AV → AV → AV → AV → M AV) (t : Tmps) : dcode E99 39 (c2 (c1 (c1 (c2 (c1 (c1 (c2 (c1 (c2 (c2 (c2 (c2 B99)))))))))))) t (kB 3 (kJ (fun t => f99_8 L6 (t 4) (t 6) (t 7) (t 8)) (kJ (fun t => L6 (t 4) (t 6) (t 7) (t 8)) (kB 2 (kJ (fun t => f99_4 (t 4) (t 6)) K99))))) = f99_9 L6 (t 4) (t 6) (t 7) (t 8) := by kernel_rfl
noncomputable def f99_7 (L6 : AV → AV → AV → AV → M AV) (x4 x6 x7 x8 : AV) : M AV :=
 bd (bi .and x8 (.int .i64 1)) fun v1 =>
 bd (bi .neq v1 (.int .i64 0)) fun v2 =>
 cnd v2 (
 bd (bi .mul x6 x7) fun v3 =>
 f99_9 L6 x4 v3 x7 x8) (
 f99_9 L6 x4 x6 x7 x8)
theorem f99_7_eq (L6 : AV → AV → AV → AV → M AV) (t : Tmps) : dcode E99 39 (c2 (c1 (c1 (c2 (c1 (c2 (c2 (c2 (c2 B99))))))))) t (kJ (fun t => L6 (t 4) (t 6) (t 7) (t 8)) (kB 2 (kJ (fun t => f99_4 (t 4) (t 6)) K99))) = f99_7 L6 (t 4) (t 6) (t 7) (t 8) := (seq_eq (a := (c1 (c2 (c1 (c1 (c2 (c1 (c2 (c2 (c2 (c2 B99))))))))))) (b := (c2 (c2 (c1 (c1 (c2 (c1 (c2 (c2 (c2 (c2 B99))))))))))) (fun t => f99_8_eq L6 t) (seq_eq (a := (c1 (c1 (c1 (c2 (c1 (c1 (c2 (c1 (c2 (c2 (c2 (c2 B99))))))))))))) (b := (c2 (c1 (c1 (c2 (c1 (c1 (c2 (c1 (c2 (c2 (c2 (c2 B99))))))))))))) (fun t => f99_9_eq L6 t) (by kernel_rfl)))
noncomputable def f99_b6 (L6 : AV → AV → AV → AV → M AV) (x4 x6 x7 x8 : AV) : M AV :=
 bd (bi .gtr x8 (.int .i64 0)) fun v1 =>
 cnd v1 (
 f99_7 L6 x4 x6 x7 x8) (
 f99_4 x4 x6)
theorem f99_b6_eq (L6 : AV → AV → AV → AV → M AV) (t : Tmps) : dcode E99 39 (c1 (c1 (c2 (c1 (c2 (c2 (c2 (c2 B99)))))))) t (kJ (fun t => L6 (t 4) (t 6) (t 7) (t 8)) (kB 2 (kJ (fun t => f99_4 (t 4) (t 6)) K99))) = f99_b6 L6 (t 4) (t 6) (t 7) (t 8) := (seq_eq (a := (c1 (c1 (c1 (c2 (c1 (c2 (c2 (c2 (c2 B99)))))))))) (b := (c2 (c1 (c1 (c2 (c1 (c2 (c2 (c2 (c2 B99)))))))))) (fun t => f99_7_eq L6 t) (by kernel_rfl))
noncomputable def f99_l6 : Nat → AV → AV → AV → AV → M AV
  | 0, _, _, _, _ => fail
  | n + 1, x4, x6, x7, x8 => f99_b6 (f99_l6 n) x4 x6 x7 x8
theorem f99_l6_eq (t : Tmps) : dcode E99 39 (c1 (c2 (c1 (c2 (c2 (c2 (c2 B99))))))) t (kB 2 (kJ (fun t => f99_4 (t 4) (t 6)) K99)) = f99_l6 fuel (t 4) (t 6) (t 7) (t 8) :=
  dloop_eq (c := (c1 (c1 (c2 (c1 (c2 (c2 (c2 (c2 B99))))))))) (g := fun n t => f99_l6 n (t 4) (t 6) (t 7) (t 8)) (fun _ => rfl) (fun n t => f99_b6_eq (f99_l6 n) t)
noncomputable def f99_5 (x4 x6 x7 x8 : AV) : M AV :=
 f99_l6 fuel x4 x6 x7 x8
theorem f99_5_eq (t : Tmps) : dcode E99 39 (c2 (c1 (c2 (c2 (c2 (c2 B99)))))) t (kJ (fun t => f99_4 (t 4) (t 6)) K99) = f99_5 (t 4) (t 6) (t 7) (t 8) := (f99_l6_eq _)
noncomputable def f99_3 (x0 x4 x6 x7 : AV) : M AV :=
 bd (lnS x0) fun v1 =>
 f99_5 x4 x6 x7 v1
theorem f99_3_eq (t : Tmps) : dcode E99 39 (c2 (c2 (c2 (c2 B99)))) t K99 = f99_3 (t 0) (t 4) (t 6) (t 7) := (seq_eq (a := (c1 (c2 (c2 (c2 (c2 B99)))))) (b := (c2 (c2 (c2 (c2 (c2 B99)))))) (fun t => f99_4_eq t) (seq_eq (a := (c1 (c1 (c2 (c2 (c2 (c2 B99))))))) (b := (c2 (c1 (c2 (c2 (c2 (c2 B99))))))) (fun t => f99_5_eq t) (by kernel_rfl)))
noncomputable def f99_2 (x0 x4 : AV) : M AV :=
 f99_3 x0 x4 (.int .u32 1) (.int .u32 16777619)
theorem f99_2_eq (t : Tmps) : dcode E99 39 (c2 (c2 (c2 B99))) t K99 = f99_2 (t 0) (t 4) := (seq_eq (a := (c1 (c2 (c2 (c2 B99))))) (b := (c2 (c2 (c2 (c2 B99))))) (fun t => f99_3_eq t) (by kernel_rfl))
noncomputable def f99_b11 (L11 : AV → AV → AV → M AV) (x0 x4 x5 : AV) : M AV :=
 bd (lnS x0) fun v1 =>
 bd (bi .lss x5 v1) fun v2 =>
 cnd v2 (
 bd (bi .mul x4 (.int .u32 16777619)) fun v3 =>
 bd (ixs x0 x5) fun v4 =>
 bd (ci .u32 v4) fun v5 =>
 bd (bi .add v3 v5) fun v6 =>
 bd (bi .add x5 (.int .i64 1)) fun v7 =>
 L11 x0 v6 v7) (
 f99_2 x0 x4)
theorem f99_b11_eq (L11 : AV → AV → AV → M AV) (t : Tmps) : dcode E99 39 (c1 (c1 (c2 (c1 (c2 (c2 B99)))))) t (kJ (fun t => L11 (t 0) (t 4) (t 5)) (kB 0 (kJ (fun t => f99_2 (t 0) (t 4)) K99))) = f99_b11 L11 (t 0) (t 4) (t 5) := by kernel_rfl
noncomputable def f99_l11 : Nat → AV → AV → AV → M AV
  | 0, _, _, _ => fail
  | n + 1, x0, x4, x5 => f99_b11 (f99_l11 n) x0 x4 x5
theorem f99_l11_eq (t : Tmps) : dcode E99 39 (c1 (c2 (c1 (c2 (c2 B99))))) t (kB 0 (kJ (fun t => f99_2 (t 0) (t 4)) K99)) = f99_l11 fuel (t 0) (t 4) (t 5) :=
  dloop_eq (c := (c1 (c1 (c2 (c1 (c2 (c2 B99))))))) (g := fun n t => f99_l11 n (t 0) (t 4) (t 5)) (fun _ => rfl) (fun n t => f99_b11_eq (f99_l11 n) t)
noncomputable def f99_10 (x0 x4 x5 : AV) : M AV :=
 f99_l11 fuel x0 x4 x5
theorem f99_10_eq (t : Tmps) : dcode E99 39 (c2 (c1 (c2 (c2 B99)))) t (kJ (fun t => f99_2 (t 0) (t 4)) K99) = f99_10 (t 0) (t 4) (t 5) := (f99_l11_eq _)
noncomputable def f99_1 (x0 x4 : AV) : M AV :=
 f99_10 x0 x4 (.int .i64 0)
theorem f99_1_eq (t : Tmps) : dcode E99 39 (c2 (c2 B99)) t K99 = f99_1 (t 0) (t 4) := (seq_eq (a := (c1 (c2 (c2 B99)))) (b := (c2 (c2 (c2 B99)))) (fun t => f99_2_eq t) (seq_eq (a := (c1 (c1 (c2 (c2 B99))))) (b := (c2 (c1 (c2 (c2 B99))))) (fun t => f99_10_eq t) (by kernel_rfl)))
noncomputable def f99_0 (x0 : AV) : M AV :=
 f99_1 x0 (.int .u32 0)
theorem f99_0_eq (t : Tmps) : dcode E99 39 (c2 B99) t K99 = f99_0 (t 0) := (seq_eq (a := (c1 (c2 B99))) (b := (c2 (c2 B99))) (fun t => f99_1_eq t) (by kernel_rfl))
noncomputable def f99 (x0 : AV) : M AV :=
 f99_0 x0
theorem f99_top (t : Tmps) : dcode E99 39 B99 t K99 = f99 (t 0) := (seq_eq (a := (c1 B99)) (b := (c2 B99)) (fun t => f99_0_eq t) (by kernel_rfl))
theorem f99_eq (x0 : AV) : dfn E99 Go.Proofs.Tryd.f99 [x0] = f99 x0 := dfn_eq (c := B99) (nt := 39) (K := K99) (by kernel_rfl) (by kernel_rfl) rfl (by kernel_rfl) (f99_top (argT [x0]))
theorem O99 : EnvOK E99 := ⟨fun g xs => ok_fail, ap_fail⟩
theorem S99 (xs : List AV) : CallOK Go.Proofs.Tryd.prog 3 99 xs (L1 f99 xs) := ok_L1 (fun x0 => ok_fn (E := E99) (fn := Go.Proofs.Tryd.f99) O99 rfl rfl (by kernel_rfl) (by kernel_rfl) (f99_eq x0)) xs

/-! ### internal/bytealg.IndexRabinKarp[string]: function 90 -/
noncomputable def C90 (g : FuncId) (xs : List AV) : M AV := bif Nat.beq g 99 then L1 f99 xs else fail
noncomputable def E90 : Env := ⟨Go.Proofs.Tryd.prog, 3, C90, fun _ _ => fail, fun _ => [], 90, none⟩
noncomputable def B90 : Code := bodyOf Go.Proofs.Tryd.f90
noncomputable def K90 : KT := dK Go.Proofs.Tryd.prog Go.Proofs.Tryd.f90.results.toList
noncomputable def f90_6 : M AV :=
 ret (.int .i64 (-1))
theorem f90_6_eq (t : Tmps) : dcode E90 81 (c2 (c2 (c2 (c2 (c2 (c2 (c2 B90))))))) t K90 = f90_6 := by kernel_rfl
noncomputable def f90_b8 (L8 : AV → AV → AV → AV → AV → AV → AV → M AV) (x0 x1 x5 x6 x7 x8 x10 : AV) : M AV :=
 bd (lnS x0) fun v1 =>
 bd (bi .lss x10 v1) fun v2 =>
 cnd v2 (
 bd (bi .mul x8 (.int .u32 16777619)) fun v3 =>
 bd (ixs x0 x10) fun v4 =>
 bd (ci .u32 v4) fun v5 =>
 bd (bi .add v3 v5) fun v6 =>
 bd (bi .sub x10 x7) fun v7 =>
 bd (ixs x0 v7) fun v8 =>
 bd (ci .u32 v8) fun v9 =>
 bd (bi .mul x6 v9) fun v10 =>
 bd (bi .sub v6 v10) fun v11 =>
 bd (bi .add x10 (.int .i64 1)) fun v12 =>
 bd (bi .eql v11 x5) fun v13 =>
 bd (gd v13 true (ret x0)) fun v14 =>
 bd (gd v13 true (ret v12)) fun v15 =>
 bd (gd v13 true (ret x7)) fun v16 =>
 bd (gd v13 true (bi .sub v15 v16)) fun v17 =>
 bd (gd v13 true (ret v12)) fun v18 =>
 bd (gd v13 true (ss v14 (some v17) (some v18))) fun v19 =>
 bd (gd v13 true (ret x1)) fun v20 =>
 bd (gd v13 true (bi .eql v19 v20)) fun v21 =>
 bd (pk v13 v21 (.bool false)) fun v22 =>
 cnd v22 (
 bd (bi .sub v12 x7) fun v23 =>
 ret v23) (
 L8 x0 x1 x5 x6 x7 v11 v12)) (
 f90_6)
theorem f90_b8_eq (L8 : AV → AV → AV → AV → AV → AV → AV → M AV) (t : Tmps) : dcode E90 81 (c1 (c1 (c2 (c1 (c2 (c2 (c2 (c2 (c2 (c2 B90)))))))))) t (kJ (fun t => L8 (t 0) (t 1) (t 5) (t 6) (t 7) (t 8) (t 10)) (kB 2 (kJ (fun t => f90_6) K90))) = f90_b8 L8 (t 0) (t 1) (t 5) (t 6) (t 7) (t 8) (t 10) := by kernel_rfl
noncomputable def f90_l8 : Nat → AV → AV → AV → AV → AV → AV → AV → M AV
  | 0, _, _, _, _, _, _, _ => fail
  | n + 1, x0, x1, x5, x6, x7, x8, x10 => f90_b8 (f90_l8 n) x0 x1 x5 x6 x7 x8 x10
theorem f90_l8_eq (t : Tmps) : dcode E90 81 (c1 (c2 (c1 (c2 (c2 (c2 (c2 (c2 (c2 B90))))))))) t (kB 2 (kJ (fun t => f90_6) K90)) = f90_l8 fuel (t 0) (t 1) (t 5) (t 6) (t 7) (t 8) (t 10) :=
  dloop_eq (c := (c1 (c1 (c2 (c1 (c2 (c2 (c2 (c2 (c2 (c2 B90))))))))))) (g := fun n t => f90_l8 n (t 0) (t 1) (t 5) (t 6) (t 7) (t 8) (t 10)) (fun _ => rfl) (fun n t => f90_b8_eq (f90_l8 n) t)
noncomputable def f90_7 (x0 x1 x5 x6 x7 x8 x10 : AV) : M AV :=
 f90_l8 fuel x0 x1 x5 x6 x7 x8 x10
theorem f90_7_eq (t : Tmps) : dcode E90 81 (c2 (c1 (c2 (c2 (c2 (c2 (c2 (c2 B90)))))))) t (kJ (fun t => f90_6) K90) = f90_7 (t 0) (t 1) (t 5) (t 6) (t 7) (t 8) (t 10) := (f90_l8_eq _)
noncomputable def f90_5 (x0 x1 x5 x6 x7 x8 : AV) : M AV :=
 f90_7 x0 x1 x5 x6 x7 x8 x7
theorem f90_5_eq (t : Tmps) : dcode E90 81 (c2 (c2 (c2 (c2 (c2 (c2 B90)))))) t K90 = f90_5 (t 0) (t 1) (t 5) (t 6) (t 7) (t 8) := (seq_eq (a := (c1 (c2 (c2 (c2 (c2 (c2 (c2 B90)))))))) (b := (c2 (c2 (c2 (c2 (c2 (c2 (c2 B90)))))))) (fun t => f90_6_eq t) (seq_eq (a := (c1 (c1 (c2 (c2 (c2 (c2 (c2 (c2 B90))))))))) (b := (c2 (c1 (c2 (c2 (c2 (c2 (c2 (c2 B90))))))))) (fun t => f90_7_eq t) (by kernel_rfl)))
noncomputable def f90_4 (x0 x1 x5 x6 x7 x8 : AV) : M AV :=
 bd (bi .eql x8 x5) fun v1 =>
 bd (gd v1 true (ret x0)) fun v2 =>
 bd (gd v1 true (ret x7)) fun v3 =>
 bd (gd v1 true (ss v2 none (some v3))) fun v4 =>
 bd (gd v1 true (ret x1)) fun v5 =>
 bd (gd v1 true (bi .eql v4 v5)) fun v6 =>
 bd (pk v1 v6 (.bool false)) fun v7 =>
 cnd v7 (
 ret (.int .i64 0)) (
 f90_5 x0 x1 x5 x6 x7 x8)
theorem f90_4_eq (t : Tmps) : dcode E90 81 (c2 (c2 (c2 (c2 (c2 B90))))) t K90 = f90_4 (t 0) (t 1) (t 5) (t 6) (t 7) (t 8) := (seq_eq (a := (c1 (c2 (c2 (c2 (c2 (c2 B90))))))) (b := (c2 (c2 (c2 (c2 (c2 (c2 B90))))))) (fun t => f90_5_eq t) (by kernel_rfl))
noncomputable def f90_b10 (L10 : AV → AV → AV → AV → AV → AV → AV → M AV) (x0 x1 x5 x6 x7 x8 x9 : AV) : M AV :=
 bd (bi .lss x9 x7) fun v1 =>
 cnd v1 (
 bd (bi .mul x8 (.int .u32 16777619)) fun v2 =>
 bd (ixs x0 x9) fun v3 =>
 bd (ci .u32 v3) fun v4 =>
 bd (bi .add v2 v4) fun v5 =>
 bd (bi .add x9 (.int .i64 1)) fun v6 =>
 L10 x0 x1 x5 x6 x7 v5 v6) (
 f90_4 x0 x1 x5 x6 x7 x8)
theorem f90_b10_eq (L10 : AV → AV → AV → AV → AV → AV → AV → M AV) (t : Tmps) : dcode E90 81 (c1 (c1 (c2 (c1 (c2 (c2 (c2 (c2 B90)))))))) t (kJ (fun t => L10 (t 0) (t 1) (t 5) (t 6) (t 7) (t 8) (t 9)) (kB 0 (kJ (fun t => f90_4 (t 0) (t 1) (t 5) (t 6) (t 7) (t 8)) K90))) = f90_b10 L10 (t 0) (t 1) (t 5) (t 6) (t 7) (t 8) (t 9) := by kernel_rfl
noncomputable def f90_l10 : Nat → AV → AV → AV → AV → AV → AV → AV → M AV
  | 0, _, _, _, _, _, _, _ => fail
  | n + 1, x0, x1, x5, x6, x7, x8, x9 => f90_b10 (f90_l10 n) x0 x1 x5 x6 x7 x8 x9
theorem f90_l10_eq (t : Tmps) : dcode E90 81 (c1 (c2 (c1 (c2 (c2 (c2 (c2 B90))))))) t (kB 0 (kJ (fun t => f90_4 (t 0) (t 1) (t 5) (t 6) (t 7) (t 8)) K90)) = f90_l10 fuel (t 0) (t 1) (t 5) (t 6) (t 7) (t 8) (t 9) :=
  dloop_eq (c := (c1 (c1 (c2 (c1 (c2 (c2 (c2 (c2 B90))))))))) (g := fun n t => f90_l10 n (t 0) (t 1) (t 5) (t 6) (t 7) (t 8) (t 9)) (fun _ => rfl) (fun n t => f90_b10_eq (f90_l10 n) t)
noncomputable def f90_9 (x0 x1 x5 x6 x7 x8 x9 : AV) : M AV :=
 f90_l10 fuel x0 x1 x5 x6 x7 x8 x9
theorem f90_9_eq (t : Tmps) : dcode E90 81 (c2 (c1 (c2 (c2 (c2 (c2 B90)))))) t (kJ (fun t => f90_4 (t 0) (t 1) (t 5) (t 6) (t 7) (t 8)) K90) = f90_9 (t 0) (t 1) (t 5) (t 6) (t 7) (t 8) (t 9) := (f90_l10_eq _)
noncomputable def f90_3 (x0 x1 x5 x6 x7 x8 : AV) : M AV :=
 f90_9 x0 x1 x5 x6 x7 x8 (.int .i64 0)
theorem f90_3_eq (t : Tmps) : dcode E90 81 (c2 (c2 (c2 (c2 B90)))) t K90 = f90_3 (t 0) (t 1) (t 5) (t 6) (t 7) (t 8) := (seq_eq (a := (c1 (c2 (c2 (c2 (c2 B90)))))) (b := (c2 (c2 (c2 (c2 (c2 B90)))))) (fun t => f90_4_eq t) (seq_eq (a := (c1 (c1 (c2 (c2 (c2 (c2 B90))))))) (b := (c2 (c1 (c2 (c2 (c2 (c2 B90))))))) (fun t => f90_9_eq t) (by kernel_rfl)))
noncomputable def f90_2 (x0 x1 x5 x6 x7 : AV) : M AV :=
 f90_3 x0 x1 x5 x6 x7 (.int .u32 0)
theorem f90_2_eq (t : Tmps) : dcode E90 81 (c2 (c2 (c2 B90))) t K90 = f90_2 (t 0) (t 1) (t 5) (t 6) (t 7) := (seq_eq (a := (c1 (c2 (c2 (c2 B90))))) (b := (c2 (c2 (c2 (c2 B90))))) (fun t => f90_3_eq t) (by kernel_rfl))
noncomputable def f90_1 (x0 x1 x5 x6 : AV) : M AV :=
 bd (lnS x1) fun v1 =>
 f90_2 x0 x1 x5 x6 v1
theorem f90_1_eq (t : Tmps) : dcode E90 81 (c2 (c2 B90)) t K90 = f90_1 (t 0) (t 1) (t 5) (t 6) := (seq_eq (a := (c1 (c2 (c2 B90)))) (b := (c2 (c2 (c2 B90)))) (fun t => f90_2_eq t) (by kernel_rfl))
noncomputable def f90_0 (x0 x1 : AV) : M AV :=
 bd (f99 x1) fun v1 =>
 bd (ex v1 0) fun v2 =>
 bd (ex v1 1) fun v3 =>
 f90_1 x0 x1 v2 v3
theorem f90_0_eq (t : Tmps) : dcode E90 81 (c2 B90) t K90 = f90_0 (t 0) (t 1) := (seq_eq (a := (c1 (c2 B90))) (b := (c2 (c2 B90))) (fun t => f90_1_eq t) (by kernel_rfl))
noncomputable def f90 (x0 x1 : AV) : M AV :=
 f90_0 x0 x1
theorem f90_top (t : Tmps) : dcode E90 81 B90 t K90 = f90 (t 0) (t 1) := (seq_eq (a := (c1 B90)) (b := (c2 B90)) (fun t => f90_0_eq t) (by kernel_rfl))
theorem f90_eq (x0 x1 : AV) : dfn E90 Go.Proofs.Tryd.f90 [x0, x1] = f90 x0 x1 := dfn_eq (c := B90) (nt := 81) (K := K90) (by kernel_rfl) (by kernel_rfl) rfl (by kernel_rfl) (f90_top (argT [x0, x1]))
theorem O90 : EnvOK E90 := ⟨fun g xs => (ok_if (S99 xs) ok_fail), ap_fail⟩
theorem S90 (xs : List AV) : CallOK Go.Proofs.Tryd.prog 3 90 xs (L2 f90 xs) := ok_L2 (fun x0 x1 => ok_fn (E := E90) (fn := Go.Proofs.Tryd.f90) O90 rfl rfl (by kernel_rfl) (by kernel_rfl) (f90_eq x0 x1)) xs

/-! ### strings.splitSeq$1: function 91 -/
noncomputable def C91 (ap : FuncId → List AV → M AV) (g : FuncId) (xs : List AV) : M AV := bif Nat.beq g 65 then L2 f65 xs else bif Nat.beq g 92 then L1 f92 xs else fail
noncomputable def E91 (ap : FuncId → List AV → M AV) : Env := ⟨Go.Proofs.Tryd.prog, 3, C91 ap, ap, fun _ => [], 91, none⟩
noncomputable def B91 : Code := bodyOf Go.Proofs.Tryd.f91
noncomputable def K91 : KT := dK Go.Proofs.Tryd.prog Go.Proofs.Tryd.f91.results.toList
noncomputable def f91_1 (ap : FuncId → List AV → M AV) (x0 x2 : AV) : M AV :=
 bd (ld x2) fun v1 =>
 bd (apv ap x0 [v1]) fun v2 =>
 ret (.tuple [])
theorem f91_1_eq (ap : FuncId → List AV → M AV) (t : Tmps) : dcode (E91 ap) 52 (c2 (c2 B91)) t K91 = f91_1 ap (t 0) (t 2) := by kernel_rfl
noncomputable def f91_b2 (ap : FuncId → List AV → M AV) (L2 : AV → AV → AV → AV → M AV) (x0 x1 x2 x3 : AV) : M AV :=
 bd (ld x2) fun v1 =>
 bd (ld x1) fun v2 =>
 bd (f65 v1 v2) fun v3 =>
 bd (bi .lss v3 (.int .i64 0)) fun v4 =>
 cnd v4 (
 f91_1 ap x0 x2) (
 bd (ld x2) fun v5 =>
 bd (ld x3) fun v6 =>
 bd (bi .add v3 v6) fun v7 =>
 bd (ss v5 none (some v7)) fun v8 =>
 bd (apv ap x0 [v8]) fun v9 =>
 bd (un .not v9) fun v10 =>
 cnd v10 (
 ret (.tuple [])) (
 bd (ld x2) fun v11 =>
 bd (ld x1) fun v12 =>
 bd (lnS v12) fun v13 =>
 bd (bi .add v3 v13) fun v14 =>
 bd (ss v11 (some v14) none) fun v15 =>
 bd (st x2 v15) fun _ =>
 L2 x0 x1 x2 x3))
theorem f91_b2_eq (ap : FuncId → List AV → M AV) (L2 : AV → AV → AV → AV → M AV) (t : Tmps) : dcode (E91 ap) 52 (c1 (c1 (c1 (c2 B91)))) t (kJ (fun t => L2 (t 0) (t 1) (t 2) (t 3)) (kB 2 (kJ (fun t => f91_1 ap (t 0) (t 2)) K91))) = f91_b2 ap L2 (t 0) (t 1) (t 2) (t 3) := by kernel_rfl
noncomputable def f91_l2 (ap : FuncId → List AV → M AV) : Nat → AV → AV → AV → AV → M AV
  | 0, _, _, _, _ => fail
  | n + 1, x0, x1, x2, x3 => f91_b2 ap (f91_l2 ap n) x0 x1 x2 x3
theorem f91_l2_eq (ap : FuncId → List AV → M AV) (t : Tmps) : dcode (E91 ap) 52 (c1 (c1 (c2 B91))) t (kB 2 (kJ (fun t => f91_1 ap (t 0) (t 2)) K91)) = f91_l2 ap fuel (t 0) (t 1) (t 2) (t 3) :=
  dloop_eq (c := (c1 (c1 (c1 (c2 B91))))) (g := fun n t => f91_l2 ap n (t 0) (t 1) (t 2) (t 3)) (fun _ => rfl) (fun n t => f91_b2_eq ap (f91_l2 ap n) t)
noncomputable def f91_0 (ap : FuncId → List AV → M AV) (x0 x1 x2 x3 : AV) : M AV :=
 f91_l2 ap fuel x0 x1 x2 x3
theorem f91_0_eq (ap : FuncId → List AV → M AV) (t : Tmps) : dcode (E91 ap) 52 (c2 B91) t K91 = f91_0 ap (t 0) (t 1) (t 2) (t 3) := (seq_eq (a := (c1 (c2 B91))) (b := (c2 (c2 B91))) (fun t => f91_1_eq ap t) (f91_l2_eq ap _))
noncomputable def f91_4 (ap : FuncId → List AV → M AV) : M AV :=
 ret (.tuple [])
theorem f91_4_eq (ap : FuncId → List AV → M AV) (t : Tmps) : dcode (E91 ap) 52 (c2 (c1 (c2 (c1 B91)))) t (kJ (fun t => f91_0 ap (t 0) (t 1) (t 2) (t 3)) K91) = f91_4 ap := by kernel_rfl
noncomputable def f91_b5 (ap : FuncId → List AV → M AV) (L5 : AV → AV → M AV) (x0 x2 : AV) : M AV :=
 bd (ld x2) fun v1 =>
 bd (lnS v1) fun v2 =>
 bd (bi .gtr v2 (.int .i64 0)) fun v3 =>
 cnd v3 (
 bd (ld x2) fun v4 =>
 bd (f92 v4) fun v5 =>
 bd (ex v5 0) fun v6 =>
 bd (ex v5 1) fun v7 =>
 bd (ld x2) fun v8 =>
 bd (ss v8 none (some v7)) fun v9 =>
 bd (apv ap x0 [v9]) fun v10 =>
 bd (un .not v10) fun v11 =>
 cnd v11 (
 ret (.tuple [])) (
 bd (ld x2) fun v12 =>
 bd (ss v12 (some v7) none) fun v13 =>
 bd (st x2 v13) fun _ =>
 L5 x0 x2)) (
 f91_4 ap)
theorem f91_b5_eq (ap : FuncId → List AV → M AV) (L5 : AV → AV → M AV) (t : Tmps) : dcode (E91 ap) 52 (c1 (c1 (c1 (c1 (c2 (c1 B91)))))) t (kJ (fun t => L5 (t 0) (t 2)) (kB 0 (kJ (fun t => f91_4 ap) (kJ (fun t => f91_0 ap (t 0) (t 1) (t 2) (t 3)) K91)))) = f91_b5 ap L5 (t 0) (t 2) := by kernel_rfl
noncomputable def f91_l5 (ap : FuncId → List AV → M AV) : Nat → AV → AV → M AV
  | 0, _, _ => fail
  | n + 1, x0, x2 => f91_b5 ap (f91_l5 ap n) x0 x2
theorem f91_l5_eq (ap : FuncId → List AV → M AV) (t : Tmps) : dcode (E91 ap) 52 (c1 (c1 (c1 (c2 (c1 B91))))) t (kB 0 (kJ (fun t => f91_4 ap) (kJ (fun t => f91_0 ap (t 0) (t 1) (t 2) (t 3)) K91))) = f91_l5 ap fuel (t 0) (t 2) :=
  dloop_eq (c := (c1 (c1 (c1 (c1 (c2 (c1 B91))))))) (g := fun n t => f91_l5 ap n (t 0) (t 2)) (fun _ => rfl) (fun n t => f91_b5_eq ap (f91_l5 ap n) t)
noncomputable def f91_3 (ap : FuncId → List AV → M AV) (x0 x1 x2 x3 x11 : AV) : M AV :=
 cnd x11 (
 f91_l5 ap fuel x0 x2) (
 f91_0 ap x0 x1 x2 x3)
theorem f91_3_eq (ap : FuncId → List AV → M AV) (t : Tmps) : dcode (E91 ap) 52 (c2 (c1 B91)) t (kJ (fun t => f91_0 ap (t 0) (t 1) (t 2) (t 3)) K91) = f91_3 ap (t 0) (t 1) (t 2) (t 3) (t 11) := (cond_eq (a := c1 (c2 (c1 B91))) (b := c2 (c2 (c1 B91))) (seq_eq (a := (c1 (c1 (c2 (c1 B91))))) (b := (c2 (c1 (c2 (c1 B91))))) (fun t => f91_4_eq ap t) (f91_l5_eq ap _)) (by kernel_rfl))
noncomputable def f91 (ap : FuncId → List AV → M AV) (x0 x1 x2 x3 : AV) : M AV :=
 bd (ld x1) fun v1 =>
 bd (lnS v1) fun v2 =>
 bd (bi .eql v2 (.int .i64 0)) fun v3 =>
 f91_3 ap x0 x1 x2 x3 v3
theorem f91_top (ap : FuncId → List AV → M AV) (t : Tmps) : dcode (E91 ap) 52 B91 t K91 = f91 ap (t 0) (t 1) (t 2) (t 3) := (seq_eq (a := (c1 B91)) (b := (c2 B91)) (fun t => f91_0_eq ap t) (seq_eq (a := (c1 (c1 B91))) (b := (c2 (c1 B91))) (fun t => f91_3_eq ap t) (by kernel_rfl)))
theorem f91_eq (ap : FuncId → List AV → M AV) (x0 x1 x2 x3 : AV) : dfn (E91 ap) Go.Proofs.Tryd.f91 [x0, x1, x2, x3] = f91 ap x0 x1 x2 x3 := dfn_eq (c := B91) (nt := 52) (K := K91) (by kernel_rfl) (by kernel_rfl) rfl (by kernel_rfl) (f91_top ap (argT [x0, x1, x2, x3]))
theorem O91 (ap : FuncId → List AV → M AV) (hap : ApOK Go.Proofs.Tryd.prog 3 ap) : EnvOK (E91 ap) := ⟨fun g xs => (ok_if (S65 xs) (ok_if (S92 xs) ok_fail)), hap⟩
theorem S91 (ap : FuncId → List AV → M AV) (hap : ApOK Go.Proofs.Tryd.prog 3 ap) (xs : List AV) : CallOK Go.Proofs.Tryd.prog 3 91 xs (L4 (f91 ap) xs) := ok_L4 (fun x0 x1 x2 x3 => ok_fn (E := (E91 ap)) (fn := Go.Proofs.Tryd.f91) (O91 ap hap) rfl rfl (by kernel_rfl) (by kernel_rfl) (f91_eq ap x0 x1 x2 x3)) xs

/-! ### gosem.cut.vars: function 123 -/
noncomputable def C123 (g : FuncId) (xs : List AV) : M AV := fail
noncomputable def E123 : Env := ⟨Go.Proofs.Tryd.prog, 3, C123, fun _ _ => fail, fun _ => [], 123, none⟩
noncomputable def B123 : Code := bodyOf Go.Proofs.Tryd.f123
noncomputable def K123 : KT := dK Go.Proofs.Tryd.prog Go.Proofs.Tryd.f123.results.toList
noncomputable def f123 : M AV :=
 bd (bu [(.int .u8 0), (.int .u8 0)] [(0, 1, (.int .u8 128)), (1, 1, (.int .u8 191))]) fun v1 =>
 bd (bu [(.int .u8 0), (.int .u8 0)] [(0, 1, (.int .u8 160)), (1, 1, (.int .u8 191))]) fun v2 =>
 bd (bu [(.int .u8 0), (.int .u8 0)] [(0, 1, (.int .u8 128)), (1, 1, (.int .u8 159))]) fun v3 =>
 bd (bu [(.int .u8 0), (.int .u8 0)] [(0, 1, (.int .u8 144)), (1, 1, (.int .u8 191))]) fun v4 =>
 bd (bu [(.int .u8 0), (.int .u8 0)] [(0, 1, (.int .u8 128)), (1, 1, (.int .u8 143))]) fun v5 =>
 bd (bu (rep [(.int .u8 0)] 32) [(0, 2, v1), (2, 2, v2), (4, 2, v3), (6, 2, v4), (8, 2, v5)]) fun v6 =>
 bd (sta 32 (.ptr (some (2, 0))) v6) fun _ =>
 ret (.tuple [])
theorem f123_eq : dfn E123 Go.Proofs.Tryd.f123 [] = f123 := dfn_eq (c := B123) (nt := 6) (K := K123) (by kernel_rfl) (by kernel_rfl) rfl (by kernel_rfl) (by kernel_rfl)
theorem O123 : EnvOK E123 := ⟨fun g xs => ok_fail, ap_fail⟩
theorem S123 (xs : List AV) : CallOK Go.Proofs.Tryd.prog 3 123 xs (L0 f123 xs) := ok_L0 (ok_fn (E := E123) (fn := Go.Proofs.Tryd.f123) O123 rfl rfl (by kernel_rfl) (by kernel_rfl) f123_eq) xs

/-! ### Function values -/
noncomputable def tabF (ap : FuncId → List AV → M AV) (g : FuncId) (xs : List AV) : M AV := bif Nat.beq g 29 then L3 f29 xs else bif Nat.beq g 53 then L1 f53 xs else bif Nat.beq g 54 then L2 (f54 ap) xs else bif Nat.beq g 91 then L4 (f91 ap) xs else fail
noncomputable def tabE (ap : FuncId → List AV → M AV) (fn : Nat) : Option Env := bif Nat.beq fn 35 then some (E35 ap) else none
noncomputable def apN : Nat → FuncId → List AV → M AV
  | 0 => fun _ _ => fail
  | d + 1 => apTab (tabF (apN d)) (tabE (apN d))
theorem apN_ok : ∀ d, ApOK Go.Proofs.Tryd.prog 3 (apN d)
  | 0 => ap_fail
  | d + 1 => by
    have hap := apN_ok d
    unfold apN
    generalize apN d = ap at hap
    exact ap_tab (fun g xs => (ok_if (S29 xs) (ok_if (S53 xs) (ok_if (S54 ap hap xs) (ok_if (S91 ap hap xs) ok_fail))))) (fun fn E => (es_if (O35 ap hap) rfl rfl rfl (es_none fn E)))
end Go.Proofs.YtgljgjnhagidnaaDoor.Den
