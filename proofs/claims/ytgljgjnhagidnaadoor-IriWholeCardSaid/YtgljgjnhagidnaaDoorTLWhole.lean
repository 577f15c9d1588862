/- The law IriWhole. -/
import Derived.Test.YtgljgjnhagidnaaDoorTR
import Derived.Test.YtgljgjnhagidnaaDoorTS
import Derived.Test.YtgljgjnhagidnaaDoorTU
namespace Go.Proofs.YtgljgjnhagidnaaDoor.Den
open Go Go.Dn Go.Dn.M Go.Dn.Pl
set_option maxRecDepth 100000
set_option linter.unusedVariables false
set_option linter.unusedSimpArgs false

theorem ne47 {c : UInt8} (h : ¬ c = 47) : ¬ c.toNat = 47 := fun e => h (UInt8.toNat_inj.1 e)
theorem iriWhole_eq (m : Int) (a b s : List UInt8) : Ev (f6 (apN 6) (.str a) (.str b) (.str s)) (heapA (G0 m)) 3 fun v H' n' => v = .bool true := by
  unfold f6
  have ho : Ok (G0 m) (heapA (G0 m)) 3 := heapA_ok (G0 m)
  refine .bd ((alive0_ev m).mono fun v H1 n1 ⟨e1, f1⟩ => ?_)
  subst e1
  have ho1 := ho.fr f1
  simp only [un_not, Bool.not_true, bd_ret, cnd_false, lnS_str, bi_gtr]
  by_cases g1 : (1000 : Int) < (a.length : Int)
  · simp [g1]
  by_cases g2 : (1000 : Int) < (b.length : Int)
  · simp [g1, g2]
  by_cases g3 : (1000 : Int) < (s.length : Int)
  · simp [g1, g2, g3]
  simp only [g1, g2, g3, decide_false, gd_bool, pk_bool, if_true, Bool.false_eq_true, if_false, bd_ret, lnS_str, bi_gtr, bis_eql]
  cases a with
  | nil => simp
  | cons ca ra =>
  cases b with
  | nil => simp
  | cons cb rb =>
  have n1 : (ca :: ra = ([] : List UInt8)) = False := eq_false (by simp)
  have n2 : (cb :: rb = ([] : List UInt8)) = False := eq_false (by simp)
  have ea : ixs (.str (ca :: ra)) (.int .i64 0) = M.ret (.int .u8 (ca.toNat : Int)) := rfl
  have eb : ixs (.str (cb :: rb)) (.int .i64 0) = M.ret (.int .u8 (cb.toNat : Int)) := rfl
  simp only [n1, n2, decide_false, if_true, bd_ret, pk_bool, Bool.false_eq_true, if_false, gd_bool, bis_eql, ea, eb, bi_neq]
  by_cases ha : ca = 47
  case neg => simp [ne47 ha]
  by_cases hb : cb = 47
  case neg => subst ha; simp [ne47 hb]
  subst ha hb
  have z47 : decide (((47 : UInt8).toNat : Int) ≠ 47) = false := rfl
  simp only [z47, if_true, bd_ret, pk_bool, Bool.false_eq_true, if_false, gd_bool, bi_neq, eb, lnS_str, bi_lss]
  cases s with
  | nil => simp
  | cons cs rs =>
  have n3 : (((cs :: rs).length : Int) < 1) = False := eq_false (by simp; omega)
  have es : ixs (.str (cs :: rs)) (.int .i64 0) = M.ret (.int .u8 (cs.toNat : Int)) := rfl
  simp only [n3, decide_false, if_true, bd_ret, pk_bool, Bool.false_eq_true, if_false, gd_bool, es, bi_neq]
  by_cases hs : cs = 47
  case neg => simp [ne47 hs]
  subst hs
  simp only [z47, cnd_false]
  refine (iriTarget_eq _ (G0_max m) 4 (47 :: ra) (47 :: rs) (by omega)).call ho1 fun H2 n2 f2 => ?_
  have ho2 := ho1.fr f2
  simp only [ex_0, ex_1, ex_2, bd_ret]
  refine (iriTarget_eq _ (G0_max m) 4 (47 :: rb) (47 :: rs) (by omega)).call ho2 fun H3 n3 f3 => ?_
  have ho3 := ho2.fr f3
  rw [whole1 ra rb rs]
  simp only [ex_0, ex_1, ex_2, bd_ret, bis_neq, bi_neq, ne_eq, not_true_eq_false, decide_false, gd_bool, pk_bool, if_true, Bool.false_eq_true, if_false, cnd_false]
  rw [rRight_eq, bd_ret]
  cases hn : nameB (47 :: ra) with
  | false => simp
  | true =>
    obtain ⟨w1, w2⟩ := whole2 hn
    simp only [un_not, Bool.not_true, bd_ret, cnd_false]
    refine (iriTarget_eq _ (G0_max m) 4 (47 :: ra) [35, 102] (by omega)).call ho3 fun H4 n4 f4 => ?_
    have ho4 := ho3.fr f4
    simp only [ex_0, ex_1, ex_2, bd_ret]
    refine (pNormal_eq _ (G0_max m) 4 (47 :: ra) (by omega)).call ho4 fun H5 n5 f5 => ?_
    rw [w2, w1]
    simp
end Go.Proofs.YtgljgjnhagidnaaDoor.Den
