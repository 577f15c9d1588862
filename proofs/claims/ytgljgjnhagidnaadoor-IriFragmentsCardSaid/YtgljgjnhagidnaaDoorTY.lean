/- The law IriFragments. -/
import Derived.Test.YtgljgjnhagidnaaDoorTR
import Derived.Test.YtgljgjnhagidnaaDoorTU
import Derived.Test.YtgljgjnhagidnaaDoorDen05
namespace Go.Proofs.YtgljgjnhagidnaaDoor.Den
open Go Go.Dn Go.Dn.M Go.Dn.Pl
set_option maxRecDepth 100000
set_option linter.unusedVariables false
set_option linter.unusedSimpArgs false

theorem iriFragments_eq (m : Int) (src s f : List UInt8) : Ev (f7 (apN 6) (.str src) (.str s) (.str f)) (heapA (G0 m)) 3 fun v H' n' => v = .bool true := by
  unfold f7
  have ho : Ok (G0 m) (heapA (G0 m)) 3 := heapA_ok (G0 m)
  refine .bd ((alive0_ev m).mono fun v H1 n1 ⟨e1, f1⟩ => ?_)
  subst e1
  have ho1 := ho.fr f1
  simp only [un_not, Bool.not_true, bd_ret, cnd_false, lnS_str, bi_gtr]
  by_cases g1 : (500 : Int) < (src.length : Int)
  · simp [g1]
  by_cases g2 : (300 : Int) < (s.length : Int)
  · simp [g1, g2]
  by_cases g3 : (300 : Int) < (f.length : Int)
  · simp [g1, g2, g3]
  simp only [g1, g2, g3, decide_false, gd_bool, pk_bool, if_true, Bool.false_eq_true, if_false, bd_ret, lnS_str, bi_gtr, cnd_false]
  refine (iriCut_eq _ (G0_max m) 4 s).call ho1 fun H2 n2 f2 => ?_
  simp only [ex_0, ex_1, bd_ret]
  refine Lc.start (ho1.fr f2) _ rfl fun l => ?_
  refine l.sta 9 _ rfl rfl rfl fun H3 l => ?_
  rw [bis_add _ _ (by simp; omega), bd_ret, show ([35] ++ f) = 35 :: f from rfl]
  refine l.call (iriCut_eq _ (G0_max m) 4 (35 :: f)) fun H4 n4 l => ?_
  simp only [ex_0, ex_1, bd_ret]
  refine l.more _ _ rfl fun H5 l => ?_
  refine l.sta 9 _ rfl rfl rfl fun H6 l => ?_
  simp only [un_not, bd_ret]
  have frag := fragments src s f (by omega) (by omega)
  cases c1 : (iriCut s).2 with
  | false =>
    simp only [Bool.not_false, gd_bool, Bool.true_eq_false, if_false, bd_ret, gd_tuple, pk_bool, if_true, cnd_true, Ev_ret]
  | true =>
    simp only [Bool.not_true, gd_bool, if_true, bd_ret, un_not, pk_bool, Bool.false_eq_true, if_false]
    cases c2 : (iriCut (35 :: f)).2 with
    | false =>
      simp only [Bool.not_false, gd_bool, Bool.true_eq_false, if_false, bd_ret, gd_tuple, pk_bool, if_true, cnd_true, Ev_ret]
    | true =>
      specialize frag c1 c2
      have hle := iriCut_le (35 :: f)
      generalize (iriCut s).1 = p at l frag
      generalize (iriCut (35 :: f)).1 = q at l frag hle
      simp only [Bool.not_true, gd_bool, if_true, fa_ptr, bd_ret]
      refine l.ld' _ 8 List.mem_cons_self rfl ?_
      simp only [pk_bool, Bool.false_eq_true, if_false, bd_ret]
      cases c3 : p.hf with
      | true =>
        simp only [gd_bool, Bool.true_eq_false, if_false, bd_ret, gd_tuple, pk_bool, if_true, cnd_true, Ev_ret]
      | false =>
        simp only [gd_bool, if_true, fa_ptr, bd_ret]
        refine l.ld' _ 7 List.mem_cons_self rfl ?_
        simp only [pk_bool, Bool.false_eq_true, if_false, bd_ret]
        cases c4 : p.hq with
        | true =>
          simp only [cnd_true, Ev_ret]
        | false =>
          obtain ⟨z1, z2, z3, z4, z5, z6⟩ := frag c3 c4
          simp only [cnd_false]
          refine l.call (iriTarget_eq _ (G0_max m) 4 src s (by omega)) fun H7 n7 l => ?_
          simp only [ex_0, ex_1, ex_2, bd_ret]
          rw [bis_add _ _ (by simp; omega), bd_ret]
          try simp only [fa_ptr, bd_ret]
          refine l.ld 4 rfl ?_
          rw [z1] at hle ⊢
          rw [bis_add _ _ (by simp; omega), bd_ret, show s ++ [35] ++ f = s ++ 35 :: f by simp]
          refine l.call (iriTarget_eq _ (G0_max m) 4 src (s ++ 35 :: f) (by omega)) fun H8 n8 l => ?_
          simp only [ex_0, ex_1, ex_2, bd_ret]
          rw [bis_add _ _ (by simp; omega), bd_ret]
          refine l.call (iriTarget_eq _ (G0_max m) 4 src (s ++ [63, 120]) (by omega)) fun H9 n9 l => ?_
          simp only [ex_0, ex_1, ex_2, bd_ret]
          simp only [bis_eql, bi_eql, bi_neq, bd_ret, z2, z3, z4, decide_true, gd_bool, if_true, pk_bool]
          by_cases h0 : (iriTarget src (s ++ 35 :: f)).2.2 = 0
          · have h0' : ((iriTarget src (s ++ 35 :: f)).2.2 ≠ 0) = False := eq_false (fun e => e h0)
            have z5' := z5 (by rw [z3]; exact h0)
            simp only [h0', decide_false, gd_bool, if_true, fa_ptr, bd_ret]
            refine l.ld 4 rfl ?_
            rw [z1, z5']
            simp [z6]
          · have h0' : ((iriTarget src (s ++ 35 :: f)).2.2 ≠ 0) = True := eq_true h0
            simp [h0', z6]
end Go.Proofs.YtgljgjnhagidnaaDoor.Den
