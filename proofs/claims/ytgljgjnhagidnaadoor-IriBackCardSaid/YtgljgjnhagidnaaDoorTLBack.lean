/- The law IriBack. -/
import Derived.Test.YtgljgjnhagidnaaDoorTR
import Derived.Test.YtgljgjnhagidnaaDoorTS
import Derived.Test.YtgljgjnhagidnaaDoorTAS
import Derived.Test.YtgljgjnhagidnaaDoorTU
import Derived.Test.YtgljgjnhagidnaaDoorDen05
namespace Go.Proofs.YtgljgjnhagidnaaDoor.Den
open Go Go.Dn Go.Dn.M Go.Dn.Pl
set_option maxRecDepth 100000
set_option linter.unusedVariables false
set_option linter.unusedSimpArgs false

theorem relB_no {source name : List UInt8} (h : ((decide (source = [47]) || nameB source) && nameB name) = false) : relB source name = [] := by
  unfold relB; rw [h]; rfl
theorem iriBack_eq (m : Int) (source name : List UInt8) : Ev (f4 (apN 6) (.str source) (.str name)) (heapA (G0 m)) 3 fun v H' n' => v = .bool true := by
  unfold f4
  have ho : Ok (G0 m) (heapA (G0 m)) 3 := heapA_ok (G0 m)
  refine .bd ((alive0_ev m).mono fun v H1 n1 ⟨e1, f1⟩ => ?_)
  subst e1
  have ho1 := ho.fr f1
  simp only [un_not, Bool.not_true, bd_ret, cnd_false, bis_neq]
  have no : ((decide (source = [47]) || nameB source) && nameB name) = false → Ev (M.bd (f15 (apN 6) (.str source) (.str name)) fun v12 => M.bd (bi .eql v12 (.str [])) fun v13 => M.ret v13) H1 n1 fun v H' n' => v = .bool true := by
    intro h
    refine (iriRelative_eq _ (G0_max m) source name).call ho1 fun H2 n2 f2 => ?_
    rw [relB_no h]
    simp
  have yes : (source = [47] ∨ nameB source = true) → nameB name = true → ∀ k : M AV, Ev (cnd (.bool false) k (M.bd (f15 (apN 6) (.str source) (.str name)) fun v14 => M.bd (f9 (apN 6) v14) fun v15 => M.bd (ex v15 0) fun v16 => M.bd (ex v15 1) fun v17 => M.bd (bx 23 (.agg [(.str []), (.str []), (.str []), (.str []), (.str []), (.bool false), (.bool false), (.bool false), (.bool false)])) fun v18 => M.bd (sta 9 v18 v16) fun _ => M.bd (f16 (apN 6) (.str source) v14) fun v19 => M.bd (ex v19 0) fun v20 => M.bd (ex v19 1) fun v21 => M.bd (ex v19 2) fun v22 => M.bd (f17 (apN 6) (.str name)) fun v23 => M.bd (ex v23 0) fun v24 => M.bd (ex v23 1) fun v25 => M.bd (f16 (apN 6) (.str source) (.str name)) fun v26 => M.bd (ex v26 0) fun v27 => M.bd (ex v26 1) fun v28 => M.bd (ex v26 2) fun v29 => M.bd (gd v17 true (M.ret v25)) fun v30 => M.bd (pk v17 v30 (.bool false)) fun v31 => M.bd (gd v31 true (M.ret v22)) fun v32 => M.bd (gd v31 true (bi .eql v32 (.int .i64 0))) fun v33 => M.bd (pk v31 v33 (.bool false)) fun v34 => M.bd (gd v34 true (M.ret v20)) fun v35 => M.bd (gd v34 true (M.ret v24)) fun v36 => M.bd (gd v34 true (bi .eql v35 v36)) fun v37 => M.bd (pk v34 v37 (.bool false)) fun v38 => M.bd (gd v38 true (M.ret v21)) fun v39 => M.bd (gd v38 true (bi .eql v39 (.str []))) fun v40 => M.bd (pk v38 v40 (.bool false)) fun v41 => M.bd (gd v41 true (fa v18 5)) fun v42 => M.bd (gd v41 true (ld v42)) fun v43 => M.bd (gd v41 true (un .not v43)) fun v44 => M.bd (pk v41 v44 (.bool false)) fun v45 => M.bd (gd v45 true (fa v18 6)) fun v46 => M.bd (gd v45 true (ld v46)) fun v47 => M.bd (gd v45 true (un .not v47)) fun v48 => M.bd (pk v45 v48 (.bool false)) fun v49 => M.bd (gd v49 true (fa v18 7)) fun v50 => M.bd (gd v49 true (ld v50)) fun v51 => M.bd (gd v49 true (un .not v51)) fun v52 => M.bd (pk v49 v52 (.bool false)) fun v53 => M.bd (gd v53 true (fa v18 8)) fun v54 => M.bd (gd v53 true (ld v54)) fun v55 => M.bd (gd v53 true (un .not v55)) fun v56 => M.bd (pk v53 v56 (.bool false)) fun v57 => M.bd (gd v57 true (M.ret v14)) fun v58 => M.bd (gd v57 true (bi .neq v58 (.str []))) fun v59 => M.bd (pk v57 v59 (.bool false)) fun v60 => M.bd (gd v60 true (M.ret v29)) fun v61 => M.bd (gd v60 true (bi .eql v61 (.int .i64 0))) fun v62 => M.bd (pk v60 v62 (.bool false)) fun v63 => M.bd (gd v63 true (M.ret v27)) fun v64 => M.bd (gd v63 true (M.ret v24)) fun v65 => M.bd (gd v63 true (bi .eql v64 v65)) fun v66 => M.bd (pk v63 v66 (.bool false)) fun v67 => M.ret v67)) H1 n1 fun v H' n' => v = .bool true := by
    intro hs hn k
    obtain ⟨b1, b2, b3, b4, b5⟩ := back hs hn
    have hl : source.length ≤ 10000000 := by
      rcases hs with h | h
      · rw [h]; simp
      · have := nameB_len h; omega
    have hl2 := nameB_len hn
    simp only [cnd_false]
    refine (iriRelative_eq _ (G0_max m) source name).call ho1 fun H2 n2 f2 => ?_
    have ho2 := ho1.fr f2
    refine (iriCut_eq _ (G0_max m) 4 (relB source name)).call ho2 fun H3 n3 f3 => ?_
    have ho3 := ho2.fr f3
    rw [b1]
    simp only [ex_0, ex_1, bd_ret]
    refine Lc.start ho3 _ rfl fun l => ?_
    refine l.sta 9 _ rfl rfl rfl fun H4 l => ?_
    refine l.call (iriTarget_eq _ (G0_max m) 4 source (relB source name) hl) fun H5 n5 l => ?_
    simp only [ex_0, ex_1, ex_2, bd_ret]
    refine l.call (pNormal_eq _ (G0_max m) 4 name (by omega)) fun H6 n6 l => ?_
    simp only [ex_0, ex_1, bd_ret]
    refine l.call (iriTarget_eq _ (G0_max m) 4 source name hl) fun H7 n7 l => ?_
    simp only [ex_0, ex_1, ex_2, bd_ret, b3, b4, b5, gd_bool, if_true, pk_bool, bi_eql, bis_eql, decide_true, fa_ptr]
    refine l.ld 5 rfl ?_
    simp only [un_not, bd_ret, Bool.not_false, pk_bool, if_true, gd_bool, fa_ptr]
    refine l.ld 6 rfl ?_
    simp only [un_not, bd_ret, Bool.not_false, pk_bool, if_true, gd_bool, fa_ptr]
    refine l.ld 7 rfl ?_
    simp only [un_not, bd_ret, Bool.not_false, pk_bool, if_true, gd_bool, fa_ptr]
    refine l.ld 8 rfl ?_
    have hne : (relB source name ≠ []) = True := eq_true b2
    simp [b2]
  by_cases h1 : source = [47]
  · have c1 : (source ≠ [47]) = False := eq_false (fun h => h h1)
    simp only [c1, decide_false, gd_bool, Bool.false_eq_true, if_false, bd_ret, gd_tuple, pk_bool, if_true]
    rw [rRight_eq, bd_ret]
    cases hn : nameB name with
    | false =>
      simp only [un_not, Bool.not_false, bd_ret, pk_bool, Bool.false_eq_true, if_false, cnd_true]
      exact no (by rw [hn]; simp)
    | true =>
      simp only [un_not, Bool.not_true, bd_ret, pk_bool, Bool.false_eq_true, if_false]
      exact yes (.inl h1) hn _
  · have c1 : (source ≠ [47]) = True := eq_true h1
    simp only [c1, decide_true, gd_bool, if_true, bd_ret]
    rw [rRight_eq, bd_ret]
    cases hs : nameB source with
    | false =>
      simp only [un_not, Bool.not_false, bd_ret, pk_bool, if_true, gd_bool, Bool.true_eq_false, if_false, gd_tuple, cnd_true]
      exact no (by rw [hs, decide_eq_false h1]; rfl)
    | true =>
      simp only [un_not, Bool.not_true, bd_ret, pk_bool, if_true, gd_bool, if_false]
      rw [rRight_eq, bd_ret]
      cases hn : nameB name with
      | false =>
        simp only [un_not, Bool.not_false, bd_ret, pk_bool, Bool.false_eq_true, if_false, cnd_true]
        exact no (by rw [hn]; simp)
      | true =>
        simp only [un_not, Bool.not_true, bd_ret, pk_bool, Bool.false_eq_true, if_false]
        exact yes (.inr hs) hn _
end Go.Proofs.YtgljgjnhagidnaaDoor.Den
