/- The law IriDots. -/
import Derived.Test.YtgljgjnhagidnaaDoorTR
import Derived.Test.YtgljgjnhagidnaaDoorTV
import Derived.Test.YtgljgjnhagidnaaDoorTG
import Derived.Test.YtgljgjnhagidnaaDoorTU
namespace Go.Proofs.YtgljgjnhagidnaaDoor.Den
open Go Go.Dn Go.Dn.M Go.Dn.Pl
set_option maxRecDepth 100000
set_option linter.unusedVariables false
set_option linter.unusedSimpArgs false

section
variable {gs : List AObj} {m0 i : Nat} {H0 : Heap} {p : Pc}
theorem dots_last (hm : MaxIs gs) {x q : List UInt8} (hpa : p.pa = 47 :: x) (hq : dotsP q = 47 :: x) (h63 : has 63 (47 :: x) = false) (h35 : has 35 (47 :: x) = false) {H : Heap} {n : Nat} (l : Lc gs m0 H0 i p.av 23 [] H n) :
    Ev (f5_7 (apN 6) (.ptr (some (i, 0)))) H n fun v H' n' => v = .bool true := by
  have hav : p.av[2]? = some (.str (47 :: x)) := by rw [← hpa]; rfl
  have e0 : ixs (.str (47 :: x)) (.int .i64 0) = M.ret (.int .u8 47) := rfl
  have n0 : (47 :: x = ([] : List UInt8)) = False := eq_false (by simp)
  unfold f5_7
  simp only [fa_ptr, bd_ret]
  refine l.ld 2 hav ?_
  simp only [bis_eql, n0, decide_false, gd_bool, if_true, fa_ptr, bd_ret]
  refine l.ld 2 hav ?_
  have z47 : decide ((47 : Int) ≠ 47) = false := rfl
  simp only [e0, bd_ret, bi_neq, z47, pk_bool, Bool.false_eq_true, if_false, gd_bool, if_true, fa_ptr]
  refine l.ld 2 hav ?_
  simp only [lnS_str, bd_ret, bi_gtr]
  have yes : ∀ b : Bool, b = true → Ev (cnd (.bool b) (M.bd (fa (.ptr (some (i, 0))) 2) fun v25 => M.bd (ld v25) fun v26 => M.bd (bi .neq v26 (.str [])) fun v27 => M.bd (gd v27 true (fa (.ptr (some (i, 0))) 2)) fun v28 => M.bd (gd v27 true (ld v28)) fun v29 => M.bd (gd v27 true (ixs v29 (.int .i64 0))) fun v30 => M.bd (gd v27 true (bi .eql v30 (.int .u8 47))) fun v31 => M.bd (pk v27 v31 (.bool false)) fun v32 => M.ret v32) fail) H n fun v H' n' => v = .bool true := by
    intro b hb
    subst hb
    simp only [cnd_true, fa_ptr, bd_ret]
    refine l.ld 2 hav ?_
    have n1 : ((47 :: x) ≠ ([] : List UInt8)) = True := eq_true (by simp)
    simp only [bis_neq, n1, decide_true, gd_bool, if_true, fa_ptr, bd_ret]
    refine l.ld 2 hav ?_
    simp [e0]
  have fin : ∀ (w : Bool) (k : M AV), (w = false → x.head? ≠ some 47) →
      (w = false → iriRight (47 :: x) = true → Ev k H n fun v H' n' => v = .bool true) →
      Ev (M.bd (gd (.bool w) false (fa (.ptr (some (i, 0))) 2)) fun v20 => M.bd (gd (.bool w) false (ld v20)) fun v21 => M.bd (gd (.bool w) false (f20 v21)) fun v22 => M.bd (gd (.bool w) false (un .not v22)) fun v23 => M.bd (pk (.bool w) (.bool true) v23) fun v24 => cnd v24 (M.bd (fa (.ptr (some (i, 0))) 2) fun v25 => M.bd (ld v25) fun v26 => M.bd (bi .neq v26 (.str [])) fun v27 => M.bd (gd v27 true (fa (.ptr (some (i, 0))) 2)) fun v28 => M.bd (gd v27 true (ld v28)) fun v29 => M.bd (gd v27 true (ixs v29 (.int .i64 0))) fun v30 => M.bd (gd v27 true (bi .eql v30 (.int .u8 47))) fun v31 => M.bd (pk v27 v31 (.bool false)) fun v32 => M.ret v32) k) H n fun v H' n' => v = .bool true := by
    intro w k hw hk
    cases w with
    | true =>
      simp only [gd_bool, Bool.true_eq_false, if_false, bd_ret, gd_tuple, pk_bool, if_true]
      have := yes true rfl
      simp only [cnd_true] at this ⊢
      exact this
    | false =>
      simp only [gd_bool, if_true, fa_ptr, bd_ret]
      refine l.ld 2 hav ?_
      rw [ref_Right_eq, bd_ret]
      simp only [un_not, bd_ret, pk_bool, Bool.false_eq_true, if_false]
      cases hr : iriRight (47 :: x) with
      | false =>
        have := yes true rfl
        simp only [Bool.not_false, cnd_true] at this ⊢
        exact this
      | true =>
        simp only [Bool.not_true, cnd_false]
        exact hk rfl hr
  have res : x.head? ≠ some 47 → iriRight (47 :: x) = true → Ev (M.bd (fa (.ptr (some (i, 0))) 2) fun v33 => M.bd (ld v33) fun v34 => M.bd (f18 (apN 6) (.str [47]) v34) fun v35 => M.bd (ex v35 0) fun v36 => M.bd (ex v35 1) fun v37 => M.bd (bx 23 (.agg [(.str []), (.str []), (.str []), (.str []), (.str []), (.bool false), (.bool false), (.bool false), (.bool false)])) fun v38 => M.bd (sta 9 v38 v36) fun _ => M.bd (bi .eql v37 (.int .i64 0)) fun v39 => M.bd (gd v39 true (fa v38 2)) fun v40 => M.bd (gd v39 true (ld v40)) fun v41 => M.bd (gd v39 true (fa (.ptr (some (i, 0))) 2)) fun v42 => M.bd (gd v39 true (ld v42)) fun v43 => M.bd (gd v39 true (bi .eql v41 v43)) fun v44 => M.bd (pk v39 v44 (.bool false)) fun v45 => M.ret v45) H n fun v H' n' => v = .bool true := by
    intro h1 hr
    simp only [fa_ptr, bd_ret]
    refine l.ld 2 hav ?_
    refine l.call (iriResolve_eq gs hm 4 [47] (47 :: x) (by simp)) fun H1 n1 l => ?_
    rw [resolve_path q x hq hr h1 h63 h35]
    simp only [ex_0, ex_1, bd_ret]
    refine l.more _ _ rfl fun H2 l => ?_
    refine l.sta 9 _ rfl rfl rfl fun H3 l => ?_
    simp only [bi_eql, bd_ret, decide_true, gd_bool, if_true, fa_ptr]
    refine l.ld 2 rfl ?_
    simp only [fa_ptr, bd_ret]
    refine l.ld' _ 2 List.mem_cons_self hav ?_
    simp
  cases x with
  | nil =>
    have c1 : ((1 : Int) < (([47] : List UInt8).length : Int)) = False := eq_false (by simp)
    simp only [c1, decide_false, bd_ret, gd_bool, Bool.false_eq_true, if_false, gd_tuple, pk_bool]
    exact fin false _ (fun _ => by simp) fun _ hr => res (by simp) hr
  | cons b r =>
    have c1 : ((1 : Int) < ((47 :: b :: r : List UInt8).length : Int)) = True := eq_true (by simp; omega)
    have e1 : ixs (.str (47 :: b :: r)) (.int .i64 1) = M.ret (.int .u8 (b.toNat : Int)) := rfl
    simp only [c1, decide_true, bd_ret, gd_bool, if_true, fa_ptr]
    refine l.ld 2 hav ?_
    have i47 : decide ((b.toNat : Int) = 47) = decide (b = 47) := by
      rw [decide_eq_decide]
      exact ⟨fun h => UInt8.toNat_inj.1 (by have : (47 : UInt8).toNat = 47 := rfl; omega), fun h => by rw [h]; rfl⟩
    rw [e1]
    simp only [bd_ret, bi_eql, i47]
    have hb : decide (b = 47) = false → (b :: r).head? ≠ some 47 := fun h => by
      rw [decide_eq_false_iff_not] at h
      simpa using h
    cases hw : decide (b = 47) with
    | false => exact fin false _ (fun _ => hb hw) fun _ hr => res (hb hw) hr
    | true => exact fin true fail (fun h => by cases h) fun h => by cases h
theorem dots_parts (hm : MaxIs gs) {x q : List UInt8} (hpa : p.pa = 47 :: x) (hq : dotsP q = 47 :: x) (h63 : has 63 (47 :: x) = false) (h35 : has 35 (47 :: x) = false) {H : Heap} {n : Nat} (l : Lc gs m0 H0 i p.av 23 [] H n) {L : List (List UInt8)} {w : AV} (hsl : SlS H n L w) (hL : L.length < 1000000000) (hd : ∀ y, y ∈ L → isDot y = false) : ∀ (k j : Nat), L.length - j < k → j ≤ L.length →
    Ev (f5_l9 (apN 6) k (.ptr (some (i, 0))) w (.int .i64 (j : Int))) H n fun v H' n' => v = .bool true := by
  intro k
  induction k with
  | zero => intro j h; omega
  | succ k ih =>
    intro j h hj
    unfold f5_l9 f5_b9
    rw [hsl.len, bd_ret]
    by_cases hlt : j < L.length
    · have c1 : ((j : Int) < (L.length : Int)) = True := eq_true (by omega)
      simp only [bi_lss, bd_ret, c1, decide_true, cnd_true]
      refine hsl.at .i64 j hlt ?_
      have hdot := hd _ (List.getElem_mem hlt)
      unfold isDot at hdot
      rw [Bool.or_eq_false_iff] at hdot
      simp only [bis_eql, bd_ret, hdot.1, gd_bool, if_true]
      obtain ⟨y, hy⟩ : ∃ y, y = L[j] := ⟨_, rfl⟩
      have hat : Ev (M.bd (ixp 1 w (.int .i64 (j : Int))) fun v8 => M.bd (ld v8) fun v9 => M.bd (bi .eql v9 (.str [46, 46])) fun v10 => M.bd (pk (.bool false) (.bool true) v10) fun v11 => cnd v11 (M.ret (.bool false)) (M.bd (bi .add (.int .i64 (j : Int)) (.int .i64 1)) fun v12 => f5_l9 (apN 6) k (.ptr (some (i, 0))) w v12)) H n fun v H' n' => v = .bool true := by
        refine hsl.at .i64 j hlt ?_
        simp only [bis_eql, bd_ret, hdot.2, pk_bool, Bool.false_eq_true, if_false, cnd_false]
        rw [bi_add, wr_i64 _ (by omega) (by omega), bd_ret, show ((j : Int) + 1) = ((j + 1 : Nat) : Int) from rfl]
        exact ih (j + 1) (by omega) (by omega)
      exact hat
    · have c1 : ((j : Int) < (L.length : Int)) = False := eq_false (by omega)
      simp only [bi_lss, bd_ret, c1, decide_false, cnd_false]
      exact dots_last hm hpa hq h63 h35 l
theorem dots_scan (hm : MaxIs gs) {x q : List UInt8} (hpa : p.pa = 47 :: x) (hq : dotsP q = 47 :: x) (hl : (47 :: x).length < 90000000) {H : Heap} {n : Nat} (l : Lc gs m0 H0 i p.av 23 [] H n) : ∀ (k j : Nat), (47 :: x).length - j < k → j ≤ (47 :: x).length → has 63 ((47 :: x).take j) = false → has 35 ((47 :: x).take j) = false →
    Ev (f5_l11 (apN 6) k (.ptr (some (i, 0))) (.int .i64 (j : Int))) H n fun v H' n' => v = .bool true := by
  intro k
  have hav : p.av[2]? = some (.str (47 :: x)) := by rw [← hpa]; rfl
  induction k with
  | zero => intro j h; omega
  | succ k ih =>
    intro j h hj t63 t35
    unfold f5_l11 f5_b11
    simp only [fa_ptr, bd_ret]
    refine l.ld 2 hav ?_
    simp only [lnS_str, bd_ret, bi_lss]
    by_cases hlt : j < (47 :: x).length
    · have c1 : ((j : Int) < ((47 :: x).length : Int)) = True := eq_true (by omega)
      simp only [c1, decide_true, cnd_true, fa_ptr, bd_ret]
      refine l.ld 2 hav ?_
      rw [ixs_nat (47 :: x) .i64 j hlt, bd_ret]
      simp only [bi_eql, bd_ret]
      have snoc : ∀ c : Nat, has c ((47 :: x).take j) = false → (47 :: x)[j].toNat ≠ c → has c ((47 :: x).take (j + 1)) = false := by
        intro c h1 h2
        rw [List.take_succ_eq_append_getElem hlt]
        unfold has at h1 ⊢
        rw [List.any_append, h1]
        simp [h2]
      generalize hc : (47 :: x)[j].toNat = c at snoc
      have d63 : decide ((c : Int) = 63) = decide (c = 63) := by rw [decide_eq_decide]; omega
      have d35 : decide ((c : Int) = 35) = decide (c = 35) := by rw [decide_eq_decide]; omega
      rw [d63]
      cases e63 : decide (c = 63) with
      | true =>
        simp only [gd_bool, Bool.true_eq_false, if_false, bd_ret, gd_tuple, pk_bool, if_true, cnd_true, Ev_ret]
      | false =>
        simp only [gd_bool, if_true, fa_ptr, bd_ret]
        refine l.ld 2 hav ?_
        rw [ixs_nat (47 :: x) .i64 j hlt, bd_ret, hc]
        simp only [bi_eql, bd_ret, d35, pk_bool, Bool.false_eq_true, if_false]
        cases e35 : decide (c = 35) with
        | true => simp only [cnd_true, Ev_ret]
        | false =>
          simp only [cnd_false]
          rw [bi_add, wr_i64 _ (by omega) (by omega), bd_ret, show ((j : Int) + 1) = ((j + 1 : Nat) : Int) from rfl]
          exact ih (j + 1) (by omega) (by omega) (snoc 63 t63 (of_decide_eq_false e63)) (snoc 35 t35 (of_decide_eq_false e35))
    · have c1 : ((j : Int) < ((47 :: x).length : Int)) = False := eq_false (by omega)
      simp only [c1, decide_false, cnd_false]
      rw [List.take_of_length_le (by omega)] at t63 t35
      unfold f5_5
      simp only [fa_ptr, bd_ret]
      refine l.ld 2 hav ?_
      refine Parts_eq (47 :: x) (by omega) l.ok.free fun v H1 n1 q1 q2 => ?_
      have l := l.step q2
      unfold f5_6 f5_8
      obtain ⟨L, z1, z2, z3, _⟩ := segs_dotsP q
      rw [hq] at z2
      have hle := segs_le (47 :: x)
      refine dots_parts hm hpa hq t63 t35 l (L := segs (47 :: x)) q1.sls (by omega) (fun y hy => ?_) fuel 0 (by rw [fuel_pos]; omega) (Nat.zero_le _)
      rw [z2] at hy
      rcases List.mem_cons.1 hy with rfl | hy
      · rfl
      · exact z3 y hy
end
theorem iriDots_eq (m : Int) (base s : List UInt8) : Ev (f5 (apN 6) (.str base) (.str s)) (heapA (G0 m)) 3 fun v H' n' => v = .bool true := by
  unfold f5 f5_0
  have ho : Ok (G0 m) (heapA (G0 m)) 3 := heapA_ok (G0 m)
  refine .bd ((alive0_ev m).mono fun v H1 n1 ⟨e1, f1⟩ => ?_)
  subst e1
  have ho1 := ho.fr f1
  simp only [un_not, Bool.not_true, bd_ret, cnd_false]
  unfold f5_1
  simp only [lnS_str, bd_ret, bi_gtr]
  by_cases g1 : (400 : Int) < (base.length : Int)
  · simp [g1]
  by_cases g2 : (400 : Int) < (s.length : Int)
  · simp [g1, g2]
  simp only [g1, g2, decide_false, gd_bool, pk_bool, if_true, Bool.false_eq_true, if_false, bd_ret, lnS_str, bi_gtr, cnd_false]
  unfold f5_2
  refine (iriResolve_eq _ (G0_max m) 4 base s (by omega)).call ho1 fun H2 n2 f2 => ?_
  have ho2 := ho1.fr f2
  simp only [ex_0, ex_1, bd_ret]
  refine Lc.start ho2 _ rfl fun l => ?_
  refine l.sta 9 _ rfl rfl rfl fun H3 l => ?_
  unfold f5_3
  have hlen := iriResolve_len base s (by omega)
  by_cases h0 : (iriResolve base s).2 = 0
  · obtain ⟨q, hq⟩ := resolve_ok h0
    rw [h0]
    generalize (iriResolve base s).1 = p at l hq hlen
    have hz : decide ((0 : Int) ≠ 0) = false := rfl
    simp only [bi_neq, hz, bd_ret, cnd_false]
    unfold f5_4 f5_10
    have hx : p.pa = 47 :: p.pa.drop 1 := by rw [hq]; rfl
    refine dots_scan (G0_max m) hx (by rw [← hx, hq]) ?_ l fuel 0 (by rw [fuel_pos, ← hx]; omega) (Nat.zero_le _) rfl rfl
    rw [← hx]
    omega
  · have hp := resolve_err h0
    rw [hp] at l
    have hz : decide ((iriResolve base s).2 ≠ 0) = true := decide_eq_true h0
    simp only [bi_neq, hz, bd_ret, cnd_true]
    refine l.lda 9 rfl ?_
    rw [show ∀ zs : List AV, bu zs [] = M.ret (.agg zs) from fun _ => rfl, bd_ret]
    rw [show bis [.s, .s, .s, .s, .s, .b, .b, .b, .b] .eql (.agg (Pc.av {})) (.agg [(.str []), (.str []), (.str []), (.str []), (.str []), (.bool false), (.bool false), (.bool false), (.bool false)]) = M.ret (.bool true) from rfl, bd_ret, Ev_ret]
end Go.Proofs.YtgljgjnhagidnaaDoor.Den
