/- The law IriCuts. -/
import Derived.Test.YtgljgjnhagidnaaDoorTF
import Derived.Test.YtgljgjnhagidnaaDoorTG
import Derived.Test.YtgljgjnhagidnaaDoorDen04
namespace Go.Proofs.YtgljgjnhagidnaaDoor.Den
open Go Go.Dn Go.Dn.M Go.Dn.Pl
set_option maxRecDepth 100000
set_option linter.unusedVariables false
set_option linter.unusedSimpArgs false

/-- What is known of the package-level variables. -/
def G0 (m : Int) : List AObj := [.row [.int .i64 m] 3 .ro, .gone, .gone]
theorem G0_max (m : Int) : MaxIs (G0 m) := ⟨_, m, rfl⟩
theorem alive1 (m : Int) (o : AObj) : seenOf 4 (f8 (apN 6) ((heapA (G0 m)).set 3 o) 4) = some (.bool true, gets ((heapA (G0 m)).set 3 o) 0 4, true) := by kernel_rfl
theorem alive1_ev (m : Int) (o : AObj) : Ev (f8 (apN 6)) ((heapA (G0 m)).set 3 o) 4 fun v H' n' => v = .bool true ∧ Fr 4 ((heapA (G0 m)).set 3 o) n' H' := ran (alive1 m o)
theorem of_eq (gs : List AObj) (p : Pc) : Cm gs (f11 (.agg p.av)) (.agg p.av) := by
  intro H n ho
  unfold f11
  refine Lc.start ho _ rfl fun l => ?_
  refine l.more _ _ rfl fun H1 l => ?_
  try simp only [fa_ptr, bd_ret]
  have hp := List.mem_cons_self (a := (n, AObj.row (cells (.agg p.av)) 23 (.own 0))) (l := [])
  refine l.ld' n 0 hp rfl ?_
  try simp only [fa_ptr, bd_ret]
  refine l.ld' n 1 hp rfl ?_
  try simp only [fa_ptr, bd_ret]
  refine l.ld' n 2 hp rfl ?_
  try simp only [fa_ptr, bd_ret]
  refine l.ld' n 3 hp rfl ?_
  try simp only [fa_ptr, bd_ret]
  refine l.ld' n 4 hp rfl ?_
  try simp only [fa_ptr, bd_ret]
  refine l.ld' n 5 hp rfl ?_
  try simp only [fa_ptr, bd_ret]
  refine l.ld' n 6 hp rfl ?_
  try simp only [fa_ptr, bd_ret]
  refine l.ld' n 7 hp rfl ?_
  try simp only [fa_ptr, bd_ret]
  refine l.ld' n 8 hp rfl ?_
  rw [show bu [(.str []), (.str []), (.str []), (.str []), (.str []), (.bool false), (.bool false), (.bool false), (.bool false)] [(0, 1, .str p.sc), (1, 1, .str p.au), (2, 1, .str p.pa), (3, 1, .str p.qu), (4, 1, .str p.fr), (5, 1, .bool p.hs), (6, 1, .bool p.ha), (7, 1, .bool p.hq), (8, 1, .bool p.hf)] = M.ret (.agg p.av) from rfl, bd_ret]
  refine l.sta 9 _ rfl rfl rfl fun H2 l => ?_
  refine l.lda 9 rfl ?_
  exact l.done
theorem refJoin_eq (gs : List AObj) (p : Pc) (h1 : p.sc.length ≤ 100000000) (h2 : p.au.length ≤ 100000000) (h3 : p.pa.length ≤ 100000000) (h4 : p.qu.length ≤ 100000000) (h5 : p.fr.length ≤ 100000000) :
    Cm gs (f13 (.agg p.av)) (.str (iriJoin p)) := by
  intro H n ho
  unfold f13
  refine Lc.start ho _ rfl fun l => ?_
  unfold f13_0 f13_1
  try simp only [fa_ptr, bd_ret]
  refine l.ld 5 rfl ?_
  have a2 : ∀ (t : List UInt8), t.length ≤ 1000000000 → Ev (f13_2 (.ptr (some (n, 0))) (.str t)) (H.set n (.row (cells (.agg p.av)) 27 (.own 0))) (n + 1) fun v H' n' => v = .str (t ++ (if p.ha then [47, 47] ++ p.au else []) ++ p.pa ++ (if p.hq then [63] ++ p.qu else []) ++ (if p.hf then [35] ++ p.fr else [])) ∧ Fr n H n' H' := by
    intro t ht
    unfold f13_2
    try simp only [fa_ptr, bd_ret]
    refine l.ld 6 rfl ?_
    have a3 : ∀ (t : List UInt8), t.length ≤ 2000000000 → Ev (f13_3 (.ptr (some (n, 0))) (.str t)) (H.set n (.row (cells (.agg p.av)) 27 (.own 0))) (n + 1) fun v H' n' => v = .str (t ++ p.pa ++ (if p.hq then [63] ++ p.qu else []) ++ (if p.hf then [35] ++ p.fr else [])) ∧ Fr n H n' H' := by
      intro t ht
      unfold f13_3
      try simp only [fa_ptr, bd_ret]
      refine l.ld 2 rfl ?_
      rw [bis_add _ _ (by omega), bd_ret]
      unfold f13_4
      try simp only [fa_ptr, bd_ret]
      refine l.ld 7 rfl ?_
      have a5 : ∀ (t : List UInt8), t.length ≤ 4000000000 → Ev (f13_5 (.ptr (some (n, 0))) (.str t)) (H.set n (.row (cells (.agg p.av)) 27 (.own 0))) (n + 1) fun v H' n' => v = .str (t ++ (if p.hf then [35] ++ p.fr else [])) ∧ Fr n H n' H' := by
        intro t ht
        unfold f13_5
        try simp only [fa_ptr, bd_ret]
        refine l.ld 8 rfl ?_
        cases hf : p.hf with
        | false =>
          simp only [cnd_false, Bool.false_eq_true, if_false, List.append_nil]
          unfold f13_6
          exact l.done
        | true =>
          simp only [cnd_true, if_true, fa_ptr, bd_ret]
          refine l.ld 4 rfl ?_
          rw [bis_add _ _ (by simp; omega), bd_ret, bis_add _ _ (by simp; omega), bd_ret]
          unfold f13_6
          exact l.done
      cases hq : p.hq with
      | false =>
        simp only [cnd_false, Bool.false_eq_true, if_false, List.append_nil]
        exact a5 _ (by simp; omega)
      | true =>
        simp only [cnd_true, if_true, fa_ptr, bd_ret]
        refine l.ld 3 rfl ?_
        rw [bis_add _ _ (by simp; omega), bd_ret, bis_add _ _ (by simp; omega), bd_ret]
        exact a5 _ (by simp; omega)
    cases hq : p.ha with
    | false =>
      simp only [cnd_false, Bool.false_eq_true, if_false]
      rw [List.append_nil]
      exact a3 _ (by omega)
    | true =>
      simp only [cnd_true, if_true, fa_ptr, bd_ret]
      refine l.ld 1 rfl ?_
      rw [bis_add _ _ (by simp; omega), bd_ret, bis_add _ _ (by simp; omega), bd_ret]
      exact a3 _ (by simp; omega)
  unfold iriJoin
  cases hq : p.hs with
  | false =>
    simp only [cnd_false, Bool.false_eq_true, if_false]
    exact a2 _ (by simp)
  | true =>
    simp only [cnd_true, if_true, fa_ptr, bd_ret]
    refine l.ld 0 rfl ?_
    rw [bis_add _ _ (by simp; omega), bd_ret, bis_add _ _ (by simp; omega), bd_ret]
    exact a2 _ (by simp; omega)
theorem pcOf_len (s : List UInt8) : (pcOf s).sc.length ≤ s.length ∧ (pcOf s).au.length ≤ s.length ∧ (pcOf s).pa.length ≤ s.length ∧ (pcOf s).qu.length ≤ s.length ∧ (pcOf s).fr.length ≤ s.length := by
  have c1 : (cut1 s).1.length ≤ s.length ∧ (cut1 s).2.2.length ≤ s.length := by
    unfold cut1
    have := aheadB_len [58, 47, 63, 35] s
    split
    · simp; omega
    · simp
  have c2 : ∀ t, (cut2 t).1.length ≤ t.length ∧ (cut2 t).2.2.length ≤ t.length := by
    intro t
    unfold cut2
    have := aheadB_len [47, 63, 35] (t.drop 2)
    simp at this
    split
    · simp; omega
    · simp
  have c3 : ∀ t, (cut3 t).1.length ≤ t.length ∧ (cut3 t).2.1.length ≤ t.length ∧ (cut3 t).2.2.2.1.length ≤ t.length := by
    intro t
    unfold cut3
    have a := cutB_len 35 t
    have b := cutB_len 63 (cutB 35 t).1
    exact ⟨by simp only; omega, by simp only; omega, by simp only; omega⟩
  have a := c2 (cut1 s).2.2
  have b := c3 (cut2 (cut1 s).2.2).2.2
  unfold pcOf
  exact ⟨by simp only; omega, by simp only; omega, by simp only; omega, by simp only; omega, by simp only; omega⟩
theorem beq_av (p : Pc) : beqA (.agg p.av) (.agg p.av) = true := by
  simp [beqA, Pc.av, beqAs, beq0, Pl.beqL_eq]
theorem eq_av (p q : Pc) : eqAs [.s, .s, .s, .s, .s, .b, .b, .b, .b] p.av p.av = some true := by
  simp [Pc.av, eqAs, eqF, Pl.beqL_eq]
theorem iriCuts_eq (m : Int) (s : List UInt8) (p : Pc) : Ev (f3 (apN 6) (.str s) (.agg p.av)) (heapA (G0 m)) 3 fun v H' n' => v = .bool true := by
  unfold f3
  have ho : Ok (G0 m) (heapA (G0 m)) 3 := heapA_ok (G0 m)
  refine Lc.start ho _ rfl fun l => ?_
  refine l.callE (alive1_ev m _) fun H1 n1 l => ?_
  simp only [un_not, Bool.not_true, cnd_false, lnS_str, bi_gtr, bd_ret, gd_bool, pk_bool, gd_tuple]
  by_cases h0 : (2000 : Int) < (s.length : Int)
  · simp [h0]
  simp only [h0, decide_false, fa_ptr, bd_ret, if_true, Bool.false_eq_true, if_false]
  refine l.ld 0 rfl ?_
  simp only [lnS_str, bi_gtr, bd_ret, gd_bool, pk_bool, gd_tuple]
  by_cases h1 : (500 : Int) < (p.sc.length : Int)
  · simp [h1]
  simp only [h1, decide_false, fa_ptr, bd_ret, if_true, Bool.false_eq_true, if_false]
  refine l.ld 1 rfl ?_
  simp only [lnS_str, bi_gtr, bd_ret, gd_bool, pk_bool, gd_tuple]
  by_cases h2 : (500 : Int) < (p.au.length : Int)
  · simp [h2]
  simp only [h2, decide_false, fa_ptr, bd_ret, if_true, Bool.false_eq_true, if_false]
  refine l.ld 2 rfl ?_
  simp only [lnS_str, bi_gtr, bd_ret, gd_bool, pk_bool, gd_tuple]
  by_cases h3 : (500 : Int) < (p.pa.length : Int)
  · simp [h3]
  simp only [h3, decide_false, fa_ptr, bd_ret, if_true, Bool.false_eq_true, if_false]
  refine l.ld 3 rfl ?_
  simp only [lnS_str, bi_gtr, bd_ret, gd_bool, pk_bool, gd_tuple]
  by_cases h4 : (500 : Int) < (p.qu.length : Int)
  · simp [h4]
  simp only [h4, decide_false, fa_ptr, bd_ret, if_true, Bool.false_eq_true, if_false]
  refine l.ld 4 rfl ?_
  simp only [lnS_str, bi_gtr, bd_ret, gd_bool, pk_bool, gd_tuple]
  by_cases h5 : (500 : Int) < (p.fr.length : Int)
  · simp [h5]
  simp only [h5, decide_false, bd_ret, if_true, Bool.false_eq_true, if_false, cnd_false]
  refine l.call (iriCut_eq _ (G0_max m) 4 s) fun H2 n2 l => ?_
  simp only [ex_0, ex_1, bd_ret]
  refine l.more _ _ rfl fun H3 l => ?_
  refine l.sta 9 _ rfl rfl rfl fun H4 l => ?_
  refine l.call (refCut_eq _ s) fun H5 n5 l => ?_
  simp only [ex_0, ex_1, bd_ret]
  refine l.more _ _ rfl fun H6 l => ?_
  refine l.sta 9 _ rfl rfl rfl fun H7 l => ?_
  simp only [bd_ret, be_neq_b, beq_self_eq_true, Bool.not_true, gd_bool, pk_bool, Bool.false_eq_true, if_false, if_true]
  refine l.lda' _ 9 List.mem_cons_self rfl ?_
  refine l.lda 9 rfl ?_
  refine l.call (of_eq _ _) fun H8 n8 l => ?_
  refine rck_self (beq_av _) (l.lda 9 rfl ?_)
  rw [beq_av, cond_true, show ∀ a b : List AV, bis [.s, .s, .s, .s, .s, .b, .b, .b, .b] .neq (.agg a) (.agg b) = asEq .neq (eqAs [.s, .s, .s, .s, .s, .b, .b, .b, .b] a b) from fun _ _ => rfl, eq_av _ p, show asEq .neq (some true) = M.ret (.bool false) from rfl, bd_ret]
  simp only [bd_ret, gd_bool, pk_bool, Bool.false_eq_true, if_false, if_true]
  have hp : ∀ x, (3, AObj.row (cells (.agg p.av)) 23 (.own 0)) ∈ [x, (3, AObj.row (cells (.agg p.av)) 23 (.own 0))] := fun x => List.mem_cons_of_mem _ List.mem_cons_self
  refine l.lda' 3 9 (hp _) rfl ?_
  refine l.lda' 3 9 (hp _) rfl ?_
  refine l.call (iriJoin_eq _ 5 p (by omega) (by omega) (by omega) (by omega) (by omega)) fun H9 n9 l => ?_
  refine rck_self (beq_av _) (l.lda' 3 9 (hp _) rfl ?_)
  rw [show beqA (AV.agg (cells (AV.agg p.av))) (AV.agg (cells (AV.agg p.av))) = true from beq_av _, cond_true]
  refine l.call (of_eq _ _) fun H10 n10 l => ?_
  refine l.call (refJoin_eq _ p (by omega) (by omega) (by omega) (by omega) (by omega)) fun H11 n11 l => ?_
  simp only [bis_neq, bd_ret, ne_eq, not_true_eq_false, decide_false, pk_bool, Bool.false_eq_true, if_false, cnd_false, un_not]
  unfold iriCut
  cases hr : iriRight s with
  | false => simp
  | true =>
    simp only [if_true, Bool.not_true, gd_bool, pk_bool, Bool.false_eq_true, if_false]
    have hl := pcOf_len s
    have hj := join_pcOf s
    simp only [hr, iriCut, if_true] at l
    generalize pcOf s = q at l hl hj
    refine l.lda' _ 9 List.mem_cons_self rfl ?_
    refine l.call (iriJoin_eq _ 5 q (by omega) (by omega) (by omega) (by omega) (by omega)) fun H12 n12 l => ?_
    rw [hj]
    simp
end Go.Proofs.YtgljgjnhagidnaaDoor.Den
