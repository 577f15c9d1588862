/- Reference 16: dots, Resolve, Target. -/
import Derived.Test.YtgljgjnhagidnaaGreatDoorTRN
import Derived.Test.YtgljgjnhagidnaaGreatDoorTV
import Derived.Test.YtgljgjnhagidnaaGreatDoorTG
import Derived.Test.YtgljgjnhagidnaaGreatDoorTR
import Derived.Test.YtgljgjnhagidnaaGreatDoorDen04
namespace Go.Proofs.YtgljgjnhagidnaaGreatDoor.Den
open Go Go.Dn Go.Dn.M Go.Dn.Pl
set_option maxRecDepth 100000
set_option linter.unusedVariables false
set_option linter.unusedSimpArgs false

theorem addedOf_z {H : Heap} {e : TypeId} {m n : Nat} {cs : List AV} {buf : AV} (h : SlZ H e m n cs buf) : addedOf 1 buf H n = some ((cs, cs.length), H, n) := by
  rcases h with ⟨rfl, rfl⟩ | ⟨r, kc, row, rfl, h2, h3, h4, h5, h6, h8, h9⟩
  · rfl
  · show (bif Nat.beq cs.length 0 then (M.ret ([], 0) : M (List AV × Nat)) else M.bd (rd r 0 (cs.length * 1)) fun cs' => M.ret (cs', cs.length)) H n = _
    rw [beqN_eq]
    by_cases h0 : cs.length = 0
    · obtain rfl := List.eq_nil_of_length_eq_zero h0
      rfl
    · rw [decide_eq_false h0, cond_false, Nat.mul_one, bd_at (rd_at _ _ _ h3 0 _ (by omega)), List.drop_zero, h6]
      rfl
theorem all_str (l : List (List UInt8)) : (l.map AV.str).all oneCell = true := by
  rw [List.all_eq_true]; intro v hv
  obtain ⟨y, _, rfl⟩ := List.mem_map.1 hv; rfl
/-- A path's text. -/
theorem rdots_text {o : List (List UInt8)} {v : AV} {H : Heap} {n : Nat} (hsl : SlS H n o v) (ho : o.length ≤ 1000000000) (hb : o.flatten.length ≤ 1000000000) : ∀ (k p : Nat) (r : List UInt8), o.length - p < k → p ≤ o.length → r.length + ((o.drop p).map fun y => 47 :: y).flatten.length ≤ 10000000000 →
    Ev (f19_l7 k v (.str r) (.int .i64 (p : Int))) H n fun x H' n' => x = .str (if r ++ ((o.drop p).map fun y => 47 :: y).flatten = [] then [47] else r ++ ((o.drop p).map fun y => 47 :: y).flatten) ∧ H' = H ∧ n' = n := by
  intro k
  induction k with
  | zero => intro p r h; omega
  | succ k ih =>
    intro p r h hp hr
    unfold f19_l7 f19_b7
    rw [hsl.len, bd_ret]
    by_cases hlt : p < o.length
    · have c1 : ((p : Int) < (o.length : Int)) = True := eq_true (by omega)
      have e : r ++ ((o.drop p).map fun y => 47 :: y).flatten = (r ++ ([47] ++ o[p])) ++ ((o.drop (p + 1)).map fun y => 47 :: y).flatten := by
        rw [List.drop_eq_getElem_cons hlt]
        simp only [List.map_cons, List.flatten_cons, List.append_assoc, List.cons_append, List.nil_append]
      rw [← List.length_append, e, List.length_append, List.length_append] at hr
      rw [e]
      have hx : ([47] ++ o[p]).length = o[p].length + 1 := by simp
      simp only [bi_lss, bd_ret, c1, decide_true, cnd_true]
      refine hsl.at .i64 p hlt ?_
      rw [bis_add _ _ (by simp only [List.length_cons, List.length_nil]; omega), bd_ret, bis_add _ _ (by omega), bd_ret, bi_add, wr_i64 _ (by omega) (by omega), bd_ret, show ((p : Int) + 1) = ((p + 1 : Nat) : Int) from rfl]
      exact ih (p + 1) (r ++ ([47] ++ o[p])) (by omega) (by omega) (by rw [List.length_append]; omega)
    · have c1 : ((p : Int) < (o.length : Int)) = False := eq_false (by omega)
      have hnil : o.drop p = [] := List.drop_eq_nil_of_le (by omega)
      rw [hnil]
      simp only [bi_lss, bd_ret, c1, decide_false, cnd_false, List.map_nil, List.flatten_nil, List.append_nil]
      unfold f19_5
      simp only [bis_eql, bd_ret]
      by_cases hr0 : r = []
      · simp only [hr0, decide_true, cnd_true, if_true, Ev_ret, and_self]
      · simp only [hr0, decide_false, cnd_false, if_false, Ev_ret, and_self]
theorem rdots_join (o : List (List UInt8)) : (if [] ++ ((o.drop 0).map fun y => 47 :: y).flatten = [] then [47] else [] ++ ((o.drop 0).map fun y => 47 :: y).flatten) = 47 :: joinS o := by
  rw [List.drop_zero, List.nil_append]
  cases o with
  | nil => rfl
  | cons x t => rw [joinS_cons, if_neg (by simp)]; simp
def dotsAt (L : List (List UInt8)) (p : Nat) (out : List (List UInt8)) : List (List UInt8) :=
  if p < L.length then (L.drop p).foldl dotStep out ++ (if isDot (L.getLastD []) then [[]] else []) else out
theorem rdots_loop {m : Nat} {L : List (List UInt8)} {v : AV} (hl : L.length < 100000000) : ∀ (k p : Nat) (out : List (List UInt8)) (buf : AV) (H : Heap) (n : Nat), L.length - p < k → p ≤ L.length → (∀ i, n ≤ i → H.get i = none) → m ≤ n → SlS H m L v → SlZ H 9 m n (out.map .str) buf → out.length ≤ p + 1 → out.flatten.length + (L.drop p).flatten.length ≤ 1000000000 →
    Ev (f19_l9 k v buf (.int .i64 (p : Int))) H n fun r H' n' => r = .str (47 :: joinS (dotsAt L p out)) ∧ Fr m H n' H' := by
  intro k
  induction k with
  | zero => intro p out buf H n h; omega
  | succ k ih =>
    intro p out buf H n h hp hf hmn hsl hz hop hB
    unfold f19_l9 f19_b9
    rw [hsl.len, bd_ret]
    by_cases hlt : p < L.length
    · have c1 : ((p : Int) < (L.length : Int)) = True := eq_true (by omega)
      have hd := List.drop_eq_getElem_cons hlt
      rw [hd] at hB
      simp only [List.flatten_cons, List.length_append] at hB
      simp only [bi_lss, bd_ret, c1, decide_true, cnd_true]
      have hlast : p + 1 = L.length → L.getLastD [] = L[p] := by
        intro e
        rw [List.getLastD_eq_getLast?, List.getLast?_eq_getElem?, show L.length - 1 = p by omega, List.getElem?_eq_getElem hlt]; rfl
      have hat : dotsAt L p out = dotsAt L (p + 1) (dotStep out L[p] ++ (if isDot L[p] = true ∧ p + 1 = L.length then [[]] else [])) := by
        unfold dotsAt
        rw [if_pos hlt, hd, List.foldl_cons]
        by_cases h2 : p + 1 < L.length
        · have e0 : (if isDot L[p] = true ∧ p + 1 = L.length then [[]] else []) = ([] : List (List UInt8)) := if_neg (fun x => by omega)
          rw [if_pos h2, e0, List.append_nil]
        · have e : p + 1 = L.length := by omega
          have hnil : L.drop (p + 1) = [] := List.drop_eq_nil_of_le (by omega)
          rw [if_neg h2, hnil, List.foldl_nil, hlast e]
          simp [e]
      have hlen := dotStep_len out L[p]
      -- the last step
      have step14 : ∀ (b : AV) (H1 : Heap) (n1 : Nat), Fr m H n1 H1 → n ≤ n1 → SlZ H1 9 m n1 ((dotStep out L[p]).map .str) b → Ev (f19_14 (f19_l9 k) v b (.int .i64 (p : Int)) (.bool (isDot L[p]))) H1 n1 fun r H' n' => r = .str (47 :: joinS (dotsAt L p out)) ∧ Fr m H n' H' := by
        intro b H1 n1 hfr hn1 hz1
        have hsl1 := hsl.keep (n' := m) (Nat.le_refl _) fun i hi => hfr.keep i hi
        have next : ∀ (o : List (List UInt8)) (b : AV) (H2 : Heap) (n2 : Nat), o = dotStep out L[p] ++ (if isDot L[p] = true ∧ p + 1 = L.length then [[]] else []) → Fr m H n2 H2 → n ≤ n2 → SlZ H2 9 m n2 (o.map .str) b → Ev (f19_11 (f19_l9 k) v b (.int .i64 (p : Int))) H2 n2 fun r H' n' => r = .str (47 :: joinS (dotsAt L p out)) ∧ Fr m H n' H' := by
          intro o b H2 n2 ho hfr2 hn2 hz2
          unfold f19_11
          rw [bi_add, wr_i64 _ (by omega) (by omega), bd_ret, show ((p : Int) + 1) = ((p + 1 : Nat) : Int) from rfl]
          have ol : o.length ≤ p + 2 ∧ o.flatten.length ≤ (dotStep out L[p]).flatten.length := by
            rw [ho]
            have hdl : isDot L[p] = true → (dotStep out L[p]).length ≤ out.length := by
              intro hd; unfold isDot at hd; unfold dotStep
              split
              · omega
              · split
                · simp
                · rename_i a b; simp [a, b] at hd
            split
            · rename_i hh; have := hdl hh.1; simp; omega
            · have : (dotStep out L[p]).length ≤ p + 2 := by omega
              simp; omega
          rw [hat, ← ho]
          exact (ih (p + 1) o b H2 n2 (by omega) (by omega) hfr2.free (by omega) (hsl.keep (Nat.le_refl _) fun i hi => hfr2.keep i hi) hz2 (by omega) (by omega)).mono fun r H' n' ⟨z1, z2⟩ => ⟨z1, hfr2.trans z2 (Nat.le_refl m)⟩
        unfold f19_14
        cases hdot : isDot L[p] with
        | false =>
          simp only [gd_bool, Bool.false_eq_true, if_false, bd_ret, gd_tuple, pk_bool, cnd_false]
          exact next _ b H1 n1 (by rw [hdot]; simp) hfr hn1 hz1
        | true =>
          simp only [gd_bool, if_true, bd_ret, hsl1.len, bi_sub]
          rw [wr_i64 _ (by omega) (by omega)]
          simp only [bd_ret, bi_eql, pk_bool, if_true]
          by_cases he : p + 1 = L.length
          · have c2 : ((p : Int) = (L.length : Int) - 1) = True := eq_true (by omega)
            simp only [c2, decide_true, cnd_true]
            refine put_str [] [] hfr.free (by omega) hz1 (by omega) fun w H2 n2 q1 q2 q3 => ?_
            exact next _ w H2 n2 (by rw [hdot]; simp [he]) (hfr.trans q2 (Nat.le_refl m)) (by omega) q1
          · have c2 : ((p : Int) = (L.length : Int) - 1) = False := eq_false (by omega)
            simp only [c2, decide_false, cnd_false]
            exact next _ b H1 n1 (by rw [hdot]; simp [he]) hfr hn1 hz1
      have step13 : ∀ (b : AV) (H1 : Heap) (n1 : Nat), Fr m H n1 H1 → n ≤ n1 → SlZ H1 9 m n1 ((if L[p] = [46, 46] then out.dropLast else out).map .str) b → Ev (f19_13 (f19_l9 k) v b (.int .i64 (p : Int)) (.bool (isDot L[p]))) H1 n1 fun r H' n' => r = .str (47 :: joinS (dotsAt L p out)) ∧ Fr m H n' H' := by
        intro b H1 n1 hfr hn1 hz1
        have hsl1 := hsl.keep (n' := m) (Nat.le_refl _) fun i hi => hfr.keep i hi
        unfold f19_13
        by_cases a1 : L[p] = [46]
        · have hi : isDot L[p] = true := by unfold isDot; simp [a1]
          have a2 : ¬ L[p] = [46, 46] := by rw [a1]; simp
          rw [if_neg a2] at hz1
          have hst : dotStep out L[p] = out := by unfold dotStep; rw [if_pos a1]
          rw [hi]
          simp only [un_not, Bool.not_true, bd_ret, cnd_false]
          have := step14 b H1 n1 hfr hn1 (by rw [hst]; exact hz1)
          rw [hi] at this
          exact this
        · by_cases a2 : L[p] = [46, 46]
          · have hi : isDot L[p] = true := by unfold isDot; simp [a2]
            rw [if_pos a2] at hz1
            have hst : dotStep out L[p] = out.dropLast := by unfold dotStep; rw [if_neg a1, if_pos a2]
            rw [hi]
            simp only [un_not, Bool.not_true, bd_ret, cnd_false]
            have := step14 b H1 n1 hfr hn1 (by rw [hst]; exact hz1)
            rw [hi] at this
            exact this
          · have hi : isDot L[p] = false := by unfold isDot; simp [a1, a2]
            rw [if_neg a2] at hz1
            have hst : dotStep out L[p] = out ++ [L[p]] := by unfold dotStep; rw [if_neg a1, if_neg a2]
            rw [hi]
            simp only [un_not, Bool.not_false, bd_ret, cnd_true]
            refine hsl1.at .i64 p hlt ?_
            refine put_str L[p] [] hfr.free (by omega) hz1 (by omega) fun w H2 n2 q1 q2 q3 => ?_
            have := step14 w H2 n2 (hfr.trans q2 (Nat.le_refl m)) (by omega) (by rw [hst]; exact q1)
            rw [hi] at this
            exact this
      have step12 : Ev (f19_12 (f19_l9 k) v buf (.int .i64 (p : Int)) (.bool (isDot L[p]))) H n fun r H' n' => r = .str (47 :: joinS (dotsAt L p out)) ∧ Fr m H n' H' := by
        unfold f19_12
        refine hsl.at .i64 p hlt ?_
        simp only [bis_eql, bd_ret]
        by_cases a2 : L[p] = [46, 46]
        · simp only [a2, decide_true, gd_bool, if_true, bd_ret, hz.len, bi_gtr, List.length_map, pk_bool]
          rw [← a2]
          by_cases h0 : out.length = 0
          · have c2 : ((0 : Int) < (out.length : Int)) = False := eq_false (by omega)
            simp only [c2, decide_false, cnd_false]
            obtain rfl := List.eq_nil_of_length_eq_zero h0
            exact step13 buf H n (.refl hf hmn) (Nat.le_refl n) (by rw [if_pos a2]; exact hz)
          · have c2 : ((0 : Int) < (out.length : Int)) = True := eq_true (by omega)
            simp only [c2, decide_true, cnd_true]
            obtain ⟨w, hw1, hw2⟩ := hz.to .i64 (out.length - 1) (by simp)
            have hw2' : SlZ H 9 m n (out.dropLast.map .str) w := by rw [List.dropLast_eq_take, List.map_take]; exact hw2
            have e0 : bsl 9 1 0 [] [] = M.bd (Dn.newRow 9 []) fun i => M.ret (.sl i 0 0 0 1) := rfl
            rw [e0, bd_bd, Ev_newRow _ _ _ _ rfl]
            refine ⟨hf n (Nat.le_refl n), ?_⟩
            have hfr : Fr n H (n + 1) (H.set n (.row [] 9 (.own 0))) := Fr.new (.refl hf (Nat.le_refl n)) _
            have hz0 : SlZ (H.set n (.row [] 9 (.own 0))) 9 m (n + 1) [] (.sl n 0 0 0 1) := .inr ⟨n, 0, [], rfl, Nat.le_refl _, get_set_same _ _ _, rfl, Nat.le_refl _, rfl, hmn, by omega⟩
            have hz1 := hw2'.keep (n' := n + 1) (by omega) fun i _ hi _ => hfr.keep i hi
            generalize H.set n (.row [] 9 (.own 0)) = H1 at hfr hz0 hz1
            simp only [bd_ret, hz.len, bi_sub, List.length_map]
            rw [wr_i64 _ (by omega) (by omega), show ((out.length : Int) - 1) = ((out.length - 1 : Nat) : Int) by omega, hw1, bd_ret, Ev_bd]
            refine (app_z hfr.free (by omega) hz0 (addedOf_z hz1) (all_str _) rfl (by simp; omega) (by simp; omega)).mono fun w2 H' n' ⟨q1, q2⟩ => ?_
            exact step13 w2 H' n' ((hfr.weaken hmn).trans (q2.fr (by omega)) (Nat.le_refl m)) (by have := q2.le; omega) (by rw [if_pos a2]; simpa using q1)
        · simp only [a2, decide_false, gd_bool, Bool.false_eq_true, if_false, bd_ret, gd_tuple, pk_bool, cnd_false]
          exact step13 buf H n (.refl hf hmn) (Nat.le_refl n) (by rw [if_neg a2]; exact hz)
      unfold f19_10
      refine hsl.at .i64 p hlt ?_
      simp only [bis_eql, bd_ret]
      by_cases a1 : L[p] = [46]
      · simp only [a1, decide_true, gd_bool, Bool.true_eq_false, if_false, bd_ret, gd_tuple, pk_bool, if_true]
        have hi : isDot L[p] = true := by unfold isDot; simp [a1]
        rw [hi] at step12
        exact step12
      · simp only [a1, decide_false, gd_bool, if_true, bd_ret]
        refine hsl.at .i64 p hlt ?_
        simp only [bis_eql, bd_ret, pk_bool, Bool.false_eq_true, if_false]
        have hi : isDot L[p] = decide (L[p] = [46, 46]) := by unfold isDot; simp [a1]
        rw [hi] at step12
        exact step12
    · have c1 : ((p : Int) < (L.length : Int)) = False := eq_false (by omega)
      simp only [bi_lss, bd_ret, c1, decide_false, cnd_false]
      unfold f19_3 f19_4 f19_6
      have hfl : ((out.drop 0).map fun y => 47 :: y).flatten.length ≤ out.flatten.length + out.length := by
        rw [List.drop_zero]
        clear hsl hz hop hB
        induction out with
        | nil => simp
        | cons x t ih => simp only [List.map_cons, List.flatten_cons, List.length_append, List.length_cons]; omega
      refine (rdots_text hz.sls (by omega) (by omega) fuel 0 [] (by rw [fuel_pos]; omega) (Nat.zero_le _) (by simp only [List.length_nil]; omega)).mono fun r H' n' ⟨q1, q2, q3⟩ => ?_
      subst q2 q3
      refine ⟨?_, .refl hf hmn⟩
      rw [q1, rdots_join]
      unfold dotsAt
      rw [if_neg hlt]
theorem rdots_eq (gs : List AObj) (p : List UInt8) (h1 : p ≠ []) (hp : p.length < 90000000) : Cm gs (f19 (.str p)) (.str (dotsP p)) := by
  intro H n ho
  unfold f19 f19_0
  have hlen : 0 < p.length := List.length_pos_iff.2 h1
  rw [ss_from p .i64 1 1 rfl (by omega), bd_ret]
  refine Parts_eq (p.drop 1) (by simp; omega) ho.free fun v H1 n1 z1 f1 => ?_
  unfold f19_1
  have e0 : bsl 9 1 0 [] [] = M.bd (Dn.newRow 9 []) fun i => M.ret (.sl i 0 0 0 1) := rfl
  rw [e0, bd_bd, Ev_newRow _ _ _ _ rfl]
  refine ⟨f1.free n1 (Nat.le_refl n1), ?_⟩
  have hfr : Fr n1 H1 (n1 + 1) (H1.set n1 (.row [] 9 (.own 0))) := Fr.new (.refl f1.free (Nat.le_refl n1)) _
  have hz0 : SlZ (H1.set n1 (.row [] 9 (.own 0))) 9 n1 (n1 + 1) [] (.sl n1 0 0 0 1) := .inr ⟨n1, 0, [], rfl, Nat.le_refl _, get_set_same _ _ _, rfl, Nat.le_refl _, rfl, Nat.le_refl _, by omega⟩
  have hsl := z1.sls.keep (n' := n1) (Nat.le_refl _) fun i hi => hfr.keep i hi
  generalize H1.set n1 (.row [] 9 (.own 0)) = H2 at hfr hz0 hsl
  rw [bd_ret]
  unfold f19_2 f19_8
  have hne : 0 < (segs (p.drop 1)).length := List.length_pos_iff.2 (segs_ne _)
  have hle := segs_le (p.drop 1)
  have hfl := flatten_len (p.drop 1) _ rfl
  rw [List.length_drop] at hle hfl
  refine (rdots_loop (m := n1) (by omega) fuel 0 [] _ H2 (n1 + 1) (by rw [fuel_pos]; omega) (Nat.zero_le _) hfr.free (by omega) hsl hz0 (by simp) (by simp only [List.drop_zero, List.flatten_nil, List.length_nil]; omega)).mono fun r H' n' ⟨q1, q2⟩ => ⟨?_, f1.then (hfr.trans q2 (Nat.le_refl _))⟩
  rw [q1]
  unfold dotsP dotsL dotsAt
  rw [if_pos hne, List.drop_zero]
theorem rResolve_eq (gs : List AObj) (base s : List UInt8) (hb : base.length ≤ 10000000) : Cm gs (f6 (.str base) (.str s)) (.tuple [.agg (iriResolve base s).1.av, .int .i64 (iriResolve base s).2]) := by
  intro H n ho
  unfold f6
  refine Lc.start ho _ rfl fun l => ?_
  unfold f6_0
  refine l.call (refCut_eq gs s) fun H1 n1 l => ?_
  simp only [ex_0, ex_1, bd_ret]
  refine l.more _ _ rfl fun H2 l => ?_
  refine l.sta 9 _ rfl rfl rfl fun H3 l => ?_
  unfold f6_1
  have hle := iriCut_le s
  have hlo := l.lo
  unfold iriResolve
  cases hok : (iriCut s).2 with
  | false =>
    simp only [un_not, Bool.not_false, bd_ret, cnd_true, Bool.false_eq_true, if_false]
    rw [show ∀ zs : List AV, bu zs [] = M.ret (.agg zs) from fun _ => rfl, bd_ret]
    have l2 := l.turn (Nat.le_refl n) (fun p hp => by cases hp)
    refine l2.sta 9 _ rfl rfl rfl fun H4 l => ?_
    refine l.lda 9 rfl ?_
    exact l.done
  | true =>
    generalize (iriCut s).1 = p at l hle
    simp only [un_not, Bool.not_true, bd_ret, cnd_false, if_true]
    unfold f6_2
    simp only [fa_ptr, bd_ret]
    have bad : Ev (M.bd (bu [(.str []), (.str []), (.str []), (.str []), (.str []), (.bool false), (.bool false), (.bool false), (.bool false)] []) fun v13 => M.bd (Dn.sta 9 (.ptr (some (n, 0))) v13) fun _ => M.bd (Dn.lda 9 (.ptr (some (n, 0)))) fun v14 => M.ret (AV.tuple [v14, (.int .i64 21)])) H3 (n1 + 1) fun v H' n' => v = AV.tuple [.agg (Pc.av {}), .int .i64 21] ∧ Fr n H n' H' := by
      rw [show ∀ zs : List AV, bu zs [] = M.ret (.agg zs) from fun _ => rfl, bd_ret]
      have l2 := l.turn (Nat.le_refl n) (fun p hp => by cases hp)
      refine l2.sta 9 _ rfl rfl rfl fun H4 l => ?_
      refine l.lda 9 rfl ?_
      exact l.done
    refine l.ld 5 rfl ?_
    cases h1 : p.hs with
    | true =>
      simp only [gd_bool, Bool.true_eq_false, if_false, bd_ret, gd_tuple, pk_bool, if_true, cnd_true, Bool.true_or]
      exact bad
    | false =>
      simp only [gd_bool, if_true, fa_ptr, bd_ret]
      refine l.ld 6 rfl ?_
      cases h2 : p.ha with
      | true =>
        simp only [pk_bool, Bool.false_eq_true, if_false, bd_ret, gd_bool, Bool.true_eq_false, gd_tuple, if_true, cnd_true, Bool.false_or, Bool.true_or]
        exact bad
      | false =>
        simp only [pk_bool, Bool.false_eq_true, if_false, bd_ret, gd_bool, if_true, bis_eql, Bool.false_or]
        cases h3 : [47].isPrefixOf base with
        | false =>
          have hor : base = [] ∨ ∃ c r, base = c :: r ∧ c ≠ 47 := by
            cases base with
            | nil => exact .inl rfl
            | cons c r =>
              refine .inr ⟨c, r, rfl, fun e => ?_⟩
              rw [e] at h3; simp at h3
          rcases hor with rfl | ⟨c, r, rfl, hc⟩
          · simp only [decide_true, Bool.true_eq_false, if_false, bd_ret, gd_tuple, if_true, cnd_true, Bool.not_false, if_true]
            exact bad
          · have e0 : ixs (.str (c :: r)) (.int .i64 0) = M.ret (.int .u8 (c.toNat : Int)) := rfl
            have c1 : ((c.toNat : Int) ≠ 47) = True := eq_true (fun e => hc (UInt8.toNat_inj.1 (by have : (47 : UInt8).toNat = 47 := rfl; omega)))
            have c2 : (c :: r = []) = False := eq_false (by simp)
            simp only [c2, decide_false, if_true, bd_ret, e0, bi_neq, c1, decide_true, Bool.false_eq_true, if_false, cnd_true, Bool.not_false]
            exact bad
        | true =>
          obtain ⟨r, rfl⟩ : ∃ r, base = 47 :: r := ⟨_, prefix1 h3⟩
          have e0 : ixs (.str (47 :: r)) (.int .i64 0) = M.ret (.int .u8 47) := rfl
          have c2 : ((47 : UInt8) :: r = []) = False := eq_false (by simp)
          simp only [c2, decide_false, if_true, bd_ret, e0, bi_neq, ne_eq, not_true_eq_false, Bool.false_eq_true, if_false, cnd_false, Bool.not_true]
          unfold f6_3
          simp only [fa_ptr, bd_ret]
          refine l.ld 2 rfl ?_
          have fin : ∀ (q : List UInt8) (H4 : Heap) (n4 : Nat), Lc gs n H n1 (Pc.av { p with pa := q }) 28 [(n, AObj.row (cells (.agg (Pc.av {}))) 28 (.own 0))] H4 n4 → q = pathB (47 :: r) p.pa →
              Ev (f6_4 (.ptr (some (n, 0))) (.ptr (some (n1, 0)))) H4 n4 fun v H' n' => v = AV.tuple [.agg (Pc.av { p with pa := dotsP (pathB (47 :: r) p.pa) }), .int .i64 0] ∧ Fr n H n' H' := by
            intro q H4 n4 l hq
            have hq1 : q ≠ [] := by rw [hq]; exact pathB_ne h3
            have hq2 : q.length < 90000000 := by rw [hq]; have := pathB_le (47 :: r) p.pa; omega
            rw [← hq]
            unfold f6_4
            try simp only [fa_ptr, bd_ret]
            refine l.ld 2 rfl ?_
            refine l.call (rdots_eq gs q hq1 hq2) fun H5 n5 l => ?_
            try simp only [fa_ptr, bd_ret]
            refine l.st 2 _ (by simp [Pc.av]) rfl fun H6 l => ?_
            refine l.lda 9 rfl ?_
            have l2 := l.turn (Nat.le_refl n) (fun p hp => by cases hp)
            refine l2.sta 9 _ rfl rfl rfl fun H7 l => ?_
            refine l.lda 9 rfl ?_
            exact l.done
          by_cases h4 : p.pa = []
          · have h4' : (p.pa = []) = True := eq_true h4
            simp only [bis_eql, h4', decide_true, bd_ret, cnd_true, fa_ptr]
            refine l.st 2 _ (by simp [Pc.av]) rfl fun H4 l => ?_
            have := fin (47 :: r) H4 _ l (by unfold pathB; rw [if_pos h4])
            rw [h1, h2] at this
            exact this
          · simp only [bis_eql, h4, decide_false, bd_ret, cnd_false, fa_ptr]
            refine l.ld 2 rfl ?_
            obtain ⟨c, t, hc⟩ : ∃ c t, p.pa = c :: t := by
              cases e : p.pa with
              | nil => exact absurd e h4
              | cons c t => exact ⟨c, t, rfl⟩
            have e0 : ixs (.str p.pa) (.int .i64 0) = M.ret (.int .u8 (c.toNat : Int)) := by rw [hc]; rfl
            simp only [e0, bd_ret, bi_neq]
            by_cases h5 : c = 47
            · have c1 : ((c.toNat : Int) ≠ 47) = False := eq_false (by rw [h5]; simp)
              simp only [c1, decide_false, cnd_false]
              have := fin p.pa H3 _ l (by unfold pathB; rw [if_neg h4, if_pos (by rw [hc, h5]; rfl)])
              rw [h1, h2] at this
              exact this
            · have c1 : ((c.toNat : Int) ≠ 47) = True := eq_true (fun e => h5 (UInt8.toNat_inj.1 (by have : (47 : UInt8).toNat = 47 := rfl; omega)))
              have hd := dirB_len (47 :: r)
              have hu := lsUpto_le (47 :: r) (47 :: r).length
              simp only [c1, decide_true, cnd_true, bd_ret, fa_ptr]
              refine l.ld 2 rfl ?_
              rw [rSlash_eq (47 :: r) (by omega), bd_ret]
              refine rck_self (by show beqL p.pa p.pa = true; rw [Pl.beqL_eq]; simp) ?_
              refine l.ld 2 rfl ?_
              rw [show beqA (.str p.pa) (.str p.pa) = true from by show beqL p.pa p.pa = true; rw [Pl.beqL_eq]; simp, cond_true]
              rw [bi_add, wr_i64 _ (by omega) (by omega), bd_ret, ss_to (47 :: r) .i64 _ (lsUpto (47 :: r) (47 :: r).length) (by omega) (by omega), bd_ret]
              rw [show (47 :: r).take (lsUpto (47 :: r) (47 :: r).length) = dirB (47 :: r) from rfl]
              rw [bis_add _ _ (by omega), bd_ret]
              try simp only [fa_ptr, bd_ret]
              refine l.st 2 _ (by simp [Pc.av]) rfl fun H4 l => ?_
              have := fin (dirB (47 :: r) ++ p.pa) H4 _ l (by unfold pathB; rw [if_neg h4, if_neg (by rw [hc]; simp [h5])])
              rw [h1, h2] at this
              exact this
theorem rTarget_eq (gs : List AObj) (base s : List UInt8) (hb : base.length ≤ 10000000) : Cm gs (f8 (.str base) (.str s)) (.tuple [.str (iriTarget base s).1, .str (iriTarget base s).2.1, .int .i64 (iriTarget base s).2.2]) := by
  intro H n ho
  unfold f8
  refine (rResolve_eq gs base s hb).call ho fun H1 n1 f1 => ?_
  simp only [ex_0, ex_1, bd_ret]
  refine Lc.start (ho.fr f1) _ rfl fun l => ?_
  suffices h : Ev (M.bd (Dn.sta 9 (.ptr (some (n1, 0))) (.agg (iriResolve base s).1.av)) _) _ _ fun v H' n' => v = AV.tuple [.str (iriTarget base s).1, .str (iriTarget base s).2.1, .int .i64 (iriTarget base s).2.2] ∧ Fr n1 H1 n' H' from h.mono fun v H' n' ⟨q1, q2⟩ => ⟨q1, f1.then q2⟩
  refine l.sta 9 _ rfl rfl rfl fun H2 l => ?_
  unfold iriTarget
  by_cases h0 : (iriResolve base s).2 = 0
  · simp only [h0, bi_neq, ne_eq, not_true_eq_false, decide_false, bd_ret, cnd_false, if_true, fa_ptr]
    generalize (iriResolve base s).1 = p at l
    refine l.ld 2 rfl ?_
    refine l.call (rNormal_eq gs p.pa) fun H3 n3 l => ?_
    simp only [ex_0, ex_1, bd_ret, fa_ptr]
    refine l.ld 7 rfl ?_
    cases h2 : p.hq with
    | true =>
      simp only [gd_bool, Bool.true_eq_false, if_false, bd_ret, gd_tuple, pk_bool, if_true, cnd_true, Bool.or_true]
      exact l.done
    | false =>
      simp only [gd_bool, if_true, bd_ret, un_not, pk_bool, Bool.false_eq_true, if_false, Bool.or_false]
      cases h1 : (normB p.pa).2 with
      | false =>
        simp only [Bool.not_false, cnd_true, if_true]
        exact l.done
      | true =>
        simp only [Bool.not_true, cnd_false, Bool.false_eq_true, if_false, bd_ret, fa_ptr]
        refine l.ld 4 rfl ?_
        try simp only [bd_ret]
        exact l.done
  · simp only [bi_neq, ne_eq, h0, not_false_eq_true, decide_true, bd_ret, cnd_true, if_false]
    exact l.done
end Go.Proofs.YtgljgjnhagidnaaGreatDoor.Den
