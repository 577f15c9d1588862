/- Reference 16: Relative. -/
import Derived.Test.YtgljgjnhagidnaaGreatDoorTRD
import Derived.Test.YtgljgjnhagidnaaGreatDoorTAS
namespace Go.Proofs.YtgljgjnhagidnaaGreatDoor.Den
open Go Go.Dn Go.Dn.M Go.Dn.Pl
set_option maxRecDepth 100000
set_option linter.unusedVariables false
set_option linter.unusedSimpArgs false

theorem until_has (c : Nat) (b : UInt8) (hb : b.toNat = c) (s : List UInt8) : decide (untilB [b] s < s.length) = has c s := by
  unfold untilB
  have e : (fun x : UInt8 => has x.toNat [b]) = fun x => x.toNat == c := by
    funext x
    rw [has1, hb, Bool.eq_iff_iff, beq_iff_eq, beq_iff_eq]
    exact ⟨fun h => h.symm, fun h => h.symm⟩
  rw [e, Bool.eq_iff_iff, decide_eq_true_eq, List.findIdx_lt_length]
  unfold has
  rw [List.any_eq_true]
theorem segs_head (s : List UInt8) (h : 0 < (segs s).length) : (segs s)[0] = (cutB 47 s).1 := by
  have e := segs_cut s
  have : (segs s)[0]? = some (cutB 47 s).1 := by
    rw [e]
    unfold cutB sl47
    split <;> simp_all
  rw [List.getElem?_eq_getElem h] at this
  exact Option.some.inj this
theorem rrel_end {x y : List UInt8} (hx : x.length ≤ 100000) (hy : y.length ≤ 100000) {H : Heap} {n : Nat} (hf : ∀ i, n ≤ i → H.get i = none) :
    Ev (f11_9 (.str x) (.str y)) H n fun r H' n' => r = .str (if has 58 (cutB 47 (x ++ y)).1 then 46 :: 47 :: (x ++ y) else x ++ y) ∧ Fr n H n' H' := by
  unfold f11_9
  rw [bis_add _ _ (by omega), bd_ret]
  have hl : (x ++ y).length ≤ 200000 := by simp; omega
  generalize x ++ y = o at hl
  have h0 : 0 < (segs o).length := List.length_pos_iff.2 (segs_ne _)
  refine Parts_eq o (by omega) hf fun v H1 n1 z1 f1 => ?_
  refine z1.sls.at .i64 0 h0 ?_
  have hc := (cutB_le 47 o).1
  rw [segs_head o h0, ref_until_eq _ _ (by simp) (by omega), bd_ret]
  refine Parts_eq o (by omega) f1.free fun w H2 n2 z2 f2 => ?_
  refine z2.sls.at .i64 0 h0 ?_
  rw [segs_head o h0]
  have hu := until_has 58 58 rfl (cutB 47 o).1
  simp only [lnS_str, bd_ret, bi_lss, Int.ofNat_lt, hu]
  cases has 58 (cutB 47 o).1 with
  | true =>
    simp only [cnd_true, if_true]
    rw [bis_add _ _ (by simp; omega), bd_ret, Ev_ret]
    exact ⟨rfl, f1.then f2⟩
  | false =>
    simp only [cnd_false, Bool.false_eq_true, if_false, Ev_ret, true_and]
    exact f1.then f2
theorem rrel_rest {B : List (List UInt8)} {w : AV} {H : Heap} {n : Nat} (hB : SlS H n B w) (hl : B.length ≤ 100000) {x8 : AV} {Q : AV → Heap → Nat → Prop} : ∀ (k i : Nat) (r : List UInt8), B.length - i < k → i ≤ B.length → r.length + ((B.drop i).map fun y => 47 :: y).flatten.length ≤ 10000000 →
    Ev (f11_9 x8 (.str (r ++ ((B.drop i).map fun y => 47 :: y).flatten))) H n Q → Ev (f11_l11 k w x8 (.str r) (.int .i64 (i : Int))) H n Q := by
  intro k
  induction k with
  | zero => intro i r h; omega
  | succ k ih =>
    intro i r h hi hr hQ
    unfold f11_l11 f11_b11
    rw [hB.len, bd_ret]
    by_cases hlt : i < B.length
    · have c1 : ((i : Int) < (B.length : Int)) = True := eq_true (by omega)
      have e : r ++ ((B.drop i).map fun y => 47 :: y).flatten = (r ++ ([47] ++ B[i])) ++ ((B.drop (i + 1)).map fun y => 47 :: y).flatten := by
        rw [List.drop_eq_getElem_cons hlt]
        simp only [List.map_cons, List.flatten_cons, List.append_assoc, List.cons_append, List.nil_append]
      rw [← List.length_append, e, List.length_append, List.length_append] at hr
      rw [e] at hQ
      have hx : ([47] ++ B[i]).length = B[i].length + 1 := by simp
      simp only [bi_lss, bd_ret, c1, decide_true, cnd_true]
      refine hB.at .i64 i hlt ?_
      rw [bis_add _ _ (by simp only [List.length_cons, List.length_nil]; omega), bd_ret, bis_add _ _ (by omega), bd_ret, bi_add, wr_i64 _ (by omega) (by omega), bd_ret, show ((i : Int) + 1) = ((i + 1 : Nat) : Int) from rfl]
      exact ih (i + 1) (r ++ ([47] ++ B[i])) (by omega) (by omega) (by rw [List.length_append]; omega) hQ
    · have c1 : ((i : Int) < (B.length : Int)) = False := eq_false (by omega)
      have hnil : B.drop i = [] := List.drop_eq_nil_of_le (by omega)
      rw [hnil] at hQ
      simp only [List.map_nil, List.flatten_nil, List.append_nil] at hQ
      simp only [bi_lss, bd_ret, c1, decide_false, cnd_false]
      exact hQ
theorem ups_succ (k : Nat) : upsB (k + 1) = [46, 46, 47] ++ upsB k := by unfold upsB; rw [List.replicate_succ, List.flatten_cons]
theorem ups_len' (k : Nat) : (upsB k).length = 3 * k := by
  induction k with
  | zero => rfl
  | succ k ih => rw [ups_succ, List.length_append, ih]; simp; omega
theorem rrel_ups {A : List (List UInt8)} {v : AV} {H : Heap} {n : Nat} (hA : SlS H n A v) (hl : A.length ≤ 100000) {w x7 : AV} {Q : AV → Heap → Nat → Prop} : ∀ (k i : Nat) (s : List UInt8), A.length - i < k → i < A.length → s.length + 3 * (A.length - i) ≤ 10000000 →
    Ev (f11_7 w x7 (.str (s ++ upsB (A.length - 1 - i)))) H n Q → Ev (f11_l13 k v w x7 (.str s) (.int .i64 (i : Int))) H n Q := by
  intro k
  induction k with
  | zero => intro i s h; omega
  | succ k ih =>
    intro i s h hi hs hQ
    unfold f11_l13 f11_b13
    rw [hA.len, bd_ret, bi_sub, wr_i64 _ (by omega) (by omega), bd_ret]
    by_cases hlt : i + 1 < A.length
    · have c1 : ((i : Int) < (A.length : Int) - 1) = True := eq_true (by omega)
      simp only [bi_lss, bd_ret, c1, decide_true, cnd_true]
      rw [bis_add _ _ (by simp; omega), bd_ret, bi_add, wr_i64 _ (by omega) (by omega), bd_ret, show ((i : Int) + 1) = ((i + 1 : Nat) : Int) from rfl]
      refine ih (i + 1) (s ++ [46, 46, 47]) (by omega) (by omega) (by simp; omega) ?_
      rw [show A.length - 1 - i = (A.length - 1 - (i + 1)) + 1 by omega, ups_succ] at hQ
      rw [List.append_assoc]
      exact hQ
    · have c1 : ((i : Int) < (A.length : Int) - 1) = False := eq_false (by omega)
      simp only [bi_lss, bd_ret, c1, decide_false, cnd_false]
      rw [show A.length - 1 - i = 0 by omega, show upsB 0 = [] from rfl, List.append_nil] at hQ
      exact hQ
theorem flat47 (l : List (List UInt8)) : (l.map fun y => 47 :: y).flatten.length = l.flatten.length + l.length := by
  induction l with
  | nil => rfl
  | cons x t ih => simp only [List.map_cons, List.flatten_cons, List.length_append, List.length_cons]; omega
theorem drop_flat : ∀ (l : List (List UInt8)) (k : Nat), (l.drop k).flatten.length ≤ l.flatten.length
  | [], k => by simp
  | x :: t, 0 => by simp
  | x :: t, k + 1 => by have := drop_flat t k; simp only [List.drop_succ_cons, List.flatten_cons, List.length_append]; omega
theorem rrel_out {A B : List (List UInt8)} {v w : AV} {H : Heap} {n : Nat} (hf : ∀ i, n ≤ i → H.get i = none) (hA : SlS H n A v) (hB : SlS H n B w) (hl1 : A.length ≤ 10000) (hl2 : B.length ≤ 10000) (hb : B.flatten.length ≤ 10000) (k : Nat) (h1 : k < A.length) (h2 : k < B.length) :
    Ev (f11_5 v w (.int .i64 (k : Int))) H n fun r H' n' => r = .str (if has 58 (cutB 47 (wayB (A.drop k) (B.drop k))).1 then 46 :: 47 :: wayB (A.drop k) (B.drop k) else wayB (A.drop k) (B.drop k)) ∧ Fr n H n' H' := by
  unfold f11_5 f11_6 f11_12
  refine rrel_ups hA (by omega) fuel k [] (by rw [fuel_pos]; omega) h1 (by simp only [List.length_nil]; omega) ?_
  rw [List.nil_append]
  unfold f11_7
  refine hB.at .i64 k h2 ?_
  unfold f11_8 f11_10
  have hd := drop_flat B k
  rw [List.drop_eq_getElem_cons h2, List.flatten_cons, List.length_append] at hd
  have hq := flat47 (B.drop (k + 1))
  rw [List.length_drop] at hq
  rw [bi_add, wr_i64 _ (by omega) (by omega), bd_ret, show ((k : Int) + 1) = ((k + 1 : Nat) : Int) from rfl]
  refine rrel_rest hB (by omega) fuel (k + 1) B[k] (by rw [fuel_pos]; omega) (by omega) (by omega) ?_
  have hw : upsB (A.length - 1 - k) ++ (B[k] ++ ((B.drop (k + 1)).map fun y => 47 :: y).flatten) = wayB (A.drop k) (B.drop k) := by
    unfold wayB
    rw [List.drop_eq_getElem_cons h2, joinS_cons, List.length_drop, show A.length - k - 1 = A.length - 1 - k by omega]
  rw [← hw]
  have hu := ups_len' (A.length - 1 - k)
  exact rrel_end (by omega) (by rw [List.length_append]; omega) hf
theorem relCut_go {A B : List (List UInt8)} {k : Nat} (h1 : k + 1 < A.length) (h2 : k + 1 < B.length) (e : A[k] = B[k]) : relCut (A.drop k) (B.drop k) = relCut (A.drop (k + 1)) (B.drop (k + 1)) := by
  rw [List.drop_eq_getElem_cons (l := A) (i := k) (by omega), List.drop_eq_getElem_cons (l := B) (i := k) (by omega), List.drop_eq_getElem_cons h1, List.drop_eq_getElem_cons h2]
  rw [relCut, if_pos e]
theorem relCut_no {A B : List (List UInt8)} {k : Nat} (h1 : k + 1 < A.length) (h2 : k + 1 < B.length) (e : ¬ A[k] = B[k]) : relCut (A.drop k) (B.drop k) = (A.drop k, B.drop k) := by
  rw [List.drop_eq_getElem_cons (l := A) (i := k) (by omega), List.drop_eq_getElem_cons (l := B) (i := k) (by omega), List.drop_eq_getElem_cons h1, List.drop_eq_getElem_cons h2]
  rw [relCut, if_neg e]
theorem relCut_last (F T : List (List UInt8)) (h : F.length ≤ 1 ∨ T.length ≤ 1) : relCut F T = (F, T) := by
  match F, T with
  | a :: a2 :: f, b :: b2 :: t => simp at h
  | [], T => unfold relCut; rfl
  | [a], T => unfold relCut; rfl
  | a :: a2 :: f, [] => unfold relCut; rfl
  | a :: a2 :: f, [b] => unfold relCut; rfl
theorem rrel_loop {A B : List (List UInt8)} {v w : AV} {H : Heap} {n : Nat} (hf : ∀ i, n ≤ i → H.get i = none) (hA : SlS H n A v) (hB : SlS H n B w) (hl1 : A.length ≤ 10000) (hl2 : B.length ≤ 10000) (hb : B.flatten.length ≤ 10000) : ∀ (K k : Nat), A.length - k < K → k < A.length → k < B.length →
    Ev (f11_l14 K v w (.int .i64 (k : Int))) H n fun r H' n' => r = .str (if has 58 (cutB 47 (wayB (relCut (A.drop k) (B.drop k)).1 (relCut (A.drop k) (B.drop k)).2)).1 then 46 :: 47 :: wayB (relCut (A.drop k) (B.drop k)).1 (relCut (A.drop k) (B.drop k)).2 else wayB (relCut (A.drop k) (B.drop k)).1 (relCut (A.drop k) (B.drop k)).2) ∧ Fr n H n' H' := by
  intro K
  induction K with
  | zero => intro k h; omega
  | succ K ih =>
    intro k h h1 h2
    unfold f11_l14 f11_b14
    simp only [bd_ret]
    rw [hA.len, bd_ret, bi_sub, wr_i64 _ (by omega) (by omega), bd_ret]
    have out := rrel_out hf hA hB hl1 hl2 hb k h1 h2
    by_cases q1 : k + 1 < A.length
    · have c1 : ((k : Int) < (A.length : Int) - 1) = True := eq_true (by omega)
      simp only [bi_lss, bd_ret, c1, decide_true, gd_bool, if_true]
      rw [hB.len, bd_ret, bi_sub, wr_i64 _ (by omega) (by omega), bd_ret]
      by_cases q2 : k + 1 < B.length
      · have c2 : ((k : Int) < (B.length : Int) - 1) = True := eq_true (by omega)
        simp only [bi_lss, bd_ret, c2, decide_true, gd_bool, if_true, pk_bool]
        refine hA.at .i64 k h1 ?_
        try simp only [bd_ret]
        refine hB.at .i64 k h2 ?_
        simp only [bis_eql, bd_ret, pk_bool, if_true]
        by_cases e : A[k] = B[k]
        · rw [relCut_go q1 q2 e]
          have ce : (A[k] = B[k]) = True := eq_true e
          simp only [ce, decide_true, cnd_true]
          rw [bi_add, wr_i64 _ (by omega) (by omega), bd_ret, show ((k : Int) + 1) = ((k + 1 : Nat) : Int) from rfl]
          exact ih (k + 1) (by omega) q1 q2
        · rw [relCut_no q1 q2 e]
          have ce : (A[k] = B[k]) = False := eq_false e
          simp only [ce, decide_false, cnd_false]
          exact out
      · have c2 : ((k : Int) < (B.length : Int) - 1) = False := eq_false (by omega)
        rw [relCut_last (A.drop k) (B.drop k) (by simp; omega)]
        simp only [bi_lss, bd_ret, c2, decide_false, gd_bool, Bool.false_eq_true, if_false, gd_tuple, pk_bool, if_true, cnd_false]
        exact out
    · have c1 : ((k : Int) < (A.length : Int) - 1) = False := eq_false (by omega)
      rw [relCut_last (A.drop k) (B.drop k) (by simp; omega)]
      simp only [bi_lss, bd_ret, c1, decide_false, gd_bool, Bool.false_eq_true, if_false, gd_tuple, pk_bool, cnd_false]
      exact out
theorem rRelative_eq (gs : List AObj) (source name : List UInt8) : Cm gs (f11 (.str source) (.str name)) (.str (relB source name)) := by
  intro H n ho
  unfold f11 f11_0
  simp only [bis_neq, bd_ret]
  have main : (source = [47] ∨ nameB source = true) → nameB name = true → Ev (f11_1 (.str source) (.str name)) H n fun v H' n' => v = .str (relB source name) ∧ Fr n H n' H' := by
    intro hsrc hn
    have hb : (decide (source = [47]) || nameB source) = true := by
      rcases hsrc with h | h
      · rw [decide_eq_true h]; rfl
      · rw [h]; simp
    unfold relB
    rw [hb, hn, Bool.true_and, if_pos rfl]
    have hl1 := nameB_len hn
    have hl2 : source.length ≤ 255 := by
      rcases hsrc with h | h
      · rw [h]; simp
      · exact nameB_len h
    have hp1 : 1 ≤ source.length := by
      rcases hsrc with h | h
      · rw [h]; simp
      · obtain ⟨r, rfl, _⟩ := nameB_cons h; simp
    have hp2 : 1 ≤ name.length := by obtain ⟨r, rfl, _⟩ := nameB_cons hn; simp
    unfold f11_1
    rw [ss_from source .i64 1 1 rfl hp1, bd_ret]
    refine Parts_eq (source.drop 1) (by simp; omega) ho.free fun v H1 n1 z1 f1 => ?_
    unfold f11_2
    rw [ss_from name .i64 1 1 rfl hp2, bd_ret]
    refine Parts_eq (name.drop 1) (by simp; omega) f1.free fun w H2 n2 z2 f2 => ?_
    unfold f11_3 f11_4
    have s1 := segs_le (source.drop 1)
    have s2 := segs_le (name.drop 1)
    have s3 := flatten_len (name.drop 1) _ rfl
    have s4 : 0 < (segs (source.drop 1)).length := List.length_pos_iff.2 (segs_ne _)
    have s5 : 0 < (segs (name.drop 1)).length := List.length_pos_iff.2 (segs_ne _)
    rw [List.length_drop] at s1 s2 s3
    have hA := z1.sls.keep f2.le fun i hi => f2.keep i hi
    have := rrel_loop f2.free hA z2.sls (by omega) (by omega) (by omega) fuel 0 (by rw [fuel_pos]; omega) s4 s5
    rw [List.drop_zero, List.drop_zero] at this
    exact this.mono fun r H' n' ⟨q1, q2⟩ => ⟨q1, f1.then (f2.then q2)⟩
  have no : ((decide (source = [47]) || nameB source) && nameB name) = false → relB source name = [] := fun h => by unfold relB; rw [h]; rfl
  have fr : Fr n H n H := .refl ho.free (Nat.le_refl n)
  have second : (source = [47] ∨ nameB source = true) → Ev (M.bd (f28 (.str name)) fun v7 => M.bd (un .not v7) fun v8 => M.bd (pk (.bool false) (.bool true) v8) fun v9 => cnd v9 (M.ret (.str [])) (f11_1 (.str source) (.str name))) H n fun v H' n' => v = .str (relB source name) ∧ Fr n H n' H' := by
    intro hsrc
    rw [rRight_eq, bd_ret]
    cases hn : nameB name with
    | true =>
      simp only [un_not, Bool.not_true, bd_ret, pk_bool, Bool.false_eq_true, if_false, cnd_false]
      exact main hsrc hn
    | false =>
      simp only [un_not, Bool.not_false, bd_ret, pk_bool, Bool.false_eq_true, if_false, cnd_true, Ev_ret]
      exact ⟨by rw [no (by rw [hn]; simp)], fr⟩
  by_cases h1 : source = [47]
  · have c1 : (source ≠ [47]) = False := eq_false (fun h => h h1)
    simp only [c1, decide_false, gd_bool, Bool.false_eq_true, if_false, bd_ret, gd_tuple, pk_bool, if_true]
    exact second (.inl h1)
  · have c1 : (source ≠ [47]) = True := eq_true h1
    simp only [c1, decide_true, gd_bool, if_true, bd_ret, rRight_eq, un_not, pk_bool]
    cases hs : nameB source with
    | true =>
      simp only [Bool.not_true, if_true, bd_ret]
      have := second (.inr hs)
      simp only [rRight_eq, un_not, bd_ret, pk_bool, Bool.false_eq_true, if_false] at this ⊢
      exact this
    | false =>
      simp only [Bool.not_false, Bool.true_eq_false, if_false, bd_ret, gd_tuple, if_true, cnd_true, Ev_ret]
      exact ⟨by rw [no (by rw [hs, decide_eq_false h1]; rfl)], fr⟩
end Go.Proofs.YtgljgjnhagidnaaGreatDoor.Den
