/- The layer iri: Relative. -/
import Derived.Test.YtgljgjnhagidnaaGreatDoorTO
import Derived.Test.YtgljgjnhagidnaaGreatDoorTAR
import Derived.Test.YtgljgjnhagidnaaGreatDoorDen05
namespace Go.Proofs.YtgljgjnhagidnaaGreatDoor.Den
open Go Go.Dn Go.Dn.M Go.Dn.Pl
set_option maxRecDepth 100000
set_option linter.unusedVariables false
set_option linter.unusedSimpArgs false

theorem rel_end (gs : List AObj) (hm : MaxIs gs) {F T : List (List UInt8)} {v w : AV} {H : Heap} {n : Nat} (ho : Ok gs H n) (hF : SlS H n F v) (hT : SlS H n T w) (h1 : 1 ≤ F.length) (h2 : F.length ≤ 256) (h3 : T.length ≤ 1000) (h4 : T.flatten.length ≤ 100000) :
    Ev (f10_3 (apN 6) v w) H n fun r H' n' => r = .str (if has 58 (cutB 47 (wayB F T)).1 then 46 :: 47 :: wayB F T else wayB F T) ∧ Fr n H n' H' := by
  unfold f10_3
  rw [hF.len, bd_ret, bi_sub, wr_i64 _ (by omega) (by omega), bd_ret, show ((F.length : Int) - 1) = ((F.length - 1 : Nat) : Int) by omega]
  refine (Repeat_eq gs (F.length - 1) (by omega)).call ho fun H1 n1 f1 => ?_
  have ho1 := ho.fr f1
  refine strJoin_eq (by omega) (by omega) ho1.free (hT.keep f1.le fun i hi => f1.keep i hi) fun H2 n2 f2 => ?_
  have ho2 := ho1.fr f2
  have hj : (joinS T).length ≤ 200000 := by
    cases T with
    | nil => simp [joinS]
    | cons x t => rw [joinS_len]; simp only [List.length_cons] at h3; omega
  have hu := ups_len (F.length - 1)
  rw [bis_add _ _ (by rw [hu]; omega), bd_ret]
  have hw : ups (F.length - 1) ++ joinS T = wayB F T := rfl
  rw [hw]
  have hlen : (wayB F T).length ≤ 300000 := by unfold wayB; rw [List.length_append]; have : (upsB (F.length - 1)).length = 3 * (F.length - 1) := hu; omega
  generalize wayB F T = o at hlen
  refine (Cut_eq gs hm o 47 (by omega)).call ho2 fun H3 n3 f3 => ?_
  have ho3 := ho2.fr f3
  simp only [ex_0, ex_1, ex_2, bd_ret]
  have hcl := (cutB_le (47 : UInt8).toNat o).1
  refine (Contains_eq gs hm (cutB (47 : UInt8).toNat o).1 58 (by omega)).call ho3 fun H4 n4 f4 => ?_
  have fr : Fr n H n4 H4 := f1.then (f2.then (f3.then f4))
  rw [show (47 : UInt8).toNat = 47 from rfl, show (58 : UInt8).toNat = 58 from rfl]
  cases has 58 (cutB 47 o).1 with
  | true =>
    simp only [cnd_true, if_true]
    rw [bis_add _ _ (by simp; omega), bd_ret, Ev_ret]
    exact ⟨rfl, fr⟩
  | false =>
    simp only [cnd_false, Bool.false_eq_true, if_false, Ev_ret]
    exact ⟨trivial, fr⟩
theorem rel_loop (gs : List AObj) (hm : MaxIs gs) : ∀ (k : Nat) (F T : List (List UInt8)) (v w : AV) (H : Heap) (n : Nat), F.length < k → Ok gs H n → SlS H n F v → SlS H n T w → 1 ≤ F.length → F.length ≤ 256 → 1 ≤ T.length → T.length ≤ 1000 → T.flatten.length ≤ 100000 →
    Ev (f10_l4 (apN 6) k v w) H n fun r H' n' => r = .str (if has 58 (cutB 47 (wayB (relCut F T).1 (relCut F T).2)).1 then 46 :: 47 :: wayB (relCut F T).1 (relCut F T).2 else wayB (relCut F T).1 (relCut F T).2) ∧ Fr n H n' H' := by
  intro k
  induction k with
  | zero => intro F T v w H n h; omega
  | succ k ih =>
    intro F T v w H n h ho hF hT h1 h2 h3 h4 h5
    unfold f10_l4 f10_b4
    simp only [bd_ret]
    rw [hF.len, bd_ret]
    simp only [bi_gtr, bd_ret]
    match F, T, h1, h3, hF, hT with
    | [a], T, _, _, hF, hT =>
      have c1 : ((1 : Int) < (([a] : List (List UInt8)).length : Int)) = False := eq_false (by simp)
      simp only [c1, decide_false, gd_bool, Bool.false_eq_true, if_false, bd_ret, gd_tuple, pk_bool, cnd_false]
      have : relCut [a] T = ([a], T) := by unfold relCut; rfl
      rw [this]
      exact rel_end gs hm ho hF hT (by simp) (by simp) h4 h5
    | a :: a2 :: f, [b], _, _, hF, hT =>
      have c1 : ((1 : Int) < ((a :: a2 :: f).length : Int)) = True := eq_true (by simp; omega)
      have c2 : ((1 : Int) < (([b] : List (List UInt8)).length : Int)) = False := eq_false (by simp)
      simp only [c1, decide_true, gd_bool, if_true, bd_ret]
      rw [hT.len, bd_ret]
      simp only [bi_gtr, bd_ret, c2, decide_false, pk_bool, if_true, gd_bool, Bool.false_eq_true, if_false, gd_tuple, cnd_false]
      have : relCut (a :: a2 :: f) [b] = (a :: a2 :: f, [b]) := by unfold relCut; rfl
      rw [this]
      exact rel_end gs hm ho hF hT (by simp) h2 h4 h5
    | a :: a2 :: f, b :: b2 :: t, _, _, hF, hT =>
      have c1 : ((1 : Int) < ((a :: a2 :: f).length : Int)) = True := eq_true (by simp; omega)
      have c2 : ((1 : Int) < ((b :: b2 :: t).length : Int)) = True := eq_true (by simp; omega)
      simp only [c1, decide_true, gd_bool, if_true, bd_ret]
      rw [hT.len, bd_ret]
      simp only [bi_gtr, bd_ret, c2, decide_true, pk_bool, if_true, gd_bool]
      refine hF.at .i64 0 (by simp) ?_
      refine hT.at .i64 0 (by simp) ?_
      simp only [bis_eql, bd_ret, pk_bool, if_true]
      rw [show (a :: a2 :: f)[0]'(by simp) = a from rfl, show (b :: b2 :: t)[0]'(by simp) = b from rfl]
      by_cases hab : a = b
      · have ca : (a = b) = True := eq_true hab
        simp only [ca, decide_true, cnd_true, bd_ret]
        obtain ⟨v', hv1, hv2⟩ := hF.from .i64 1 (by simp)
        obtain ⟨w', hw1, hw2⟩ := hT.from .i64 1 (by simp)
        rw [show ((1 : Nat) : Int) = 1 from rfl] at hv1 hw1
        rw [hv1, bd_ret]
        simp only [hw1, bd_ret]
        have : relCut (a :: a2 :: f) (b :: b2 :: t) = relCut (a2 :: f) (b2 :: t) := by rw [relCut, if_pos hab]
        rw [this]
        simp only [List.length_cons, List.flatten_cons, List.length_append] at h h2 h4 h5
        exact ih (a2 :: f) (b2 :: t) v' w' H n (by simp; omega) ho hv2 hw2 (by simp) (by simp; omega) (by simp) (by simp; omega) (by simp only [List.flatten_cons, List.length_append]; omega)
      · have ca : (a = b) = False := eq_false hab
        simp only [ca, decide_false, cnd_false]
        have : relCut (a :: a2 :: f) (b :: b2 :: t) = (a :: a2 :: f, b :: b2 :: t) := by rw [relCut, if_neg hab]
        rw [this]
        exact rel_end gs hm ho hF hT (by simp) h2 h4 h5
theorem nameB_len {s : List UInt8} (h : nameB s = true) : s.length ≤ 255 := by
  obtain ⟨r, rfl, _, _, h3⟩ := nameB_cons h
  simp; omega
theorem iriRelative_eq (gs : List AObj) (hm : MaxIs gs) (source name : List UInt8) : Cm gs (f10 (apN 6) (.str source) (.str name)) (.str (relB source name)) := by
  intro H n ho
  unfold f10 f10_0
  simp only [bis_neq, bd_ret]
  have main : ∀ {H1 : Heap} {n1 : Nat}, Ok gs H1 n1 → Fr n H n1 H1 → (source = [47] ∨ nameB source = true) →
      Ev (M.bd (f22 (apN 6) (.str name)) fun v7 => M.bd (un .not v7) fun v8 => M.bd (pk (.bool false) (.bool true) v8) fun v9 => cnd v9 (M.ret (.str [])) (f10_1 (apN 6) (.str source) (.str name))) H1 n1 fun v H' n' => v = .str (relB source name) ∧ Fr n H n' H' := by
    intro H1 n1 ho1 f1 hsrc
    refine (pRight_eq gs hm 4 name).call ho1 fun H2 n2 f2 => ?_
    have ho2 := ho1.fr f2
    have hb : (decide (source = [47]) || nameB source) = true := by
      rcases hsrc with h | h
      · rw [decide_eq_true h]; rfl
      · rw [h]; simp
    unfold relB
    rw [hb, Bool.true_and]
    cases hn : nameB name with
    | false =>
      simp only [un_not, Bool.not_false, bd_ret, pk_bool, Bool.false_eq_true, if_false, cnd_true, Ev_ret]
      exact ⟨trivial, f1.then f2⟩
    | true =>
      simp only [un_not, Bool.not_true, bd_ret, pk_bool, Bool.false_eq_true, if_false, cnd_false, if_true]
      have hl1 := nameB_len hn
      have hl2 : source.length ≤ 255 := by
        rcases hsrc with h | h
        · rw [h]; simp
        · exact nameB_len h
      have hp1 : 1 ≤ source.length := by
        rcases hsrc with h | h
        · rw [h]; simp
        · obtain ⟨r, rfl, _⟩ := nameB_cons h; simp
      have hp2 : 1 ≤ name.length := by obtain ⟨r, rfl, _⟩ := nameB_cons hn; simp
      unfold f10_1
      simp only [bd_ret]
      rw [ss_from source .i64 1 1 rfl hp1, bd_ret]
      try simp only [bd_ret]
      rw [ss_from name .i64 1 1 rfl hp2, bd_ret]
      refine Split_eq gs hm (source.drop 1) (by simp; omega) ho2 fun H3 n3 l3 => ?_
      have hF : SlS H3 n3 (segs (source.drop 1)) (.sl n2 0 (segs (source.drop 1)).length (segs (source.drop 1)).length 1) := .inr ⟨n2, 0, _, _, _, _, rfl, Nat.le_refl _, l3.row, by rw [List.drop_zero, List.take_of_length_le (by simp)], l3.hi⟩
      refine Split_eq gs hm (name.drop 1) (by simp; omega) l3.ok fun H4 n4 l4 => ?_
      have hT : SlS H4 n4 (segs (name.drop 1)) (.sl n3 0 (segs (name.drop 1)).length (segs (name.drop 1)).length 1) := .inr ⟨n3, 0, _, _, _, _, rfl, Nat.le_refl _, l4.row, by rw [List.drop_zero, List.take_of_length_le (by simp)], l4.hi⟩
      try simp only [bd_ret]
      unfold f10_2
      have s1 := segs_le (source.drop 1)
      have s2 := segs_le (name.drop 1)
      have s3 := flatten_len (name.drop 1) _ rfl
      have s4 : 0 < (segs (source.drop 1)).length := List.length_pos_iff.2 (segs_ne _)
      have s5 : 0 < (segs (name.drop 1)).length := List.length_pos_iff.2 (segs_ne _)
      rw [List.length_drop] at s1 s2 s3
      refine (rel_loop gs hm fuel _ _ _ _ H4 n4 (by rw [fuel_pos]; omega) l4.ok (hF.keep l4.fr.le fun i hi => l4.fr.keep i hi) hT s4 (by omega) s5 (by omega) (by omega)).mono fun v H' n' ⟨q1, q2⟩ => ⟨q1, ?_⟩
      exact f1.then (f2.then (l3.fr.then (l4.fr.then q2)))
  by_cases h1 : source = [47]
  · have c1 : (source ≠ [47]) = False := eq_false (fun h => h h1)
    simp only [c1, decide_false, gd_bool, Bool.false_eq_true, if_false, bd_ret, gd_tuple, pk_bool, if_true]
    exact main ho (.refl ho.free (Nat.le_refl n)) (.inl h1)
  · have c1 : (source ≠ [47]) = True := eq_true h1
    simp only [c1, decide_true, gd_bool, if_true, bd_ret]
    refine (pRight_eq gs hm 4 source).call ho fun H1 n1 f1 => ?_
    cases hs : nameB source with
    | false =>
      simp only [un_not, Bool.not_false, bd_ret, pk_bool, if_true, gd_bool, Bool.true_eq_false, if_false, gd_tuple, cnd_true, Ev_ret]
      refine ⟨?_, f1⟩
      unfold relB
      rw [hs, decide_eq_false h1]; rfl
    | true =>
      simp only [un_not, Bool.not_true, bd_ret, pk_bool, if_true, gd_bool, if_false]
      exact main (ho.fr f1) f1 (.inr hs)
end Go.Proofs.YtgljgjnhagidnaaGreatDoor.Den
