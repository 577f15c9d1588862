/- Reference 15: Slash, Normal. -/
import Derived.Test.YtgljgjnhagidnaaGreatDoorTQ
import Derived.Test.YtgljgjnhagidnaaGreatDoorTS
namespace Go.Proofs.YtgljgjnhagidnaaGreatDoor.Den
open Go Go.Dn Go.Dn.M Go.Dn.Pl
set_option maxRecDepth 100000
set_option linter.unusedVariables false
set_option linter.unusedSimpArgs false

theorem rSlash_loop (s : List UInt8) (hs : s.length < 1000000000) : ∀ (k i : Nat), s.length - i < k → i ≤ s.length →
    f18_l4 k (.str s) (.int .i64 ((lsUpto s i : Int) - 1)) (.int .i64 (i : Int)) = M.ret (.int .i64 ((lsUpto s s.length : Int) - 1)) := by
  intro k
  induction k with
  | zero => intro i h; omega
  | succ k ih =>
    intro i h hi
    unfold f18_l4 f18_b4
    by_cases hlt : i < s.length
    · have c1 : ((i : Int) < (s.length : Int)) = True := eq_true (by omega)
      have hn := ih (i + 1) (by omega) (by omega)
      have hst : lsUpto s (i + 1) = if s[i] = 47 then i + 1 else lsUpto s i := by
        show (if s[i]? = some 47 then i + 1 else lsUpto s i) = _
        rw [List.getElem?_eq_getElem hlt]; simp
      rw [hst] at hn
      simp only [lnS_str, bd_ret, bi_lss, c1, decide_true, cnd_true]
      unfold f18_5
      rw [ixs_nat s .i64 i hlt, bd_ret]
      simp only [bi_eql, bd_ret, is47]
      by_cases h47 : s[i] = 47
      · rw [if_pos h47] at hn
        simp only [h47, decide_true, cnd_true]
        unfold f18_6
        rw [bi_add, wr_i64 _ (by omega) (by omega), bd_ret]
        rw [show ((i + 1 : Nat) : Int) - 1 = (i : Int) by omega] at hn
        exact hn
      · rw [if_neg h47] at hn
        have cb : (s[i] = 47) = False := eq_false h47
        simp only [cb, decide_false, cnd_false]
        unfold f18_6
        rw [bi_add, wr_i64 _ (by omega) (by omega), bd_ret]
        exact hn
    · have c1 : ((i : Int) < (s.length : Int)) = False := eq_false (by omega)
      obtain rfl : i = s.length := by omega
      simp only [lnS_str, bd_ret, bi_lss, c1, decide_false, cnd_false]
      rfl
theorem rSlash_eq (s : List UInt8) (hs : s.length < 1000000000) : f18 (.str s) = M.ret (.int .i64 ((lsUpto s s.length : Int) - 1)) := by
  unfold f18 f18_0 f18_1 f18_3
  have := rSlash_loop s hs fuel 0 (by rw [fuel_pos]; omega) (Nat.zero_le _)
  rw [← this]; rfl
/-- A slice of bytes that the call makes, as a string. -/
theorem Ev_b2s_bsl {t : List UInt8} {k : Nat} {zs : List AV} {ps : List (Nat × Nat × AV)} (hz : bsl 5 1 k zs ps = M.bd (Dn.newRow 5 (bytesA t)) fun i => M.ret (.sl i 0 k k 1)) (hk : t.length = k) (h0 : k ≠ 0) {H : Heap} {n : Nat} {f : AV → M AV} {Q : AV → Heap → Nat → Prop}
    (hf : ∀ i, n ≤ i → H.get i = none) (hc : ∀ H', Fr n H (n + 1) H' → Ev (f (.str t)) H' (n + 1) Q) : Ev (M.bd (bsl 5 1 k zs ps) fun v => M.bd (b2s v) f) H n Q := by
  rw [hz, bd_bd, Ev_newRow _ _ _ _ (bytesA_all _)]
  refine ⟨hf n (Nat.le_refl n), ?_⟩
  rw [bd_ret]
  have e3 : b2s (.sl n 0 k k 1) (H.set n (.row (bytesA t) 5 (.own 0))) (n + 1) = some (.str t, H.set n (.row (bytesA t) 5 (.own 0)), n + 1) := by
    show (bif Nat.beq k 0 then M.ret (AV.str []) else M.bd (rd n 0 k) (fun cs => M.bd (M.ofO (bytesOf? cs)) fun l => M.ret (AV.str l))) _ _ = _
    rw [beqN_eq, decide_eq_false h0, cond_false]
    rw [bd_at (rd_at _ _ _ (get_set_same _ _ _) 0 k (by rw [bytesA_len]; omega))]
    have : ((bytesA t).drop 0).take k = bytesA t := by rw [List.drop_zero, List.take_of_length_le (by rw [bytesA_len]; omega)]
    rw [this, bytesA_back]
    rfl
  rw [Ev_bd]
  exact .of e3 (hc _ (Fr.new (.refl hf (Nat.le_refl n)) _))
theorem normK_long : ∀ (m : Nat) (s : List UInt8), s.length ≤ m → s.length ≤ 3 * (normK 0 s).length
  | 0, s, h => by omega
  | m + 1, [], h => by simp
  | m + 1, b :: r, h => by
    rw [normK]
    cases ht : toldB (b :: r) with
    | some v =>
      have h3 := toldB_len ht
      have h2 := normK_long m (r.drop 2) (by simp at h ⊢; omega)
      simp only
      rw [normK_drop 2 r, List.length_append]
      have : 1 ≤ (if plainC v = true then [UInt8.ofNat v] else pctB v).length := by split <;> simp [pctB]
      simp at h2 h3 ⊢; omega
    | none =>
      have h2 := normK_long m r (by simp at h; omega)
      simp only
      rw [List.length_append]
      have : 1 ≤ (if (signC b.toNat || decide (b.toNat = 47)) = true then [b] else pctB b.toNat).length := by split <;> simp [pctB]
      simp only [List.length_cons]; omega
theorem great_at (k : IntKind) (i : Nat) (hi : i < 16) : ixs (.str [48, 49, 50, 51, 52, 53, 54, 55, 56, 57, 65, 66, 67, 68, 69, 70]) (.int k (i : Int)) = M.ret (.int .u8 ((greatL.getD i 0).toNat : Int)) := by
  rw [ixs_nat _ _ _ (by simpa using hi)]
  unfold greatL
  rw [List.getD_eq_getElem?_getD, List.getElem?_eq_getElem (by simpa using hi)]; rfl
theorem rNormal_end (o : List UInt8) : f21_4 (.str o) = M.ret (ans o) := by
  unfold f21_4 ans
  rw [rRight_eq]
  cases nameB o with
  | true => simp only [bd_ret, un_not, Bool.not_true, cnd_false, if_true]
  | false => simp only [bd_ret, un_not, Bool.not_false, cnd_true, Bool.false_eq_true, if_false]
theorem pct_bsl (v : Nat) : bsl 5 1 3 [(.int .u8 0), (.int .u8 0), (.int .u8 0)] [(0, 1, (.int .u8 37)), (1, 1, (.int .u8 ((greatL.getD (v / 16) 0).toNat : Int))), (2, 1, (.int .u8 ((greatL.getD (v % 16) 0).toNat : Int)))] = M.bd (Dn.newRow 5 (bytesA (pctB v))) fun i => M.ret (.sl i 0 3 3 1) := rfl
theorem one_bsl (b : UInt8) : bsl 5 1 1 [(.int .u8 0)] [(0, 1, (.int .u8 (b.toNat : Int)))] = M.bd (Dn.newRow 5 (bytesA [b])) fun i => M.ret (.sl i 0 1 1 1) := rfl
theorem rNormal_loop (s : List UInt8) (hs : s.length ≤ 1000) : ∀ (k i : Nat) (o : List UInt8) (H : Heap) (n : Nat), s.length - i < k → i ≤ s.length → o.length ≤ 3 * i → (∀ j, n ≤ j → H.get j = none) →
    Ev (f21_l6 k (.str s) (.str o) (.str [48, 49, 50, 51, 52, 53, 54, 55, 56, 57, 65, 66, 67, 68, 69, 70]) (.int .i64 (i : Int))) H n fun v H' n' => v = ans (o ++ normK 0 (s.drop i)) ∧ Fr n H n' H' := by
  intro k
  induction k with
  | zero => intro i o H n h; omega
  | succ k ih =>
    intro i o H n h hi ho hf
    unfold f21_l6 f21_b6
    by_cases hlt : i < s.length
    · have c1 : ((i : Int) < (s.length : Int)) = True := eq_true (by omega)
      have h8 := toNat_lt s[i]
      have hdr := List.drop_eq_getElem_cons hlt
      -- on, j signs behind, x added
      have go : ∀ (j : Nat) (x : List UInt8) (H1 : Heap) (n1 : Nat) (z : Int), z = ((i + (j + 1) : Nat) : Int) → i + (j + 1) ≤ s.length → x.length ≤ 3 → Fr n H n1 H1 → n ≤ n1 → normK 0 (s.drop i) = x ++ normK j (s.drop (i + 1)) →
          Ev (f21_l6 k (.str s) (.str (o ++ x)) (.str [48, 49, 50, 51, 52, 53, 54, 55, 56, 57, 65, 66, 67, 68, 69, 70]) (.int .i64 z)) H1 n1 fun v H' n' => v = ans (o ++ normK 0 (s.drop i)) ∧ Fr n H n' H' := by
        intro j x H1 n1 z hz hj hx hf1 hn1 he
        rw [hz]
        refine (ih (i + (j + 1)) (o ++ x) H1 n1 (by omega) hj (by rw [List.length_append]; omega) hf1.free).mono fun v H' n' ⟨q1, q2⟩ => ⟨?_, hf1.trans (q2.weaken hn1) (Nat.le_refl n)⟩
        rw [q1, he, normK_drop j, List.drop_drop, show i + 1 + j = i + (j + 1) by omega, List.append_assoc]
      simp only [lnS_str, bd_ret, bi_lss, c1, decide_true, cnd_true]
      rw [ixs_nat s .i64 i hlt, bd_ret, ci_u8 _ h8, bd_ret, rTold_eq s (by omega) i hi, bd_ret, hdr]
      unfold toldI
      cases ht : toldB (s[i] :: s.drop (i + 1)) with
      | some v =>
        have h3 := toldB_len ht
        have hv := toldB_lt ht
        have hle : i + (2 + 1) ≤ s.length := by simp at h3; omega
        have hnk : ∀ x, x = (if plainC v then [UInt8.ofNat v] else pctB v) → normK 0 (s.drop i) = x ++ normK 2 (s.drop (i + 1)) := by
          intro x hx
          rw [hdr, normK, ht, hx]
        have c2 : ((0 : Int) ≤ (v : Int)) = True := eq_true (by omega)
        simp only [bi_geq, bd_ret, c2, decide_true, gd_bool, if_true, rPlain_eq v hv, pk_bool]
        rw [← hdr]
        cases hp : plainC v with
        | true =>
          simp only [cnd_true]
          have hwb : (v : Int) = ((UInt8.ofNat v).toNat : Int) := by rw [UInt8.toNat_ofNat', Nat.mod_eq_of_lt hv]
          rw [ci_int, wr_u8 _ (by omega) (by omega), bd_ret, hwb]
          refine Ev_b2s_bsl (one_bsl _) rfl (by omega) hf fun H1 f1 => ?_
          rw [bis_add _ _ (by simp; omega), bd_ret, bi_add, wr_i64 _ (by omega) (by omega), bd_ret]
          exact go 2 _ H1 (n + 1) _ (by omega) hle (by simp) f1 (by omega) (hnk _ (by rw [hp]; rfl))
        | false =>
          simp only [cnd_false, cnd_true]
          have e1 : bi .quo (.int .i64 (v : Int)) (.int .i64 16) = M.ret (.int .i64 ((v / 16 : Nat) : Int)) := by
            rw [bi_quo _ _ _ (by omega), show Int.tdiv (v : Int) 16 = ((v / 16 : Nat) : Int) from rfl, wr_i64 _ (by omega) (by omega)]
          have e2 : bi .rem (.int .i64 (v : Int)) (.int .i64 16) = M.ret (.int .i64 ((v % 16 : Nat) : Int)) := by
            rw [bi_rem _ _ _ (by omega)]; rfl
          simp only [e1, e2, bd_ret]
          rw [great_at _ _ (by omega), bd_ret]
          rw [great_at _ _ (by omega), bd_ret]
          refine Ev_b2s_bsl (pct_bsl v) rfl (by omega) hf fun H1 f1 => ?_
          rw [bis_add _ _ (by simp [pctB]; omega), bd_ret, bi_add, wr_i64 _ (by omega) (by omega), bd_ret]
          exact go 2 _ H1 (n + 1) _ (by omega) hle (by simp [pctB]) f1 (by omega) (hnk _ (by rw [hp]; rfl))
      | none =>
        have hnk : ∀ x, x = (if signC s[i].toNat || decide (s[i].toNat = 47) then [s[i]] else pctB s[i].toNat) → normK 0 (s.drop i) = x ++ normK 0 (s.drop (i + 1)) := by
          intro x hx
          rw [hdr, normK, ht, hx]
        simp only [bi_geq, bd_ret, show decide ((0 : Int) ≤ -1) = false from rfl, gd_bool, Bool.false_eq_true, if_false, gd_tuple, pk_bool, cnd_false, rSign_eq _ h8]
        rw [← hdr]
        have i47 : decide ((s[i].toNat : Int) = 47) = decide (s[i].toNat = 47) := by rw [decide_eq_decide]; omega
        have yes : (signC s[i].toNat || decide (s[i].toNat = 47)) = true → Ev (M.bd (bi .add (.int .i64 (i : Int)) (.int .i64 1)) fun v34 => M.bd (ss (.str s) (some (.int .i64 (i : Int))) (some v34)) fun v35 => M.bd (bi .add (.str o) v35) fun v36 => M.bd (bi .add (.int .i64 (i : Int)) (.int .i64 1)) fun v37 => f21_l6 k (.str s) v36 (.str [48, 49, 50, 51, 52, 53, 54, 55, 56, 57, 65, 66, 67, 68, 69, 70]) v37) H n fun v H' n' => v = ans (o ++ normK 0 (s.drop i)) ∧ Fr n H n' H' := by
          intro hy
          rw [bi_add, wr_i64 _ (by omega) (by omega), bd_ret, ss_both s .i64 .i64 (i : Int) ((i : Int) + 1) i (i + 1) rfl (by omega) (by omega) (by omega), bd_ret]
          have e9 : (s.drop i).take (i + 1 - i) = [s[i]] := by rw [hdr, show i + 1 - i = 1 by omega]; rfl
          rw [e9, bis_add _ _ (by simp; omega), bd_ret, bd_ret]
          exact go 0 _ H n _ (by omega) (by omega) (by simp) (.refl hf (Nat.le_refl n)) (Nat.le_refl n) (hnk _ (by rw [hy]; rfl))
        cases hsg : signC s[i].toNat with
        | true =>
          simp only [Bool.true_eq_false, if_false, bd_ret, gd_tuple, if_true, cnd_true]
          exact yes (by rw [hsg]; rfl)
        | false =>
          simp only [if_true, bd_ret, bi_eql, i47, Bool.false_eq_true, if_false]
          cases h47 : decide (s[i].toNat = 47) with
          | true =>
            simp only [cnd_true]
            exact yes (by rw [hsg, h47]; rfl)
          | false =>
            simp only [cnd_false]
            have e1 : bi .quo (.int .i64 (s[i].toNat : Int)) (.int .i64 16) = M.ret (.int .i64 ((s[i].toNat / 16 : Nat) : Int)) := by
              rw [bi_quo _ _ _ (by omega), show Int.tdiv (s[i].toNat : Int) 16 = ((s[i].toNat / 16 : Nat) : Int) from rfl, wr_i64 _ (by omega) (by omega)]
            have e2 : bi .rem (.int .i64 (s[i].toNat : Int)) (.int .i64 16) = M.ret (.int .i64 ((s[i].toNat % 16 : Nat) : Int)) := by
              rw [bi_rem _ _ _ (by omega)]; rfl
            simp only [e1, e2, bd_ret]
            rw [great_at _ _ (by omega), bd_ret]
            rw [great_at _ _ (by omega), bd_ret]
            refine Ev_b2s_bsl (pct_bsl s[i].toNat) rfl (by omega) hf fun H1 f1 => ?_
            rw [bis_add _ _ (by simp [pctB]; omega), bd_ret, bi_add, wr_i64 _ (by omega) (by omega), bd_ret]
            exact go 0 _ H1 (n + 1) _ (by omega) (by omega) (by simp [pctB]) f1 (by omega) (hnk _ (by rw [hsg, h47]; rfl))
    · have c1 : ((i : Int) < (s.length : Int)) = False := eq_false (by omega)
      have hnil : s.drop i = [] := List.drop_eq_nil_of_le (by omega)
      simp only [lnS_str, bd_ret, bi_lss, c1, decide_false, cnd_false]
      rw [rNormal_end, Ev_ret, hnil, show normK 0 [] = [] from rfl, List.append_nil]
      exact ⟨rfl, .refl hf (Nat.le_refl n)⟩
theorem rNormal_eq (gs : List AObj) (s : List UInt8) : Cm gs (f21 (.str s)) (.tuple [.str (normB s).1, .bool (normB s).2]) := by
  intro H n ho
  unfold f21 f21_0 f21_1
  simp only [lnS_str, bd_ret, bi_gtr]
  have ha : ans (normK 0 s) = .tuple [.str (normB s).1, .bool (normB s).2] := by
    unfold ans normB
    cases nameB (normK 0 s) <;> rfl
  by_cases h : s.length ≤ 1000
  · have c1 : ((1000 : Int) < (s.length : Int)) = False := eq_false (by omega)
    simp only [c1, decide_false, cnd_false]
    unfold f21_2 f21_3 f21_5
    refine (rNormal_loop s h fuel 0 [] H n (by rw [fuel_pos]; omega) (Nat.zero_le _) (by simp) ho.free).mono fun v H' n' ⟨q1, q2⟩ => ⟨?_, q2⟩
    rw [q1, List.nil_append, List.drop_zero, ha]
  · have c1 : ((1000 : Int) < (s.length : Int)) = True := eq_true (by omega)
    simp only [c1, decide_true, cnd_true, Ev_ret]
    refine ⟨?_, .refl ho.free (Nat.le_refl n)⟩
    rw [← ha]
    have := normK_long _ s (Nat.le_refl _)
    unfold ans
    rw [nameB_long _ (by omega)]; rfl
end Go.Proofs.YtgljgjnhagidnaaGreatDoor.Den
