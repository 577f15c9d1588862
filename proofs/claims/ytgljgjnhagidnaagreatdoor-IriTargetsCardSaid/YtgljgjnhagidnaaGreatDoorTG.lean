/- The reference of layer 16: Cut and Join. -/
import Derived.Test.YtgljgjnhagidnaaGreatDoorTF
namespace Go.Proofs.YtgljgjnhagidnaaGreatDoor.Den
open Go Go.Dn Go.Dn.M Go.Dn.Pl
set_option maxRecDepth 100000
set_option linter.unusedVariables false
set_option linter.unusedSimpArgs false

theorem ref_hex_eq (c : Nat) : f67 (.int .u8 (c : Int)) = ret (.bool (hexB c)) := by
  unfold f67 hexB
  by_cases h1 : 48 ≤ c <;> by_cases h2 : c ≤ 57 <;> by_cases h3 : 97 ≤ c <;> by_cases h4 : c ≤ 102 <;> by_cases h5 : 65 ≤ c <;> by_cases h6 : c ≤ 70 <;> first | (exfalso; omega) | simp [h1, h2, h3, h4, h5, h6]
theorem badR_eq (c : Nat) : badR c = (decide (c < 33) || decide (c = 127) || decide (c = 34) || decide (c = 60) || decide (c = 62) || decide (c = 92) || decide (c = 94) || decide (c = 96) || decide (123 ≤ c) && decide (c ≤ 125)) := by
  unfold badR has barredL
  rw [Bool.eq_iff_iff]
  simp
  omega
theorem ref_Right_loop (s : List UInt8) (hs : s.length < 1000000000) : ∀ (k i : Nat), s.length - i < k → i ≤ s.length →
    f40_l4 k (.str s) (.int .i64 (i : Int)) = ret (.bool (rightR (s.drop i))) := by
  intro k
  induction k with
  | zero => intro i h; omega
  | succ k ih =>
    intro i h hi
    unfold f40_l4 f40_b4
    by_cases hlt : i < s.length
    · have h8 := toNat_lt s[i]
      have hn := ih (i + 1) (by omega) (by omega)
      rw [Int.natCast_add, Int.natCast_one] at hn
      rw [List.drop_eq_getElem_cons hlt]
      unfold rightR
      rw [pctOK_drop, badR_eq]
      by_cases h1 : s[i].toNat < 33
      · simp (disch := omega) [↓bd_ret, ↓cnd_true, ↓cnd_false, ↓cnd_bool, ↓gd_bool, ↓gd_tuple, hlt, h1]
      · by_cases h2 : s[i].toNat = 127
        · simp (disch := omega) [↓bd_ret, ↓cnd_true, ↓cnd_false, ↓cnd_bool, ↓gd_bool, ↓gd_tuple, hlt, h1, h2]
        · by_cases h3 : s[i].toNat = 34
          · simp (disch := omega) [↓bd_ret, ↓cnd_true, ↓cnd_false, ↓cnd_bool, ↓gd_bool, ↓gd_tuple, hlt, h1, h2, h3]
          · by_cases h4 : s[i].toNat = 60
            · simp (disch := omega) [↓bd_ret, ↓cnd_true, ↓cnd_false, ↓cnd_bool, ↓gd_bool, ↓gd_tuple, hlt, h1, h2, h3, h4]
            · by_cases h5 : s[i].toNat = 62
              · simp (disch := omega) [↓bd_ret, ↓cnd_true, ↓cnd_false, ↓cnd_bool, ↓gd_bool, ↓gd_tuple, hlt, h1, h2, h3, h4, h5]
              · by_cases h6 : s[i].toNat = 92
                · simp (disch := omega) [↓bd_ret, ↓cnd_true, ↓cnd_false, ↓cnd_bool, ↓gd_bool, ↓gd_tuple, hlt, h1, h2, h3, h4, h5, h6]
                · by_cases h7 : s[i].toNat = 94
                  · simp (disch := omega) [↓bd_ret, ↓cnd_true, ↓cnd_false, ↓cnd_bool, ↓gd_bool, ↓gd_tuple, hlt, h1, h2, h3, h4, h5, h6, h7]
                  · by_cases h9 : s[i].toNat = 96
                    · simp (disch := omega) [↓bd_ret, ↓cnd_true, ↓cnd_false, ↓cnd_bool, ↓gd_bool, ↓gd_tuple, hlt, h1, h2, h3, h4, h5, h6, h7, h9]
                    · by_cases ha : 123 ≤ s[i].toNat
                      · by_cases hb : s[i].toNat ≤ 125
                        · simp (disch := omega) [↓bd_ret, ↓cnd_true, ↓cnd_false, ↓cnd_bool, ↓gd_bool, ↓gd_tuple, hlt, h1, h2, h3, h4, h5, h6, h7, h9, ha, hb]
                        · have hc : ¬ s[i].toNat = 37 := by omega
                          simp (disch := omega) [↓bd_ret, ↓cnd_true, ↓cnd_false, ↓cnd_bool, ↓gd_bool, ↓gd_tuple, hlt, h1, h2, h3, h4, h5, h6, h7, h9, ha, hb, hc, hn]
                      · by_cases hc : s[i].toNat = 37
                        · by_cases hd : i + 2 < s.length
                          · have q1 : ((s.length : Int) ≤ (i : Int) + 2) = False := eq_false (by omega)
                            have e1 : ((i : Int) + 1).toNat = i + 1 := by omega
                            have e2 : ((i : Int) + 2).toNat = i + 2 := by omega
                            cases q2 : hexB s[i + 1].toNat with
                            | false => simp (disch := omega) [↓bd_ret, ↓cnd_true, ↓cnd_false, ↓cnd_bool, ↓gd_bool, ↓gd_tuple, hlt, h1, h2, h3, h4, h5, h6, h7, h9, ha, hc, hd, q1, ref_hex_eq, q2]
                            | true =>
                              cases q3 : hexB s[i + 2].toNat with
                              | false => simp (disch := omega) [↓bd_ret, ↓cnd_true, ↓cnd_false, ↓cnd_bool, ↓gd_bool, ↓gd_tuple, hlt, h1, h2, h3, h4, h5, h6, h7, h9, ha, hc, hd, q1, ref_hex_eq, q2, q3]
                              | true => simp (disch := omega) [↓bd_ret, ↓cnd_true, ↓cnd_false, ↓cnd_bool, ↓gd_bool, ↓gd_tuple, hlt, h1, h2, h3, h4, h5, h6, h7, h9, ha, hc, hd, q1, ref_hex_eq, q2, q3, hn]
                          · have q1 : ((s.length : Int) ≤ (i : Int) + 2) = True := eq_true (by omega)
                            simp (disch := omega) [↓bd_ret, ↓cnd_true, ↓cnd_false, ↓cnd_bool, ↓gd_bool, ↓gd_tuple, hlt, h1, h2, h3, h4, h5, h6, h7, h9, ha, hc, hd, q1]
                        · simp (disch := omega) [↓bd_ret, ↓cnd_true, ↓cnd_false, ↓cnd_bool, ↓gd_bool, ↓gd_tuple, hlt, h1, h2, h3, h4, h5, h6, h7, h9, ha, hc, hn]
    · have : s.drop i = [] := List.drop_eq_nil_of_le (by omega)
      simp [hlt, this, rightR, f40_2]
theorem ref_Right_eq (s : List UInt8) : f40 (.str s) = ret (.bool (iriRight s)) := by
  unfold f40 f40_0 iriRight
  by_cases h : s.length ≤ 1000
  · have h' : ¬ 1000 < s.length := by omega
    have := ref_Right_loop s (by omega) fuel 0 (by rw [fuel_pos]; omega) (Nat.zero_le _)
    simp [h, h', f40_1, f40_3]
    simpa using this
  · have h' : 1000 < s.length := by omega
    simp [h, h']
theorem ref_until_in (s t : List UInt8) (ht : t.length < 1000000) (L3 : AV → AV → AV → M AV) (i : Nat) (hi : i < s.length) : ∀ (k p : Nat), t.length - p < k → p ≤ t.length →
    f30_l7 L3 k (.str s) (.str t) (.int .i64 (i : Int)) (.int .i64 (p : Int)) = if has s[i].toNat (t.drop p) then ret (.int .i64 (i : Int)) else f30_5 L3 (.str s) (.str t) (.int .i64 (i : Int)) := by
  intro k
  induction k with
  | zero => intro p h; omega
  | succ k ih =>
    intro p h hp
    unfold f30_l7 f30_b7
    by_cases hlt : p < t.length
    · have hn := ih (p + 1) (by omega) (by omega)
      rw [Int.natCast_add, Int.natCast_one] at hn
      rw [List.drop_eq_getElem_cons hlt]
      have hh : has s[i].toNat (t[p] :: t.drop (p + 1)) = (decide (s[i].toNat = t[p].toNat) || has s[i].toNat (t.drop (p + 1))) := by
        unfold has
        rw [List.any_cons]
        congr 1
        rw [Bool.eq_iff_iff, beq_iff_eq, decide_eq_true_eq]
        exact ⟨fun h => h.symm, fun h => h.symm⟩
      rw [hh]
      by_cases he : s[i].toNat = t[p].toNat
      · simp (disch := omega) [hlt, he]
      · simp (disch := omega) [hlt, he, hn]
    · have : t.drop p = [] := List.drop_eq_nil_of_le (by omega)
      simp [hlt, this, has]
theorem ref_until_out (s t : List UInt8) (ht : t.length < 1000000) (hs : s.length < 1000000000) : ∀ (k i : Nat), s.length - i < k → i ≤ s.length →
    f30_l3 k (.str s) (.str t) (.int .i64 (i : Int)) = ret (.int .i64 ((i + (s.drop i).findIdx fun b => has b.toNat t : Nat) : Int)) := by
  intro k
  induction k with
  | zero => intro i h; omega
  | succ k ih =>
    intro i h hi
    unfold f30_l3 f30_b3
    by_cases hlt : i < s.length
    · have hn := ih (i + 1) (by omega) (by omega)
      rw [Int.natCast_add, Int.natCast_one] at hn
      have hin := ref_until_in s t ht (f30_l3 k) i hlt fuel 0 (by rw [fuel_pos]; omega) (Nat.zero_le _)
      simp only [lnS_str, bd_ret, bi_lss, Int.ofNat_lt, hlt, decide_true, cnd_true, f30_4, f30_6]
      rw [show ((0 : Nat) : Int) = (0 : Int) from rfl] at hin
      rw [hin, List.drop_zero, List.drop_eq_getElem_cons hlt, List.findIdx_cons]
      cases hh : has s[i].toNat t with
      | true => simp
      | false =>
        rw [if_neg (by simp), f30_5, bi_add, wr_i64 _ (by omega) (by omega), bd_ret, hn]
        simp only [cond_false]
        congr 2
        omega
    · have : s.drop i = [] := List.drop_eq_nil_of_le (by omega)
      have hi' : i = s.length := by omega
      simp [hlt, this, f30_1, hi']
theorem ref_until_eq (s t : List UInt8) (ht : t.length < 1000000) (hs : s.length < 1000000000) : f30 (.str s) (.str t) = ret (.int .i64 (untilB t s : Int)) := by
  unfold f30 f30_0 f30_2 untilB
  have := ref_until_out s t ht hs fuel 0 (by rw [fuel_pos]; omega) (Nat.zero_le _)
  simpa using this
theorem ref_scheme_loop (s : List UInt8) (hs : s.length < 1000000000) (hne : s ≠ []) : ∀ (k i : Nat), s.length - i < k → i ≤ s.length → 1 ≤ i →
    f41_l3 k (.str s) (.int .i64 (i : Int)) = ret (.bool ((s.drop i).all fun b => schemeC b.toNat)) := by
  intro k
  induction k with
  | zero => intro i h; omega
  | succ k ih =>
    intro i h hi h1
    unfold f41_l3 f41_b3
    by_cases hlt : i < s.length
    · have hn := ih (i + 1) (by omega) (by omega) (by omega)
      rw [Int.natCast_add, Int.natCast_one] at hn
      have h8 := toNat_lt s[i]
      rw [List.drop_eq_getElem_cons hlt, List.all_cons]
      have hi0 : ¬ i = 0 := by omega
      generalize hc : s[i].toNat = c at *
      unfold schemeC letterB
      by_cases q1 : 97 ≤ c
      · by_cases q2 : c ≤ 122
        · have z1 : ¬ c ≤ 90 := by omega
          simp (disch := omega) [hlt, hc, q1, q2, z1, hn, schemeC, letterB]
        · have z1 : ¬ c ≤ 90 := by omega
          have z6 : 65 ≤ c := by omega
          have z7 : 48 ≤ c := by omega
          have z2 : ¬ c ≤ 57 := by omega
          have z3 : ¬ c = 43 := by omega
          have z4 : ¬ c = 45 := by omega
          have z5 : ¬ c = 46 := by omega
          simp (disch := omega) [hlt, hc, q1, q2, z1, z2, z3, z4, z5, z6, z7, hi0]
      · by_cases q3 : 65 ≤ c
        · by_cases q4 : c ≤ 90
          · simp (disch := omega) [hlt, hc, q1, q3, q4, hn, schemeC, letterB]
          · have z2 : ¬ c ≤ 57 := by omega
            have z7 : 48 ≤ c := by omega
            have z3 : ¬ c = 43 := by omega
            have z4 : ¬ c = 45 := by omega
            have z5 : ¬ c = 46 := by omega
            simp (disch := omega) [hlt, hc, q1, q3, q4, z2, z3, z4, z5, z7, hi0]
        · by_cases q5 : 48 ≤ c
          · by_cases q6 : c ≤ 57
            · simp (disch := omega) [hlt, hc, q1, q3, q5, q6, hi0, hn, schemeC, letterB]
            · have z3 : ¬ c = 43 := by omega
              have z4 : ¬ c = 45 := by omega
              have z5 : ¬ c = 46 := by omega
              simp (disch := omega) [hlt, hc, q1, q3, q5, q6, z3, z4, z5, hi0]
          · by_cases q7 : c = 43
            · simp (disch := omega) [hlt, hc, q7, hi0, hn, schemeC, letterB]
            · by_cases q8 : c = 45
              · simp (disch := omega) [hlt, hc, q8, hi0, hn, schemeC, letterB]
              · by_cases q9 : c = 46
                · simp (disch := omega) [hlt, hc, q9, hi0, hn, schemeC, letterB]
                · simp (disch := omega) [hlt, hc, q1, q3, q5, q7, q8, q9, hi0]
    · have : s.drop i = [] := List.drop_eq_nil_of_le (by omega)
      simp [hlt, this, f41_1, hne]
theorem ref_scheme_eq (s : List UInt8) (hs : s.length < 1000000000) : f41 (.str s) = ret (.bool (schemeB s)) := by
  unfold f41 f41_0 f41_2
  have e : fuel = 4611686018427387903 + 1 := rfl
  rw [e]
  unfold f41_l3 f41_b3
  cases s with
  | nil => simp [f41_1, schemeB]
  | cons b r =>
    have hn := ref_scheme_loop (b :: r) hs (by simp) 4611686018427387903 1 (by omega) (by simp) (Nat.le_refl 1)
    rw [Int.natCast_one] at hn
    have h8 := toNat_lt b
    have hlt : 0 < (b :: r).length := by simp
    have hix : ixs (.str (b :: r)) (.int .i64 0) = M.ret (.int .u8 (b.toNat : Int)) := rfl
    simp only [lnS_str, bd_ret, bi_lss, lit_lt, hlt, decide_true, cnd_true, hix]
    rw [show schemeB (b :: r) = (letterB b.toNat && r.all fun c => schemeC c.toNat) from rfl]
    generalize hc : b.toNat = c at *
    unfold letterB
    by_cases q1 : 97 ≤ c
    · by_cases q2 : c ≤ 122
      · have z1 : ¬ c ≤ 90 := by omega
        simp (disch := omega) [q1, q2, z1, hn]
      · have z1 : ¬ c ≤ 90 := by omega
        have z6 : 65 ≤ c := by omega
        simp (disch := omega) [q1, q2, z1, z6]
    · by_cases q3 : 65 ≤ c
      · by_cases q4 : c ≤ 90
        · simp (disch := omega) [q1, q3, q4, hn]
        · simp (disch := omega) [q1, q3, q4]
      · simp (disch := omega) [q1, q3]
theorem head_take (s : List UInt8) (n : Nat) (h : n < s.length) : (s.drop n).head? = some s[n] := by rw [List.drop_eq_getElem_cons h]; rfl
theorem pre1 (c : UInt8) (s : List UInt8) : [c].isPrefixOf s = decide (s.head? = some c) := by
  cases s with
  | nil => rfl
  | cons b r =>
    rw [List.isPrefixOf_cons_cons, List.head?_cons, Bool.eq_iff_iff]
    simp
    exact ⟨fun h => h.symm, fun h => h.symm⟩
theorem refCut_eq (gs : List AObj) (s : List UInt8) : Cm gs (f17 (.str s)) (.tuple [.agg (iriCut s).1.av, .bool (iriCut s).2]) := by
  intro H n ho
  unfold f17
  refine Lc.start ho _ rfl fun l => ?_
  unfold f17_0
  rw [show ∀ zs : List AV, bu zs [] = M.ret (.agg zs) from fun _ => rfl, bd_ret]
  refine l.more _ (.agg _) rfl fun H1 l => ?_
  refine l.sta 9 _ rfl (by simp) rfl fun H2 l => ?_
  unfold f17_1 iriCut
  rw [ref_Right_eq]
  cases hr : iriRight s with
  | false =>
    simp
    refine l.lda 9 rfl ?_
    have l := l.turn (Nat.le_refl n) (by simp)
    refine l.sta 9 _ rfl (by simp) rfl fun H3 l => ?_
    refine l.lda 9 rfl ?_
    exact l.done
  | true =>
    have hs : s.length < 1000000000 := by
      unfold iriRight at hr
      rw [Bool.and_eq_true, decide_eq_true_eq] at hr; omega
    simp
    unfold f17_2
    rw [ref_until_eq _ _ (by decide) hs, bd_ret]
    have last : ∀ (p : Pc) H2, Lc gs n H (n + 1) p.av 28 [(n, .row (Pc.av {}) 28 (.own 0))] H2 (n + 1 + 1) →
        Ev (f17_10 (.ptr (some (n, 0))) (.ptr (some (n + 1, 0)))) H2 (n + 1 + 1) fun v H' n' => v = .tuple [.agg p.av, .bool true] ∧ Fr n H n' H' := by
      intro p H2 l
      unfold f17_10
      refine l.lda 9 rfl ?_
      have l := l.turn (Nat.le_refl n) (by simp)
      refine l.sta 9 _ rfl rfl rfl fun H3 l => ?_
      refine l.lda 9 rfl ?_
      exact l.done
    have frag : ∀ (p : Pc) (u : List UInt8), p.fr = [] → p.hf = false → u.length < 1000000000 → ∀ H2, Lc gs n H (n + 1) p.av 28 [(n, .row (Pc.av {}) 28 (.own 0))] H2 (n + 1 + 1) →
        Ev (f17_9 (.str u) (.ptr (some (n, 0))) (.ptr (some (n + 1, 0)))) H2 (n + 1 + 1) fun v H' n' => v = .tuple [.agg (Pc.av { p with fr := u.drop 1, hf := !u.isEmpty }), .bool true] ∧ Fr n H n' H' := by
      intro p u hp1 hp2 hu H2 l
      unfold f17_9
      obtain ⟨a1, a2, a3, a4, a5, a6, a7, a8, a9⟩ := p
      simp only at hp1 hp2
      subst hp1 hp2
      cases u with
      | nil =>
        simp only [bis_neq, bd_ret, ne_eq, not_true_eq_false, decide_false, cnd_false]
        exact last _ H2 l
      | cons b r =>
        simp only [bis_neq, bd_ret, ne_eq, reduceCtorEq, not_false_eq_true, decide_true, cnd_true, fa_ptr]
        refine l.st 8 _ (by simp [Pc.av]) rfl fun H3 l => ?_
        rw [ss_from (b :: r) .i64 1 1 rfl (by simp), bd_ret]
        try simp only [fa_ptr, bd_ret]
        refine l.st 4 _ (by simp [Pc.av]) rfl fun H4 l => ?_
        exact last _ H4 l
    have tail : ∀ (p : Pc) (u : List UInt8) (R : List UInt8 × List UInt8 × Bool × List UInt8 × Bool), cut3 u = R → p.pa = [] → p.qu = [] → p.hq = false → p.fr = [] → p.hf = false → u.length < 1000000000 → ∀ H2, Lc gs n H (n + 1) p.av 28 [(n, .row (Pc.av {}) 28 (.own 0))] H2 (n + 1 + 1) →
        Ev (f17_5 (.str u) (.ptr (some (n, 0))) (.ptr (some (n + 1, 0)))) H2 (n + 1 + 1) fun v H' n' => v = .tuple [.agg (Pc.av { p with pa := R.1, qu := R.2.1, hq := R.2.2.1, fr := R.2.2.2.1, hf := R.2.2.2.2 }), .bool true] ∧ Fr n H n' H' := by
      intro p u R hR z1 z2 z3 z4 z5 hu H2 l
      unfold f17_5
      rw [ref_until_eq _ _ (by decide) hu, bd_ret]
      unfold f17_6
      have hk : untilB [63, 35] u ≤ u.length := List.findIdx_le_length
      rw [← cut3_eq] at hR
      have hR : (if (u.drop (untilB [63, 35] u)).head? = some 63 then (u.take (untilB [63, 35] u), ((u.drop (untilB [63, 35] u)).take (untilB [35] (u.drop (untilB [63, 35] u)))).drop 1, true, ((u.drop (untilB [63, 35] u)).drop (untilB [35] (u.drop (untilB [63, 35] u)))).drop 1, !((u.drop (untilB [63, 35] u)).drop (untilB [35] (u.drop (untilB [63, 35] u)))).isEmpty) else (u.take (untilB [63, 35] u), [], false, (u.drop (untilB [63, 35] u)).drop 1, !(u.drop (untilB [63, 35] u)).isEmpty)) = R := hR
      generalize untilB [63, 35] u = k at *
      rw [ss_to u .i64 (k : Int) k rfl hk]
      simp only [bd_ret, fa_ptr]
      refine l.st 2 _ (by simp [Pc.av]) rfl fun H3 l => ?_
      unfold f17_7
      rw [ss_from u .i64 (k : Int) k rfl hk, bd_ret]
      unfold f17_8
      have hlen : (u.drop k).length < 1000000000 := by simp; omega
      have l' : Lc gs n H (n + 1) (Pc.av { p with pa := u.take k }) 28 [(n, .row (Pc.av {}) 28 (.own 0))] H3 (n + 1 + 1) := l
      generalize u.drop k = w at *
      obtain ⟨a1, a2, a3, a4, a5, a6, a7, a8, a9⟩ := p
      simp only at z1 z2 z3 z4 z5
      subst z1 z2 z3 z4 z5
      cases w with
      | nil =>
        have hR : (u.take k, ([] : List UInt8), false, ([] : List UInt8), false) = R := hR
        subst hR
        simp only [bis_neq, bd_ret, ne_eq, not_true_eq_false, decide_false, gd_bool, Bool.false_eq_true, if_false, pk_bool, cnd_bool]
        exact frag { sc := a1, au := a2, pa := u.take k, hs := a6, ha := a7 } [] rfl rfl (by simp) H3 l'
      | cons b r =>
        have hix : ixs (.str (b :: r)) (.int .i64 0) = M.ret (.int .u8 (b.toNat : Int)) := rfl
        by_cases hb : b = 63
        · subst hb
          have hR : (u.take k, ((63 :: r).take (untilB [35] (63 :: r))).drop 1, true, ((63 :: r).drop (untilB [35] (63 :: r))).drop 1, !((63 :: r).drop (untilB [35] (63 :: r))).isEmpty) = R := hR
          have e63 : ((63 : UInt8).toNat : Int) = 63 := rfl
          simp only [bis_neq, bd_ret, ne_eq, reduceCtorEq, not_false_eq_true, decide_true, gd_bool, if_true, hix, bi_eql, e63, pk_bool, cnd_true, cnd_bool]
          rw [ref_until_eq _ _ (by decide) hlen, bd_ret]
          have hk2 : untilB [35] (63 :: r) ≤ (63 :: r).length := List.findIdx_le_length
          have hk3 : 1 ≤ untilB [35] (63 :: r) := by
            rw [until35, List.findIdx_cons]
            have : ((63 : UInt8).toNat == 35) = false := rfl
            rw [this]; simp
          generalize untilB [35] (63 :: r) = q at *
          subst hR
          try simp only [fa_ptr, bd_ret]
          refine l'.st 7 _ (by simp [Pc.av]) rfl fun H4 l => ?_
          rw [ss_both (63 :: r) .i64 .i64 1 (q : Int) 1 q rfl rfl hk3 hk2, bd_ret]
          try simp only [fa_ptr, bd_ret]
          refine l.st 3 _ (by simp [Pc.av]) rfl fun H5 l => ?_
          rw [ss_from (63 :: r) .i64 (q : Int) q rfl hk2, bd_ret]
          have e6 : ((63 :: r).take q).drop 1 = ((63 :: r).drop 1).take (q - 1) := List.drop_take
          rw [e6]
          exact frag { sc := a1, au := a2, pa := u.take k, hs := a6, ha := a7, hq := true, qu := ((63 :: r).drop 1).take (q - 1) } ((63 :: r).drop q) rfl rfl (by rw [List.length_drop]; omega) H5 l
        · have hbn : ¬ (b.toNat : Int) = 63 := fun e => hb (UInt8.toNat_inj.1 (by have : (63 : UInt8).toNat = 63 := rfl; omega))
          have hR : (u.take k, ([] : List UInt8), false, r, true) = R := by
            rw [← hR, if_neg (by simpa using hb)]; rfl
          subst hR
          simp only [bis_neq, bd_ret, ne_eq, reduceCtorEq, not_false_eq_true, decide_true, gd_bool, if_true, hix, bi_eql, hbn, decide_false, pk_bool, cnd_false, Bool.false_eq_true, if_false, cnd_bool]
          exact frag { sc := a1, au := a2, pa := u.take k, hs := a6, ha := a7 } (b :: r) rfl rfl hlen H3 l'
    have auth : ∀ (sc : List UInt8) (hs' : Bool) (t : List UInt8) (R : List UInt8 × Bool × List UInt8), cut2 t = R → t.length < 1000000000 → ∀ H2, Lc gs n H (n + 1) (Pc.av { sc := sc, hs := hs' }) 28 [(n, .row (Pc.av {}) 28 (.own 0))] H2 (n + 1 + 1) →
        Ev (f17_4 (.str t) (.ptr (some (n, 0))) (.ptr (some (n + 1, 0)))) H2 (n + 1 + 1) fun v H' n' => v = .tuple [.agg (Pc.av { sc := sc, hs := hs', au := R.1, ha := R.2.1, pa := (cut3 R.2.2).1, qu := (cut3 R.2.2).2.1, hq := (cut3 R.2.2).2.2.1, fr := (cut3 R.2.2).2.2.2.1, hf := (cut3 R.2.2).2.2.2.2 }), .bool true] ∧ Fr n H n' H' := by
      intro sc hs' t R hR ht H2 l
      unfold f17_4
      have no : [47, 47].isPrefixOf t = false → Ev (f17_5 (.str t) (.ptr (some (n, 0))) (.ptr (some (n + 1, 0)))) H2 (n + 1 + 1) fun v H' n' => v = .tuple [.agg (Pc.av { sc := sc, hs := hs', au := R.1, ha := R.2.1, pa := (cut3 R.2.2).1, qu := (cut3 R.2.2).2.1, hq := (cut3 R.2.2).2.2.1, fr := (cut3 R.2.2).2.2.2.1, hf := (cut3 R.2.2).2.2.2.2 }), .bool true] ∧ Fr n H n' H' := by
        intro hp
        have e : cut2 t = ([], false, t) := by unfold cut2; rw [hp]; rfl
        rw [e] at hR
        subst hR
        exact tail { sc := sc, hs := hs' } t _ rfl rfl rfl rfl rfl rfl ht H2 l
      have h00 : ((0 : Nat) : Int) = 0 := rfl
      match t, ht, no, hR with
      | [], ht, no, hR =>
        have e1 : ¬ (1 : Int) < ((([] : List UInt8).length : Nat) : Int) := by simp
        simp only [lnS_str, bd_ret, bi_gtr, e1, decide_false, gd_bool, gd_tuple, Bool.false_eq_true, if_false, pk_bool, cnd_false, cnd_bool]
        exact no rfl
      | [b], ht, no, hR =>
        have e1 : ¬ (1 : Int) < (([b].length : Nat) : Int) := by simp
        simp only [lnS_str, bd_ret, bi_gtr, e1, decide_false, gd_bool, gd_tuple, Bool.false_eq_true, if_false, pk_bool, cnd_false, cnd_bool]
        exact no (by rw [List.isPrefixOf_cons_cons]; simp)
      | b :: c :: r, ht, no, hR =>
        have h0 : ixs (.str (b :: c :: r)) (.int .i64 0) = M.ret (.int .u8 (b.toNat : Int)) := rfl
        have h1 : ixs (.str (b :: c :: r)) (.int .i64 1) = M.ret (.int .u8 (c.toNat : Int)) := rfl
        have hln : (1 : Int) < (((b :: c :: r).length : Nat) : Int) := by simp; omega
        have h47 : (47 : UInt8).toNat = 47 := rfl
        by_cases hb : b = 47
        · subst hb
          have e47 : ((47 : UInt8).toNat : Int) = 47 := rfl
          by_cases hc : c = 47
          · subst hc
            have e : cut2 (47 :: 47 :: r) = ((aheadB [47, 63, 35] r).1, true, (aheadB [47, 63, 35] r).2) := rfl
            rw [e] at hR
            subst hR
            have hrl : r.length < 1000000000 := by simp at ht; omega
            simp only [lnS_str, bd_ret, bi_gtr, hln, decide_true, gd_bool, if_true, h0, h1, bi_eql, e47, pk_bool, cnd_true, cnd_bool]
            rw [show ss (.str (47 :: 47 :: r)) (some (.int .i64 2)) none = M.ret (.str r) from ss_from (47 :: 47 :: r) .i64 2 2 rfl (by simp), bd_ret]
            rw [ref_until_eq _ _ (by decide) hrl, bd_ret]
            have hk : untilB [47, 63, 35] r ≤ r.length := List.findIdx_le_length
            try simp only [fa_ptr, bd_ret]
            refine l.st 6 _ (by simp [Pc.av]) rfl fun H3 l => ?_
            rw [ss_to r .i64 _ _ rfl hk, bd_ret]
            try simp only [fa_ptr, bd_ret]
            refine l.st 1 _ (by simp [Pc.av]) rfl fun H4 l => ?_
            rw [ss_from r .i64 _ _ rfl hk, bd_ret]
            exact tail { sc := sc, hs := hs', au := (aheadB [47, 63, 35] r).1, ha := true } (aheadB [47, 63, 35] r).2 _ rfl rfl rfl rfl rfl rfl (by have := (aheadB_len [47, 63, 35] r).2; omega) H4 l
          · have hcn : ¬ (c.toNat : Int) = 47 := fun e => hc (UInt8.toNat_inj.1 (by omega))
            simp only [lnS_str, bd_ret, bi_gtr, hln, decide_true, gd_bool, if_true, h0, h1, bi_eql, e47, hcn, decide_false, Bool.false_eq_true, if_false, pk_bool, cnd_false, cnd_bool]
            exact no (by rw [List.isPrefixOf_cons_cons, List.isPrefixOf_cons_cons]; simp; exact fun h => hc h.symm)
        · have hbn : ¬ (b.toNat : Int) = 47 := fun e => hb (UInt8.toNat_inj.1 (by omega))
          simp only [lnS_str, bd_ret, bi_gtr, hln, decide_true, gd_bool, gd_tuple, if_true, h0, h1, bi_eql, hbn, decide_false, Bool.false_eq_true, if_false, pk_bool, cnd_false, cnd_bool]
          exact no (by rw [List.isPrefixOf_cons_cons]; simp; exact fun h => absurd h.symm hb)
    have hk : untilB [58, 47, 63, 35] s ≤ s.length := List.findIdx_le_length
    have hah : aheadB [58, 47, 63, 35] s = (s.take (untilB [58, 47, 63, 35] s), s.drop (untilB [58, 47, 63, 35] s)) := rfl
    have l0 : Lc gs n H (n + 1) (Pc.av {}) 28 [(n, .row (Pc.av {}) 28 (.own 0))] H2 (n + 1 + 1) := l
    have fin : ∀ R, cut1 s = R → Ev (f17_3 (.str s) (.ptr (some (n, 0))) (.ptr (some (n + 1, 0))) (.int .i64 (untilB [58, 47, 63, 35] s : Int))) H2 (n + 1 + 1) fun v H' n' => v = .tuple [.agg (Pc.av { sc := R.1, hs := R.2.1, au := (cut2 R.2.2).1, ha := (cut2 R.2.2).2.1, pa := (cut3 (cut2 R.2.2).2.2).1, qu := (cut3 (cut2 R.2.2).2.2).2.1, hq := (cut3 (cut2 R.2.2).2.2).2.2.1, fr := (cut3 (cut2 R.2.2).2.2).2.2.2.1, hf := (cut3 (cut2 R.2.2).2.2).2.2.2.2 }), .bool true] ∧ Fr n H n' H' := by
      intro R hR
      unfold cut1 at hR
      rw [hah] at hR
      simp only at hR
      rw [pre1] at hR
      unfold f17_3
      generalize untilB [58, 47, 63, 35] s = k at *
      by_cases hlt : k < s.length
      · rw [head_take s k hlt] at hR
        have hlt' : (k : Int) < (s.length : Int) := by omega
        have hixk := ixs_nat s .i64 k hlt
        by_cases h58 : s[k] = 58
        · have e58 : (s[k].toNat : Int) = 58 := by rw [h58]; rfl
          have hq : decide (some s[k] = some (58 : UInt8)) = true := by rw [h58]; rfl
          rw [hq, Bool.true_and] at hR
          simp only [lnS_str, bd_ret, bi_lss, hlt', decide_true, gd_bool, if_true, hixk, bi_eql, e58, pk_bool]
          rw [ss_to s .i64 (k : Int) k rfl hk]
          simp only [bd_ret, gd_bool, if_true]
          rw [ref_scheme_eq _ (by simp; omega)]
          cases hsc : schemeB (s.take k) with
          | false =>
            rw [hsc] at hR
            subst hR
            simp only [bd_ret, pk_bool, if_true, cnd_false]
            exact auth [] false s _ rfl hs H2 l0
          | true =>
            rw [hsc] at hR
            subst hR
            simp only [bd_ret, pk_bool, if_true, cnd_true, fa_ptr]
            refine l0.st 5 _ (by simp [Pc.av]) rfl fun H3 l => ?_
            try simp only [bd_ret, fa_ptr]
            refine l.st 0 _ (by simp [Pc.av]) rfl fun H4 l => ?_
            rw [bi_add, wr_i64 _ (by omega) (by omega), bd_ret, ss_from s .i64 ((k : Int) + 1) (k + 1) (by omega) (by omega), bd_ret]
            have e7 : s.drop (k + 1) = (s.drop k).drop 1 := by rw [List.drop_drop]
            rw [e7]
            exact auth (s.take k) true ((s.drop k).drop 1) _ rfl (by simp; omega) H4 l
        · have hq : decide (some s[k] = some (58 : UInt8)) = false := by simpa using h58
          rw [hq] at hR
          subst hR
          have hne : ¬ (s[k].toNat : Int) = 58 := fun e => h58 (UInt8.toNat_inj.1 (by have : (58 : UInt8).toNat = 58 := rfl; omega))
          simp only [lnS_str, bd_ret, bi_lss, hlt', decide_true, gd_bool, gd_tuple, if_true, hixk, bi_eql, hne, decide_false, pk_bool, Bool.false_eq_true, if_false, cnd_false, cnd_bool]
          exact auth [] false s _ rfl hs H2 l0
      · have hd : (s.drop k).head? = none := by rw [List.drop_eq_nil_of_le (by omega)]; rfl
        rw [hd] at hR
        subst hR
        have hlt' : ¬ (k : Int) < (s.length : Int) := by omega
        simp only [lnS_str, bd_ret, bi_lss, hlt', decide_false, gd_bool, gd_tuple, Bool.false_eq_true, if_false, pk_bool, cnd_false, cnd_bool]
        exact auth [] false s _ rfl hs H2 l0
    exact fin _ rfl
end Go.Proofs.YtgljgjnhagidnaaGreatDoor.Den
