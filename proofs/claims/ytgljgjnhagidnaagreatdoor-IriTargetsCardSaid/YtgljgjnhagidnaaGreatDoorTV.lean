/- Reference 16: Parts. -/
import Derived.Test.YtgljgjnhagidnaaGreatDoorTK
import Derived.Test.YtgljgjnhagidnaaGreatDoorDen05
namespace Go.Proofs.YtgljgjnhagidnaaGreatDoor.Den
open Go Go.Dn Go.Dn.M Go.Dn.Pl
set_option maxRecDepth 100000
set_option linter.unusedVariables false
set_option linter.unusedSimpArgs false

theorem Parts_loop {m : Nat} (s : List UInt8) (hs : s.length < 100000000) : ∀ (k p : Nat) (dn : List (List UInt8)) (cur : List UInt8) (buf : AV) (H : Heap) (n : Nat), s.length - p < k → p ≤ s.length → (∀ i, n ≤ i → H.get i = none) → m ≤ n → SlZ H 9 m n ((dn ++ [cur]).map .str) buf → dn.length ≤ p → cur.length ≤ p →
    Ev (f29_l4 k (.str s) buf (.int .i64 (p : Int))) H n fun v H' n' => SlZ H' 9 m n' ((dn ++ segsAcc cur (s.drop p)).map .str) v ∧ Fr m H n' H' ∧ n ≤ n' := by
  intro k
  induction k with
  | zero => intro p dn cur buf H n h; omega
  | succ k ih =>
    intro p dn cur buf H n h hp hf hmn hz hd hc
    unfold f29_l4 f29_b4
    by_cases hlt : p < s.length
    · have c1 : ((p : Int) < (s.length : Int)) = True := eq_true (by omega)
      have hdr := List.drop_eq_getElem_cons hlt
      simp only [lnS_str, bd_ret, bi_lss, c1, decide_true, cnd_true]
      unfold f29_5
      rw [ixs_nat s .i64 p hlt, bd_ret]
      have i47 : decide ((s[p].toNat : Int) = 47) = decide (s[p] = 47) := by
        rw [decide_eq_decide]
        exact ⟨fun h => UInt8.toNat_inj.1 (by have : (47 : UInt8).toNat = 47 := rfl; omega), fun h => by rw [h]; rfl⟩
      simp only [bi_eql, bd_ret, i47]
      rw [hdr]
      by_cases hb : s[p] = 47
      · rw [hb]
        simp only [decide_true, cnd_true]
        refine put_str [] [] hf hmn hz (by simp; omega) fun v H1 n1 q1 q2 q3 => ?_
        unfold f29_6
        rw [bi_add, wr_i64 _ (by omega) (by omega), bd_ret, show ((p : Int) + 1) = ((p + 1 : Nat) : Int) from rfl]
        refine (ih (p + 1) (dn ++ [cur]) [] v H1 n1 (by omega) (by omega) q2.free (by omega) q1 (by simp; omega) (by simp)).mono fun v H' n' ⟨z1, z2, z3⟩ => ⟨?_, q2.trans z2 (Nat.le_refl m), by omega⟩
        rw [segsAcc_nil] at z1
        rw [segsAcc_slash]
        simpa using z1
      · have cb : (s[p] = 47) = False := eq_false hb
        simp only [cb, decide_false, cnd_false, bd_ret]
        rw [hz.len, bd_ret, List.length_map, List.length_append, List.length_singleton, bi_sub, wr_i64 _ (by omega) (by omega), bd_ret]
        rw [List.map_append] at hz
        obtain ⟨r, row, e1, e2, e3, e4, e5, e6, e7⟩ := SlZ.last (cs := dn.map AV.str) (x := .str cur) hz
        have e8 : ((dn.length + 1 : Nat) : Int) - 1 = ((dn.map AV.str).length : Int) := by simp
        rw [e8, e1, bd_ret, Ev_ld _ _ _ _ e2 _ e3]
        simp only [bd_ret]
        rw [bi_add, wr_i64 _ (by omega) (by omega), bd_ret, ss_both s .i64 .i64 (p : Int) ((p : Int) + 1) p (p + 1) rfl (by omega) (by omega) (by omega), bd_ret]
        have e9 : (s.drop p).take (p + 1 - p) = [s[p]] := by
          rw [hdr, show p + 1 - p = 1 by omega]; rfl
        rw [e9, bis_add _ _ (by simp; omega), bd_ret]
        rw [Ev_st _ _ _ _ e2 _ _ rfl e4 rfl, lay_one _ _ _ e4]
        unfold f29_6
        rw [bi_add, wr_i64 _ (by omega) (by omega), bd_ret, show ((p : Int) + 1) = ((p + 1 : Nat) : Int) from rfl]
        have hfr : Fr m H n (H.set r (.row (row.set (dn.map AV.str).length (.str (cur ++ [s[p]]))) 9 (.own 0))) := Fr.set (.refl hf hmn) _ e5 e6
        refine (ih (p + 1) dn (cur ++ [s[p]]) buf _ n (by omega) (by omega) hfr.free hmn (by rw [List.map_append]; exact e7 _) (by omega) (by simp; omega)).mono fun v H' n' ⟨z1, z2, z3⟩ => ⟨?_, hfr.trans z2 (Nat.le_refl m), z3⟩
        rw [segsAcc_cons _ _ _ hb]
        exact z1
    · have c1 : ((p : Int) < (s.length : Int)) = False := eq_false (by omega)
      have hnil : s.drop p = [] := List.drop_eq_nil_of_le (by omega)
      simp only [lnS_str, bd_ret, bi_lss, c1, decide_false, cnd_false]
      unfold f29_2
      rw [Ev_ret, hnil]
      refine ⟨?_, .refl hf hmn, Nat.le_refl n⟩
      have : segsAcc cur [] = [cur] := by unfold segsAcc; simp [segs]
      rw [this]; exact hz
/-- Parts: an own slice. -/
theorem Parts_eq (s : List UInt8) (hs : s.length < 100000000) {H : Heap} {n : Nat} (hf : ∀ i, n ≤ i → H.get i = none) {f : AV → M AV} {Q : AV → Heap → Nat → Prop}
    (k : ∀ v H' n', SlZ H' 9 n n' ((segs s).map .str) v → Fr n H n' H' → Ev (f v) H' n' Q) : Ev (M.bd (f29 (.str s)) f) H n Q := by
  unfold f29 f29_0
  have e0 : bsl 9 1 1 [(.str [])] [(0, 1, (.str []))] = M.bd (Dn.newRow 9 [.str []]) fun i => M.ret (.sl i 0 1 1 1) := rfl
  rw [e0]
  simp only [bd_bd, bd_ret]
  rw [Ev_newRow _ _ _ _ rfl]
  refine ⟨hf n (Nat.le_refl n), ?_⟩
  have hfr : Fr n H (n + 1) (H.set n (.row [.str []] 9 (.own 0))) := Fr.new (.refl hf (Nat.le_refl n)) _
  unfold f29_1 f29_3
  rw [Ev_bd]
  refine (Parts_loop (m := n) s hs fuel 0 [] [] _ _ (n + 1) (by rw [fuel_pos]; omega) (Nat.zero_le _) hfr.free (by omega) (.inr ⟨n, 1, [.str []], rfl, by omega, get_set_same _ _ _, rfl, Nat.le_refl _, rfl, Nat.le_refl n, by omega⟩) (Nat.zero_le _) (Nat.zero_le _)).mono fun v H' n' ⟨q1, q2, q3⟩ => ?_
  rw [List.drop_zero, segsAcc_nil, List.nil_append] at q1
  exact k v H' n' q1 (hfr.trans q2 (Nat.le_refl n))
end Go.Proofs.YtgljgjnhagidnaaGreatDoor.Den
