/- Go's library: the first of some signs. -/
import Derived.Test.YtgljgjnhagidnaaGreatDoorTA
namespace Go.Proofs.YtgljgjnhagidnaaGreatDoor.Den
open Go Go.Dn Go.Dn.M Go.Dn.Pl
set_option maxRecDepth 100000
set_option linter.unusedVariables false
set_option linter.unusedSimpArgs false

/-- The set of the signs of a text's first p. -/
def asc (t : List UInt8) (p : Nat) : List AV := (List.range 256).map fun j => AV.bool (has j (t.take p))
theorem asc_length (t : List UInt8) (p : Nat) : (asc t p).length = 256 := by simp [asc]
theorem asc_get (t : List UInt8) (p j : Nat) (h : j < 256) : (asc t p)[j]? = some (.bool (has j (t.take p))) := by simp [asc, h]
theorem asc_one (t : List UInt8) (p : Nat) : (asc t p).all oneCell = true := by
  rw [List.all_eq_true]; intro x hx
  simp only [asc, List.mem_map] at hx
  obtain ⟨j, _, rfl⟩ := hx; rfl
theorem asc_zero (t : List UInt8) : rep [AV.bool false] 256 = asc t 0 := by
  have : ∀ k, rep [AV.bool false] k = List.replicate k (AV.bool false) := fun k => by induction k with
    | zero => rfl
    | succ k ih => simp [rep, ih, List.replicate_succ]
  rw [this]
  apply List.ext_getElem?
  intro j
  by_cases h : j < 256
  · rw [asc_get _ _ _ h, List.getElem?_replicate, if_pos h]; rfl
  · rw [List.getElem?_eq_none (by simp; omega), List.getElem?_eq_none (by rw [asc_length]; omega)]
theorem asc_step (t : List UInt8) (p : Nat) (h : p < t.length) : lay (asc t p) t[p].toNat [.bool true] = asc t (p + 1) := by
  apply List.ext_getElem?
  intro j
  have h8 := toNat_lt t[p]
  rw [lay_get _ _ _ (by simp [asc_length]; omega)]
  by_cases hj : j < 256
  · rw [asc_get _ _ _ hj, asc_get _ _ _ hj]
    have ht : t.take (p + 1) = t.take p ++ [t[p]] := by rw [List.take_add_one]; simp [h]
    have hh : has j (t.take (p + 1)) = (has j (t.take p) || t[p].toNat == j) := by unfold has; rw [ht, List.any_append, List.any_cons, List.any_nil, Bool.or_false]
    rw [hh]
    by_cases e : t[p].toNat = j
    · subst e; simp
    · have e2 : (t[p].toNat == j) = false := by simpa using e
      simp only [e2, Bool.or_false, List.length_singleton]
      rw [if_neg (by omega)]
  · rw [List.getElem?_eq_none (l := asc t (p+1)) (by rw [asc_length]; omega), List.getElem?_eq_none (l := asc t p) (by rw [asc_length]; omega)]
    rw [if_neg (by simp; omega)]
theorem makeASCIISet_loop (gs : List AObj) (t : List UInt8) (ht : low t) (hl : t.length < 1000000) : ∀ (k p : Nat) (H : Heap) (n m i : Nat), t.length - p < k → p ≤ t.length → H.get i = some (.row (asc t p) 106 (.own 0)) → (∀ j, n ≤ j → H.get j = none) → m ≤ i → i < n →
    Ev (f95_l3 k (.str t) (.ptr (some (i, 0))) (.int .i64 (p : Int))) H n fun v H' n' => v = .tuple [.agg (asc t t.length), .bool true] ∧ Fr m H n' H' := by
  intro k
  induction k with
  | zero => intro p H n m i h; omega
  | succ k ih =>
    intro p H n m i h hp hi hf hm hin
    unfold f95_l3 f95_b3
    by_cases hlt : p < t.length
    · have hlo := ht.get hlt
      simp (disch := omega) [hlt, ixpa_nat, show ¬ 128 ≤ t[p].toNat by omega]
      rw [Ev_st _ _ _ _ hi _ _ rfl (by rw [asc_length]; omega) rfl, asc_step t p hlt]
      refine (ih (p + 1) _ n m i (by omega) (by omega) (get_set_same _ _ _) (fun j hj => by rw [get_set_ne _ _ _ _ (by omega)]; exact hf j hj) hm hin).mono fun v H' n' ⟨e, f⟩ => ⟨e, ?_⟩
      exact (Fr.set (.refl hf (by omega)) _ hm hin).trans f (Nat.le_refl m)
    · have hpe : p = t.length := by omega
      subst hpe
      simp [f95_1]
      have hA : List.take 256 (List.drop 0 (asc t t.length)) = asc t t.length := by rw [List.drop_zero, List.take_of_length_le (by rw [asc_length]; omega)]
      rw [Ev_lda _ _ _ _ hi _ _ (by rw [asc_length]; omega), hA, Ev_sta _ _ _ _ hi _ _ _ (asc_length _ _) rfl (by rw [asc_length]; omega) (asc_one _ _), lay_all _ _ rfl,
        Ev_lda _ _ _ _ (get_set_same _ _ _) _ _ (by rw [asc_length]; omega), hA]
      simp
      exact Fr.set (.refl hf (by omega)) _ hm hin
theorem makeASCIISet_eq (gs : List AObj) (t : List UInt8) (ht : low t) (hl : t.length < 1000000) : Cm gs (f95 (.str t)) (.tuple [.agg (asc t t.length), .bool true]) := by
  intro H n ho
  unfold f95 f95_0 f95_2
  rw [asc_zero t, Ev_bx _ _ _ _ (.agg (asc t 0)) (asc_one t 0)]
  refine ⟨ho.free n (Nat.le_refl n), ?_⟩
  refine (makeASCIISet_loop gs t ht hl fuel 0 _ (n + 1) n n (by rw [fuel_pos]; omega) (Nat.zero_le _) (get_set_same _ _ _) (fun j hj => by rw [get_set_ne _ _ _ _ (by omega)]; exact ho.free j (by omega)) (Nat.le_refl n) (by omega)).mono fun v H' n' ⟨e, f⟩ => ⟨e, ?_⟩
  exact (Fr.new (.refl ho.free (Nat.le_refl n)) _).trans f (Nat.le_refl n)
theorem IndexAny_set (gs : List AObj) (s t : List UInt8) (hs : s.length < 1000000000) : ∀ (k p : Nat) (H : Heap) (n m i : Nat), s.length - p < k → p ≤ s.length → H.get i = some (.row (asc t t.length) 106 (.own 0)) → (∀ j, n ≤ j → H.get j = none) → m ≤ i → i < n →
    Ev (f80_l12 k (.str s) (.ptr (some (i, 0))) (.int .i64 (p : Int))) H n fun v H' n' => v = .int .i64 (ixF (fun b => has b.toNat t) (s.drop p) p) ∧ Fr m H n' H' := by
  intro k
  induction k with
  | zero => intro p H n m i h; omega
  | succ k ih =>
    intro p H n m i h hp hi hf hm hin
    unfold f80_l12 f80_b12
    by_cases hlt : p < s.length
    · have h8 := toNat_lt s[p]
      simp (disch := omega) [hlt, f96, ixpa_nat]
      rw [bd_bd, Ev_ld _ _ _ _ hi _ (asc_get _ _ _ h8)]
      rw [List.drop_eq_getElem_cons hlt]
      unfold ixF
      simp only [List.take_length]
      cases hb : has s[p].toNat t with
      | true => simp; exact .refl hf (by omega)
      | false =>
        simp (disch := omega)
        exact ih (p + 1) H n m i (by omega) (by omega) hi hf hm hin
    · have : s.drop p = [] := List.drop_eq_nil_of_le (by omega)
      simp [hlt, this, ixF, f80_10]
      exact .refl hf (by omega)
theorem IndexAny_runes (gs : List AObj) (s t : List UInt8) (ht : low t) (hl : t.length < 1000000) (hs : s.length < 1000000000) : ∀ (k p : Nat) (H : Heap) (n m i : Nat), s.length - p < k → p ≤ s.length → H.get i = some (.iter s p) → Ok gs H n → m ≤ i → i < n → gs.length ≤ m →
    Ev (f80_l6 k (.str t) (.ptr (some (i, 0)))) H n fun v H' n' => v = .int .i64 (ixF (fun b => has b.toNat t) (s.drop p) p) ∧ Fr m H n' H' := by
  intro k
  induction k with
  | zero => intro p H n m i h; omega
  | succ k ih =>
    intro p H n m i h hp hi ho hm hin hg
    unfold f80_l6 f80_b6
    rw [Ev_nxs _ _ _ _ hi]
    by_cases hlt : p < s.length
    · rw [if_pos hlt]
      simp
      have hset : Fr m H n (H.set i (.iter s (p + (utf8 (s.drop p)).2))) := Fr.set (.refl ho.free (by omega)) _ hm hin
      have ho1 : Ok gs (H.set i (.iter s (p + (utf8 (s.drop p)).2))) n := ⟨ho.le, hset.free, fun j hj => (hset.keep j (by omega)).trans (ho.glob j hj)⟩
      refine (IndexRune_low gs t ht hl _).call ho1 fun H1 n1 f1 => ?_
      have hi1 : H1.get i = some (.iter s (p + (utf8 (s.drop p)).2)) := by rw [f1.keep i hin, get_set_same]
      have hd := List.drop_eq_getElem_cons hlt
      generalize hr : utf8 (s.drop p) = r at *
      have hf1 : Fr m H n1 H1 := hset.trans f1 (by omega)
      by_cases hlow : s[p].toNat < 128
      · rw [hd, utf8_low _ _ hlow] at hr
        subst hr
        simp [hlow, ixB_ge]
        rw [hd]; unfold ixF
        cases hb : has s[p].toNat t with
        | true => simp; exact hf1
        | false =>
          simp
          exact (ih (p + 1) H1 n1 m i (by omega) (by omega) hi1 (ho1.fr f1) hm (by have := f1.le; omega) hg).mono fun v H' n' ⟨e, f⟩ => ⟨e, hf1.trans f (Nat.le_refl m)⟩
      · have hh := utf8_high s[p] (s.drop (p + 1)) (by omega)
        rw [← hd, hr] at hh
        obtain ⟨q1, q2, q3, q4⟩ := hh
        have : ¬ r.1 < 128 := by omega
        simp [this]
        rw [List.length_drop] at q3
        refine (ih (p + r.2) H1 n1 m i (by omega) (by omega) hi1 (ho1.fr f1) hm (by have := f1.le; omega) hg).mono fun v H' n' ⟨e, f⟩ => ⟨?_, hf1.trans f (Nat.le_refl m)⟩
        rw [e]
        have hsp : s.drop p = (s.drop p).take r.2 ++ s.drop (p + r.2) := by rw [← List.drop_drop, List.take_append_drop]
        rw [hsp, ixF_skip _ _ _ _ (fun b hb => ?_), List.length_take, List.length_drop, Nat.min_eq_left q3]
        have h1 := q4 b hb
        unfold has
        rw [List.any_eq_false]
        intro c hc
        have := ht c hc
        simp; omega
    · have : s.drop p = [] := List.drop_eq_nil_of_le (by omega)
      rw [if_neg hlt]
      simp [this, ixF, f80_4]
      exact .refl ho.free (by omega)
theorem IndexAny_eq (gs : List AObj) (s t : List UInt8) (ht : low t) (h2 : 2 ≤ t.length) (hl : t.length < 1000000) (hs : s.length < 1000000000) : Cm gs (f80 (.str s) (.str t)) (.int .i64 (ixF (fun b => has b.toNat t) s 0)) := by
  unfold f80 f80_0
  have hne : ¬ t = [] := by intro e; subst e; simp at h2
  have h1 : ¬ t.length = 1 := by omega
  simp [hne, f80_1, h1, f80_13, f80_2, f94, f80_7]
  have run : Cm gs (f80_3 (.str s) (.str t)) (.int .i64 (ixF (fun b => has b.toNat t) s 0)) := by
    intro H n ho
    unfold f80_3 f80_5
    rw [Ev_rgs]
    refine ⟨ho.free n (Nat.le_refl n), ?_⟩
    refine (IndexAny_runes gs s t ht hl hs fuel 0 _ (n + 1) n n (by rw [fuel_pos]; omega) (Nat.zero_le _) (get_set_same _ _ _) (ho.fr (Fr.new (.refl ho.free (Nat.le_refl n)) _)) (Nat.le_refl n) (by omega) ho.le).mono fun v H' n' ⟨e, f⟩ => ⟨e, ?_⟩
    exact (Fr.new (.refl ho.free (Nat.le_refl n)) _).trans f (Nat.le_refl n)
  by_cases h8 : 8 < s.length
  · simp only [h8, if_true]
    refine Cm.bd (makeASCIISet_eq gs t ht hl) ?_
    simp
    intro H n ho
    rw [asc_zero t, Ev_bx _ _ _ _ (.agg (asc t 0)) (asc_one t 0)]
    refine ⟨ho.free n (Nat.le_refl n), ?_⟩
    show Ev (bd (sta 256 (.ptr (some (n, 0))) (.agg (asc t t.length))) _) (H.set n (.row (asc t 0) _ _)) _ _
    rw [Ev_sta _ _ _ _ (get_set_same _ _ _) _ _ _ (asc_length _ _) rfl (by rw [asc_length]; omega) (asc_one _ _), lay_all _ _ (by rw [asc_length, asc_length])]
    simp [f80_8, f80_9, f80_11]
    have hfr := Fr.set (Fr.new (.refl ho.free (Nat.le_refl n)) (.row (asc t 0) 106 (.own 0))) (.row (asc t t.length) 106 (.own 0)) (Nat.le_refl n) (Nat.lt_succ_self n)
    refine (IndexAny_set gs s t hs fuel 0 _ (n + 1) n n (by rw [fuel_pos]; omega) (Nat.zero_le _) (get_set_same _ _ _) hfr.free (Nat.le_refl n) (by omega)).mono fun v H' n' ⟨e, f⟩ => ⟨e, ?_⟩
    exact hfr.trans f (Nat.le_refl n)
  · simp only [h8, if_false]
    exact run
theorem ContainsAny_eq (gs : List AObj) (s t : List UInt8) (ht : low t) (h2 : 2 ≤ t.length) (hl : t.length < 1000000) (hs : s.length < 1000000000) : Cm gs (f58 (.str s) (.str t)) (.bool (s.any fun b => has b.toNat t)) := by
  unfold f58
  refine Cm.bd (IndexAny_eq gs s t ht h2 hl hs) ?_
  simp [ixF_ge]
  exact .ret gs _
end Go.Proofs.YtgljgjnhagidnaaGreatDoor.Den
