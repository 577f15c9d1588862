/- The layer iri: references are cut. -/
import Derived.Test.YtgljgjnhagidnaaGreatDoorTC
import Derived.Test.YtgljgjnhagidnaaGreatDoorDen04
namespace Go.Proofs.YtgljgjnhagidnaaGreatDoor.Den
open Go Go.Dn Go.Dn.M Go.Dn.Pl
set_option maxRecDepth 100000
set_option linter.unusedVariables false
set_option linter.unusedSimpArgs false

theorem hex_eq (c : Nat) (h : c < 256) : f59 (.int .u8 (c : Int)) = ret (.bool (hexB c)) := by
  unfold f59
  rw [IndexByte_eq _ _ h]
  simp only [bd_ret, bi_geq, ixB_ge]
  have := all256 (p := fun c => has c [48, 49, 50, 51, 52, 53, 54, 55, 56, 57, 97, 98, 99, 100, 101, 102, 65, 66, 67, 68, 69, 70] == hexB c) (by decide +kernel) c h
  rw [beq_iff_eq] at this
  rw [this]
theorem right_loop (s : List UInt8) (hs : s.length < 1000000000) : ∀ (k i : Nat), s.length - i < k → i ≤ s.length →
    f31_l4 k (.str s) (.int .i64 (s.length : Int)) (.int .i64 (i : Int)) = ret (.bool (rightP (s.drop i))) := by
  intro k
  induction k with
  | zero => intro i h; omega
  | succ k ih =>
    intro i h hi
    unfold f31_l4 f31_b4
    by_cases hlt : i < s.length
    · have h8 := toNat_lt s[i]
      have hn := ih (i + 1) (by omega) (by omega)
      rw [Int.natCast_add, Int.natCast_one] at hn
      rw [List.drop_eq_getElem_cons hlt]
      unfold rightP
      rw [pctOK_drop]
      by_cases h1 : s[i].toNat ≤ 32
      · simp (disch := omega) [↓bd_ret, ↓cnd_true, ↓cnd_false, ↓cnd_bool, ↓gd_bool, ↓gd_tuple, hlt, h1]
      · by_cases h2 : s[i].toNat = 127
        · simp (disch := omega) [↓bd_ret, ↓cnd_true, ↓cnd_false, ↓cnd_bool, ↓gd_bool, ↓gd_tuple, hlt, h1, h2]
        · by_cases h3 : s[i].toNat = 37
          · by_cases h4 : i + 2 < s.length
            · have h5 := toNat_lt s[i + 1]
              have h6 := toNat_lt s[i + 2]
              have h7 : ((s.length : Int) ≤ (i : Int) + 2) = False := eq_false (by omega)
              have e1 : ((i : Int) + 1).toNat = i + 1 := by omega
              have e2 : ((i : Int) + 2).toNat = i + 2 := by omega
              cases h8 : hexB s[i + 1].toNat with
              | false => simp (disch := omega) [↓bd_ret, ↓cnd_true, ↓cnd_false, ↓cnd_bool, ↓gd_bool, ↓gd_tuple, hlt, h1, h2, h3, h4, h7, hex_eq, h8]
              | true =>
                cases h9 : hexB s[i + 2].toNat with
                | false => simp (disch := omega) [↓bd_ret, ↓cnd_true, ↓cnd_false, ↓cnd_bool, ↓gd_bool, ↓gd_tuple, hlt, h1, h2, h3, h4, h7, hex_eq, h8, h9]
                | true => simp (disch := omega) [↓bd_ret, ↓cnd_true, ↓cnd_false, ↓cnd_bool, ↓gd_bool, ↓gd_tuple, hlt, h1, h2, h3, h4, h7, hex_eq, h8, h9, hn]
            · have h7 : ((s.length : Int) ≤ (i : Int) + 2) = True := eq_true (by omega)
              simp (disch := omega) [↓bd_ret, ↓cnd_true, ↓cnd_false, ↓cnd_bool, ↓gd_bool, ↓gd_tuple, hlt, h1, h2, h3, h4, h7]
          · simp (disch := omega) [↓bd_ret, ↓cnd_true, ↓cnd_false, ↓cnd_bool, ↓gd_bool, ↓gd_tuple, hlt, h1, h2, h3, hn]
    · have : s.drop i = [] := List.drop_eq_nil_of_le (by omega)
      simp [hlt, this, rightP, f31_2]
theorem barred_low : low barredL := by intro b hb; simp [barredL] at hb; rcases hb with h | h | h | h | h | h | h | h | h <;> subst h <;> decide
theorem right_eq (gs : List AObj) (s : List UInt8) : Cm gs (f31 (.str s)) (.bool (iriRight s)) := by
  unfold f31 f31_0 iriRight
  by_cases h : s.length ≤ 1000
  · have h' : ¬ 1000 < s.length := by omega
    simp [h, h', rightR_eq]
    refine Cm.bd (ContainsAny_eq gs s barredL barred_low (by decide) (by decide) (by omega)) ?_
    cases hb : (s.any fun b => has b.toNat barredL) with
    | true => simp; exact .ret gs _
    | false =>
      simp [f31_1, f31_3]
      have := right_loop s (by omega) fuel 0 (by rw [fuel_pos]; omega) (Nat.zero_le _)
      apply Cm.of_eq
      simpa using this
  · have h' : 1000 < s.length := by omega
    simp [h, h']
    exact .ret gs _
/-! ### anyAt -/
theorem anyAt_in (t : List UInt8) (ht : low t) (L3 : AV → AV → M AV) (c i : Nat) (x10 : AV) (m : Nat) (Q : AV → Heap → Nat → Prop) : ∀ (k p : Nat) (H : Heap) (n j : Nat), t.length - p < k → p ≤ t.length → H.get j = some (.iter t p) → (∀ q, n ≤ q → H.get q = none) → m ≤ j → j < n →
    (has c (t.drop p) = true → ∀ H', Fr m H n H' → Q (.int .i64 (i : Int)) H' n) → (has c (t.drop p) = false → ∀ H', Fr m H n H' → Ev (L3 (.str t) x10) H' n Q) →
    Ev (f60_l8 L3 k (.str t) (.int .i64 (i : Int)) (.int .i32 (c : Int)) x10 (.ptr (some (j, 0)))) H n Q := by
  intro k
  induction k with
  | zero => intro p H n j h; omega
  | succ k ih =>
    intro p H n j h hp hj hf hm hjn q1 q2
    unfold f60_l8 f60_b8
    rw [Ev_nxs _ _ _ _ hj]
    by_cases hlt : p < t.length
    · have hlo := ht.get hlt
      have hd := List.drop_eq_getElem_cons hlt
      rw [if_pos hlt, hd, utf8_low _ _ hlo]
      rw [hd] at q1 q2
      have hfr : Fr m H n (H.set j (.iter t (p + 1))) := Fr.set (.refl hf (by omega)) _ hm hjn
      have hh : has c (t[p] :: t.drop (p + 1)) = (decide (c = t[p].toNat) || has c (t.drop (p + 1))) := by
        unfold has
        rw [List.any_cons]
        congr 1
        rw [Bool.eq_iff_iff, beq_iff_eq, decide_eq_true_eq]
        exact ⟨fun h => h.symm, fun h => h.symm⟩
      rw [hh] at q1 q2
      by_cases he : c = t[p].toNat
      · simp [he]
        exact q1 (by simp [he]) _ hfr
      · simp [he]
        refine ih (p + 1) _ n j (by omega) (by omega) (get_set_same _ _ _) (fun q hq => by rw [get_set_ne _ _ _ _ (by omega)]; exact hf q hq) hm hjn (fun a H' f' => q1 (by simp [he, a]) H' (hfr.trans f' (Nat.le_refl m))) (fun a H' f' => q2 (by simp [he, a]) H' (hfr.trans f' (Nat.le_refl m)))
    · have hdn : t.drop p = [] := List.drop_eq_nil_of_le (by omega)
      rw [if_neg hlt]
      simp
      exact q2 (by rw [hdn]; rfl) H (.refl hf (by omega))
theorem anyAt_out (gs : List AObj) (s t : List UInt8) (ht : low t) (hl : t.length < 1000000) (hs : s.length < 1000000000) : ∀ (k p : Nat) (H : Heap) (n m i : Nat), s.length - p < k → p ≤ s.length → H.get i = some (.iter s p) → Ok gs H n → m ≤ i → i < n → gs.length ≤ m →
    Ev (f60_l3 k (.str t) (.ptr (some (i, 0)))) H n fun v H' n' => v = .int .i64 (ixF (fun b => has b.toNat t) (s.drop p) p) ∧ Fr m H n' H' := by
  intro k
  induction k with
  | zero => intro p H n m i h; omega
  | succ k ih =>
    intro p H n m i h hp hi ho hm hin hg
    unfold f60_l3 f60_b3
    rw [Ev_nxs _ _ _ _ hi]
    by_cases hlt : p < s.length
    · rw [if_pos hlt]
      simp [f60_4, f60_5, f60_6]
      have hd := List.drop_eq_getElem_cons hlt
      generalize hr : utf8 (s.drop p) = r at *
      have hset : Fr m H n (H.set i (.iter s (p + r.2))) := Fr.set (.refl ho.free (by omega)) _ hm hin
      rw [Ev_rgs]
      refine ⟨hset.free n (Nat.le_refl n), ?_⟩
      have hset2 : Fr m H (n + 1) ((H.set i (.iter s (p + r.2))).set n (.iter t 0)) := hset.new _
      unfold f60_7
      have hnext : ∀ (w : Nat), r.2 = w → 1 ≤ w → p + w ≤ s.length → ixF (fun b => has b.toNat t) (s.drop p) p = ixF (fun b => has b.toNat t) (s.drop (p + w)) (p + w) → ∀ H', Fr n ((H.set i (.iter s (p + r.2))).set n (.iter t 0)) (n + 1) H' → Ev (f60_l3 k (.str t) (.ptr (some (i, 0)))) H' (n + 1) fun v H' n' => v = .int .i64 (ixF (fun b => has b.toNat t) (s.drop p) p) ∧ Fr m H n' H' := by
        intro w hw h1 h2 he H' f'
        have hi' : H'.get i = some (.iter s (p + w)) := by rw [f'.keep i hin, get_set_ne _ _ _ _ (by omega), get_set_same, hw]
        have ho' : Ok gs H' (n + 1) := by
          refine ⟨by have := ho.le; omega, f'.free, fun j hj => ?_⟩
          have hjn : j < n := by have := ho.le; omega
          rw [f'.keep j hjn, get_set_ne _ _ _ _ (by omega), get_set_ne _ _ _ _ (by omega)]; exact ho.glob j hj
        refine (ih (p + w) H' (n + 1) m i (by omega) (by omega) hi' ho' hm (by omega) hg).mono fun v H2 n2 ⟨e, f⟩ => ⟨by rw [he]; exact e, ?_⟩
        exact (hset2.trans f' (by omega)).trans f (Nat.le_refl m)
      refine anyAt_in t ht (f60_l3 k) r.1 p (.ptr (some (i, 0))) n _ fuel 0 _ (n + 1) n (by rw [fuel_pos]; omega) (Nat.zero_le _) (get_set_same _ _ _) hset2.free (Nat.le_refl n) (Nat.lt_succ_self n) ?_ ?_
      · intro hh H' f'
        refine ⟨?_, hset2.trans f' (by omega)⟩
        rw [List.drop_zero] at hh
        by_cases hlow : s[p].toNat < 128
        · rw [hd, utf8_low _ _ hlow] at hr
          subst hr
          rw [hd]; unfold ixF
          rw [if_pos hh]
        · have hq := utf8_high s[p] (s.drop (p + 1)) (by omega)
          rw [← hd, hr] at hq
          exfalso
          unfold has at hh
          rw [List.any_eq_true] at hh
          obtain ⟨b, hb, hb2⟩ := hh
          have := ht b hb
          simp at hb2
          omega
      · intro hh H' f'
        rw [List.drop_zero] at hh
        by_cases hlow : s[p].toNat < 128
        · rw [hd, utf8_low _ _ hlow] at hr
          refine hnext 1 (by rw [← hr]) (Nat.le_refl 1) (by omega) ?_ H' f'
          rw [hd]
          conv => lhs; unfold ixF
          rw [← hr] at hh
          simp only at hh
          rw [if_neg (by rw [hh]; simp)]
        · have hq := utf8_high s[p] (s.drop (p + 1)) (by omega)
          rw [← hd, hr] at hq
          obtain ⟨q1, q2, q3, q4⟩ := hq
          rw [List.length_drop] at q3
          refine hnext r.2 rfl q2 (by omega) ?_ H' f'
          have hsp : s.drop p = (s.drop p).take r.2 ++ s.drop (p + r.2) := by rw [← List.drop_drop, List.take_append_drop]
          rw [hsp, ixF_skip _ _ _ _ (fun b hb => ?_), List.length_take, List.length_drop, Nat.min_eq_left q3]
          have h1 := q4 b hb
          unfold has
          rw [List.any_eq_false]
          intro c hc
          have := ht c hc
          simp; omega
    · have : s.drop p = [] := List.drop_eq_nil_of_le (by omega)
      rw [if_neg hlt]
      simp [this, ixF, f60_4, f60_1]
      exact .refl ho.free (by omega)
theorem anyAt_eq (gs : List AObj) (s t : List UInt8) (ht : low t) (hl : t.length < 1000000) (hs : s.length < 1000000000) : Cm gs (f60 (.str s) (.str t)) (.int .i64 (ixF (fun b => has b.toNat t) s 0)) := by
  intro H n ho
  unfold f60 f60_0 f60_2
  rw [Ev_rgs]
  refine ⟨ho.free n (Nat.le_refl n), ?_⟩
  refine (anyAt_out gs s t ht hl hs fuel 0 _ (n + 1) n n (by rw [fuel_pos]; omega) (Nat.zero_le _) (get_set_same _ _ _) (ho.fr (Fr.new (.refl ho.free (Nat.le_refl n)) _)) (Nat.le_refl n) (by omega) ho.le).mono fun v H' n' ⟨e, f⟩ => ⟨e, ?_⟩
  exact (Fr.new (.refl ho.free (Nat.le_refl n)) _).trans f (Nat.le_refl n)
theorem ahead_eq (gs : List AObj) (s t : List UInt8) (ht : low t) (hl : t.length < 1000000) (hs : s.length < 1000000000) : Cm gs (f32 (.str s) (.str t)) (.tuple [.str (aheadB t s).1, .str (aheadB t s).2]) := by
  unfold f32
  refine Cm.bd (anyAt_eq gs s t ht hl hs) ?_
  apply Cm.of_eq
  rw [ixF_eq]
  unfold aheadB
  by_cases h : s.findIdx (fun b => has b.toNat t) < s.length
  · simp (disch := omega) [h]
  · have : s.findIdx (fun b => has b.toNat t) = s.length := by have := List.findIdx_le_length (xs := s) (p := fun b => has b.toNat t); omega
    simp [h, this]
/-! ### scheme -/
theorem apv_func (ap : FuncId → List AV → M AV) (g : FuncId) (a b xs : List AV) (h : g ≠ yldId) : apv ap (.func g a b) xs = ap g (a ++ (xs ++ b)) := by
  show (bif Nat.beq g yldId then fail else ap g (a ++ (xs ++ b))) = _
  rw [beqN_eq]; simp [h]
theorem letter1_eq (c : Nat) : f61 (.int .i32 (c : Int)) = ret (.bool (letterB c)) := by
  unfold f61 letterB
  by_cases h1 : 65 ≤ c <;> by_cases h2 : c ≤ 90 <;> by_cases h3 : 97 ≤ c <;> by_cases h4 : c ≤ 122 <;> first | (exfalso; omega) | simp [h1, h2, h3, h4]
theorem ap_letter (d : Nat) (c : Nat) : apv (apN (d + 1)) (.func 61 [] []) [.int .i32 (c : Int)] = ret (.bool (letterB c)) := by
  rw [apv_func _ _ _ _ _ (by decide)]
  exact letter1_eq c
theorem other_at (d : Nat) (c : Nat) (H : Heap) (n j : Nat) {e : TypeId} {rw' : Rw} (hj : H.get j = some (.row [.func 61 [] []] e rw')) : f62 (apN (d + 1)) (.int .i32 (c : Int)) (.ptr (some (j, 0))) H n = some (.bool (!schemeC c), H, n) := by
  unfold f62
  have e1 : ld (.ptr (some (j, 0))) H n = some (.func 61 [] [], H, n) := by
    unfold ld; simp only; rw [bd_at (getO_at hj n)]; rfl
  rw [bd_at e1, ap_letter]
  unfold schemeC
  cases h : letterB c with
  | true => simp; rfl
  | false =>
    by_cases h1 : c < 48
    · by_cases h2 : c = 43
      · subst h2; simp [h]; rfl
      · by_cases h3 : c = 45
        · subst h3; simp [h]; rfl
        · by_cases h4 : c = 46
          · subst h4; simp [h]; rfl
          · have : ¬ 48 ≤ c := by omega
            simp [h, h1, h2, h3, h4, this]; rfl
    · by_cases h2 : 57 < c
      · have h3 : ¬ c = 43 := by omega
        have h4 : ¬ c = 45 := by omega
        have h5 : ¬ c = 46 := by omega
        have h6 : ¬ c ≤ 57 := by omega
        simp [h, h1, h2, h3, h4, h5, h6]; rfl
      · have h6 : c ≤ 57 := by omega
        have h7 : 48 ≤ c := by omega
        simp [h, h1, h2, h6, h7]; rfl
theorem schemeC_high (c : Nat) (h : 128 ≤ c) : schemeC c = false := by
  unfold schemeC letterB
  have h1 : ¬ c ≤ 90 := by omega
  have h2 : ¬ c ≤ 122 := by omega
  have h3 : ¬ c ≤ 57 := by omega
  have h4 : ¬ c = 43 := by omega
  have h5 : ¬ c = 45 := by omega
  have h6 : ¬ c = 46 := by omega
  simp [h1, h2, h3, h4, h5, h6]
theorem indexFunc_loop (d : Nat) (s : List UInt8) (hs : s.length < 1000000000) (j : Nat) {e : TypeId} {rw' : Rw} : ∀ (k p : Nat) (H : Heap) (n m i : Nat), s.length - p < k → p ≤ s.length → H.get i = some (.iter s p) → H.get j = some (.row [.func 61 [] []] e rw') → (∀ q, n ≤ q → H.get q = none) → m ≤ i → i < n → i ≠ j →
    Ev (f97_l3 (apN (d + 2)) k (.func 62 [] [.ptr (some (j, 0))]) (.bool true) (.ptr (some (i, 0)))) H n fun v H' n' => v = .int .i64 (ixF (fun b => !schemeC b.toNat) (s.drop p) p) ∧ Fr m H n' H' := by
  intro k
  induction k with
  | zero => intro p H n m i h; omega
  | succ k ih =>
    intro p H n m i h hp hi hj hf hm hin hij
    unfold f97_l3 f97_b3
    rw [Ev_nxs _ _ _ _ hi]
    by_cases hlt : p < s.length
    · rw [if_pos hlt]
      simp
      have hd := List.drop_eq_getElem_cons hlt
      generalize hr : utf8 (s.drop p) = r at *
      have hset : Fr m H n (H.set i (.iter s (p + r.2))) := Fr.set (.refl hf (by omega)) _ hm hin
      have hj' : (H.set i (.iter s (p + r.2))).get j = some (.row [.func 61 [] []] e rw') := by rw [get_set_ne _ _ _ _ (fun x => hij x.symm)]; exact hj
      rw [apv_func _ _ _ _ _ (by decide)]
      show Ev (M.bd (f62 (apN (d + 1)) (.int .i32 (r.1 : Int)) (.ptr (some (j, 0)))) _) _ n _
      rw [Ev_bd]
      refine .of (other_at d r.1 _ n j hj') ?_
      by_cases hlow : s[p].toNat < 128
      · rw [hd, utf8_low _ _ hlow] at hr
        subst hr
        simp
        rw [hd]; unfold ixF
        cases hb : schemeC s[p].toNat with
        | false => simp; exact hset
        | true =>
          simp
          exact (ih (p + 1) _ n m i (by omega) (by omega) (get_set_same _ _ _) hj' hset.free hm hin hij).mono fun v H' n' ⟨e, f⟩ => ⟨e, hset.trans f (Nat.le_refl m)⟩
      · have hq := utf8_high s[p] (s.drop (p + 1)) (by omega)
        rw [← hd, hr] at hq
        simp [schemeC_high _ hq.1]
        refine ⟨?_, hset⟩
        rw [hd]; unfold ixF
        simp [schemeC_high s[p].toNat (by omega)]
    · have : s.drop p = [] := List.drop_eq_nil_of_le (by omega)
      rw [if_neg hlt]
      simp [this, ixF, f97_1]
      exact .refl hf (by omega)
theorem scheme_eq (gs : List AObj) (d : Nat) (s : List UInt8) (hs : s.length < 1000000000) : Cm gs (f33 (apN (d + 2)) (.str s)) (.bool (schemeB s)) := by
  intro H n ho
  unfold f33
  refine Lc.start ho .nilFunc rfl fun l => ?_
  refine l.st 0 _ (by decide) rfl fun H1 l => ?_
  simp only [bd_ret, bis_neq]
  cases s with
  | nil => simp [schemeB]; exact l.fr
  | cons b r =>
    simp
    refine l.ld 0 rfl ?_
    have h8 := toNat_lt b
    simp (disch := omega)
    rw [ap_letter]
    simp [schemeB]
    cases hb : letterB b.toNat with
    | false => simp; exact l.fr
    | true =>
      simp
      unfold f63 f81 f97 f97_0
      simp only [bd_bd, bd_ret]
      rw [Ev_rgs]
      refine ⟨l.ok.free n.succ (Nat.le_refl _), ?_⟩
      unfold f97_2
      have hf := l.fr.new (.iter (b :: r) 0)
      rw [Ev_bd]
      refine (indexFunc_loop d (b :: r) hs n (e := 85) (rw' := .own 0) fuel 0 _ (n + 1 + 1) (n + 1) (n + 1) (by rw [fuel_pos]; omega) (Nat.zero_le _) (get_set_same _ _ _) (by rw [get_set_ne _ _ _ _ (by omega)]; exact l.row) hf.free (Nat.le_refl _) (by omega) (by omega)).mono fun v H' n' ⟨e, f⟩ => ?_
      subst e
      simp [ixF_ge]
      refine ⟨?_, hf.trans f (by omega)⟩
      have hc : schemeC b.toNat = true := by unfold schemeC; rw [hb]; rfl
      simp [hc]
      rw [Bool.eq_iff_iff]
      simp
end Go.Proofs.YtgljgjnhagidnaaGreatDoor.Den
