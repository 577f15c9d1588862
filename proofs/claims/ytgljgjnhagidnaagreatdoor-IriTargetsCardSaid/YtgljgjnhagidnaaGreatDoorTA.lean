/- Go's library: signs in strings. -/
import Derived.Test.YtgljgjnhagidnaaGreatDoorP2
import Derived.Test.YtgljgjnhagidnaaGreatDoorDen04
namespace Go.Proofs.YtgljgjnhagidnaaGreatDoor.Den
open Go Go.Dn Go.Dn.M Go.Dn.Pl
set_option maxRecDepth 100000
set_option linter.unusedVariables false
set_option linter.unusedSimpArgs false

theorem IndexByte_eq (s : List UInt8) (c : Nat) (h : c < 256) : f70 (.str s) (.int .u8 (c : Int)) = ret (.int .i64 (ixB c s 0)) := by
  simp only [f70, f83, nIndexByte_str _ _ h, bd_ret]
theorem ValidRune_eq (c : Nat) : f101 (.int .i32 (c : Int)) = ret (.bool (decide (c < 55296) || decide (57343 < c) && decide (c ≤ 1114111))) := by
  unfold f101
  by_cases h1 : c < 55296 <;> by_cases h2 : 57343 < c <;> by_cases h3 : c ≤ 1114111 <;> first | (exfalso; omega) | simp [h1, h2, h3]
/-- All below 128. -/
def low (t : List UInt8) : Prop := ∀ b, b ∈ t → b.toNat < 128
theorem low.get {t : List UInt8} (h : low t) {i : Nat} (hi : i < t.length) : t[i].toNat < 128 := h _ (List.getElem_mem hi)
theorem low.drop {t : List UInt8} (h : low t) (i : Nat) : low (t.drop i) := fun b hb => h b (List.mem_of_mem_drop hb)
theorem fuel_pos : fuel = 4611686018427387903 + 1 := rfl
/-- IndexRune at a rune that is no low one: the loop for RuneError. -/
theorem IndexRune_err (gs : List AObj) (t : List UInt8) (ht : low t) : ∀ (k p : Nat) (H : Heap) (n m i : Nat), t.length - p < k → p ≤ t.length → H.get i = some (.iter t p) → (∀ j, n ≤ j → H.get j = none) → m ≤ i → i < n →
    Ev (f93_l5 k (.ptr (some (i, 0)))) H n fun v H' n' => v = .int .i64 (-1) ∧ Fr m H n' H' := by
  intro k
  induction k with
  | zero => intro p H n m i h; omega
  | succ k ih =>
    intro p H n m i h hp hi hf hm hin
    unfold f93_l5 f93_b5
    rw [Ev_nxs _ _ _ _ hi]
    by_cases hlt : p < t.length
    · rw [if_pos hlt, List.drop_eq_getElem_cons hlt]
      have hlo := ht.get hlt
      rw [utf8_low _ _ hlo]
      have hne : ¬ t[p].toNat = 65533 := by omega
      simp [hne]
      refine (ih (p + 1) _ n m i (by omega) (by omega) (get_set_same _ _ _) (fun j hj => by rw [get_set_ne _ _ _ _ (by omega)]; exact hf j hj) hm hin).mono fun v H' n' ⟨e, f⟩ => ⟨e, ?_⟩
      exact (Fr.set (.refl hf (by omega)) _ hm hin).trans f (Nat.le_refl m)
    · rw [if_neg hlt]
      simp [f93_3]
      exact .refl hf (by omega)
/-- The general search, where the sought rune ends in a high byte: it isn't there. -/
theorem IndexRune_high (t rs : List UInt8) (ht : low t) (hl : t.length < 1000000) (hr : rs.length < 10) (h0 : 1 ≤ rs.length) (hr2 : 128 ≤ (rs[rs.length - 1]'(by omega)).toNat) (k : Nat) (hk : 0 < k) :
    f93_l25 k (.str t) (.str rs) (.int .i64 ((rs.length - 1 : Nat) : Int)) (.int .i64 ((rs.length - 1 : Nat) : Int)) = ret (.int .i64 (-1)) := by
  obtain ⟨k, rfl⟩ : ∃ j, k = j + 1 := ⟨k - 1, by omega⟩
  unfold f93_l25 f93_b25
  by_cases hlt : rs.length - 1 < t.length
  · have hlo := ht.get hlt
    have hne : ¬ t[rs.length - 1].toNat = rs[rs.length - 1].toNat := by omega
    have hd : has rs[rs.length - 1].toNat (t.drop rs.length) = false := by
      unfold has
      rw [List.any_eq_false]
      intro b hb
      have := ht.drop _ b hb
      simp; omega
    have hix : ixB rs[rs.length - 1].toNat (t.drop rs.length) 0 < 0 := by
      rw [← ixB_ge] at hd
      simpa using hd
    have h8 := toNat_lt rs[rs.length - 1]
    simp (disch := omega) [hlt, f93_26, hne, IndexByte_eq, hix]
  · simp [hlt, f93_11]
theorem encN_last (c : Nat) (h : 128 ≤ c) (h2 : c ≤ 1114111) : 1 ≤ (encN c).length ∧ (encN c).length < 10 ∧ ∀ (h : (encN c).length - 1 < (encN c).length), 128 ≤ ((encN c)[(encN c).length - 1]'h).toNat := by
  have hm : ∀ x, 128 ≤ (UInt8.ofNat (128 + x % 64)).toNat := fun x => by rw [UInt8.toNat_ofNat']; omega
  have e : encN c = if c < 2048 then [UInt8.ofNat (0xC0 + c / 64), UInt8.ofNat (0x80 + c % 64)]
      else if c < 65536 then [UInt8.ofNat (0xE0 + c / 4096), UInt8.ofNat (0x80 + c / 64 % 64), UInt8.ofNat (0x80 + c % 64)]
      else [UInt8.ofNat (0xF0 + c / 262144), UInt8.ofNat (0x80 + c / 4096 % 64), UInt8.ofNat (0x80 + c / 64 % 64), UInt8.ofNat (0x80 + c % 64)] := by
    unfold encN
    simp only [bltN_eq, cond_eq_ite, decide_eq_true_eq]
    rw [if_neg (by omega)]
  generalize encN c = l at e
  subst e
  split
  · exact ⟨by simp, by simp, fun h => hm c⟩
  · split
    · exact ⟨by simp, by simp, fun h => hm c⟩
    · exact ⟨by simp, by simp, fun h => hm c⟩
theorem runeOf_nat (c : Nat) : runeOf (c : Int) = if c < 55296 ∨ 57344 ≤ c ∧ c ≤ 1114111 then c else 65533 := by
  show (bif Nat.blt c 0xD800 || (Nat.ble 0xE000 c && Nat.ble c 0x10FFFF) then c else 0xFFFD) = _
  simp only [bltN_eq, bleN_eq, cond_eq_ite, Bool.or_eq_true, Bool.and_eq_true, decide_eq_true_eq]
/-- IndexRune of a rune in a text of low bytes. -/
theorem IndexRune_low (gs : List AObj) (t : List UInt8) (ht : low t) (hl : t.length < 1000000) (c : Nat) : Cm gs (f93 (.str t) (.int .i32 (c : Int))) (.int .i64 (if c < 128 then ixB c t 0 else -1)) := by
  unfold f93 f93_0 f93_1
  by_cases h1 : c < 128
  · apply Cm.of_eq
    have e := wr_u8 (c : Int) (by omega) (by omega)
    simp [h1, e, IndexByte_eq _ _ (show c < 256 by omega)]
  · simp only [bi_leq, bd_ret, gd_bool, bi_lss, pk_bool, cnd_bool]
    simp only [lit_le, Nat.zero_le, decide_true, if_true, bd_ret, lt_lit, h1, decide_false, Bool.false_eq_true, if_false, bi_lss, pk_bool, cnd_bool, bi_eql]
    unfold f93_2
    by_cases h2 : c = 65533
    · subst h2
      simp
      intro H n ho
      rw [Ev_rgs]
      refine ⟨ho.free n (Nat.le_refl n), ?_⟩
      unfold f93_4
      refine (IndexRune_err gs t ht fuel 0 _ (n + 1) n n (by rw [fuel_pos]; omega) (Nat.zero_le _) (get_set_same _ _ _) (fun j hj => by rw [get_set_ne _ _ _ _ (by omega)]; exact ho.free j (by omega)) (Nat.le_refl n) (by omega)).mono fun v H' n' ⟨e, f⟩ => ⟨e, ?_⟩
      exact (Fr.new (.refl ho.free (Nat.le_refl n)) _).trans f (Nat.le_refl n)
    · apply Cm.of_eq
      have h2' : ¬ (c : Int) = 65533 := by omega
      simp only [h2', decide_false, cnd_bool, Bool.false_eq_true, if_false, ValidRune_eq, bd_ret, un_not]
      unfold f93_6
      by_cases h3 : c < 55296 ∨ 57343 < c ∧ c ≤ 1114111
      · have hv : (decide (c < 55296) || decide (57343 < c) && decide (c ≤ 1114111)) = true := by simpa using h3
        simp only [hv, Bool.not_true, cnd_bool, Bool.false_eq_true, if_false]
        have hr : runeOf (c : Int) = c := by rw [runeOf_nat, if_pos (by omega)]
        have hi : i2s (.int .i32 (c : Int)) = ret (.str (encN c)) := by
          show ret (AV.str (encN (runeOf (c : Int)))) = _
          rw [hr]
        rw [hi, bd_ret]
        obtain ⟨q1, q2, q3⟩ := encN_last c (by omega) (by omega)
        have e1 : wr .i64 (((encN c).length : Int) - 1) = (((encN c).length - 1 : Nat) : Int) := by rw [wr_i64 _ (by omega) (by omega)]; omega
        simp only [f93_7, lnS_str, bd_ret, bi_sub, e1, f93_8, f93_9, f93_10]
        exact IndexRune_high t (encN c) ht hl q2 q1 (q3 _) fuel (by rw [fuel_pos]; omega)
      · have hv : (decide (c < 55296) || decide (57343 < c) && decide (c ≤ 1114111)) = false := by
          rw [Bool.eq_false_iff]; intro h; apply h3; simpa using h
        simp [hv]
end Go.Proofs.YtgljgjnhagidnaaGreatDoor.Den
