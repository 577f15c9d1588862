/- The layer pname: bytes and segments. -/
import Derived.Test.YtgljgjnhagidnaaGreatDoorTK
import Derived.Test.YtgljgjnhagidnaaGreatDoorDen04
namespace Go.Proofs.YtgljgjnhagidnaaGreatDoor.Den
open Go Go.Dn Go.Dn.M Go.Dn.Pl
set_option maxRecDepth 100000
set_option linter.unusedVariables false
set_option linter.unusedSimpArgs false

theorem pLetter_eq (c : Nat) : f69 (.int .u8 (c : Int)) = M.ret (.bool (letterB c)) := by
  unfold f69 letterB
  by_cases h1 : 65 ≤ c <;> by_cases h2 : c ≤ 90 <;> by_cases h3 : 97 ≤ c <;> by_cases h4 : c ≤ 122 <;> simp [h1, h2, h3, h4]
theorem pDigit_eq (c : Nat) (h : c < 256) : f68 (.int .u8 (c : Int)) = M.ret (.int .i64 ((digC c : Int) - 1)) := by
  unfold f68 f68_0
  rw [pLetter_eq, bd_ret]
  cases hl : letterB c with
  | true =>
    simp only [cnd_true, bi_andNot, bd_ret]
    have hb : ∃ w : Nat, bits .andNot .u8 (c : Int) 32 = (w : Int) ∧ w < 256 ∧ ixB w greatL 0 = (digC c : Int) - 1 := by
      have := all256 (p := fun c => !letterB c || (decide (0 ≤ bits .andNot .u8 (c : Int) 32) && decide (bits .andNot .u8 (c : Int) 32 < 256) && decide (ixB (bits .andNot .u8 (c : Int) 32).toNat greatL 0 = (digC c : Int) - 1))) (by decide +kernel) c h
      rw [hl] at this
      simp only [Bool.not_true, Bool.false_or, Bool.and_eq_true, decide_eq_true_eq] at this
      obtain ⟨⟨a, b⟩, d⟩ := this
      exact ⟨_, (Int.toNat_of_nonneg a).symm, by omega, d⟩
    obtain ⟨w, e, hw, hd⟩ := hb
    rw [e]
    unfold f68_1
    rw [IndexByte_eq _ _ hw, bd_ret]
    unfold greatL at hd
    rw [hd]
  | false =>
    simp only [cnd_false]
    unfold f68_1
    rw [IndexByte_eq _ _ h, bd_ret]
    have := all256 (p := fun c => letterB c || decide (ixB c greatL 0 = (digC c : Int) - 1)) (by decide +kernel) c h
    rw [hl] at this
    simp only [Bool.false_or, decide_eq_true_eq] at this
    unfold greatL at this
    rw [this]
theorem pPlain_eq (c : Nat) (h : c < 256) : f44 (.int .u8 (c : Int)) = M.ret (.bool (plainC c)) := by
  unfold f44 plainC
  rw [pLetter_eq, bd_ret]
  cases hl : letterB c with
  | true => simp
  | false =>
    by_cases h1 : 48 ≤ c <;> by_cases h2 : c ≤ 57 <;> simp [h1, h2, IndexByte_eq _ _ h, ixB_ge]
theorem pSign_eq (c : Nat) (h : c < 256) : f47 (.int .u8 (c : Int)) = M.ret (.bool (signC c)) := by
  unfold f47 signC
  rw [pPlain_eq _ h, bd_ret]
  cases hl : plainC c with
  | true => simp
  | false => simp [IndexByte_eq _ _ h, ixB_ge]
theorem told_bits : ∀ a b : Nat, a ≤ 16 → b ≤ 16 → ∃ w : Nat, wr .u8 (bits .or .i64 (wr .i64 (((a : Int) - 1) * 2 ^ (min (4 : Int).toNat (64 : Nat)))) (bits .and .i64 ((b : Int) - 1) 15)) = (w : Int) ∧ w < 256 ∧ (0 < a → 0 < b → w = 16 * (a - 1) + (b - 1)) := by
  intro a b ha hb
  have key : ((List.range 17).all fun a => (List.range 17).all fun b =>
      decide (0 ≤ wr .u8 (bits .or .i64 (wr .i64 (((a : Int) - 1) * 2 ^ (min (4 : Int).toNat (64 : Nat)))) (bits .and .i64 ((b : Int) - 1) 15))) && (decide (wr .u8 (bits .or .i64 (wr .i64 (((a : Int) - 1) * 2 ^ (min (4 : Int).toNat (64 : Nat)))) (bits .and .i64 ((b : Int) - 1) 15)) < 256) &&
      (decide (a = 0) || (decide (b = 0) || decide (wr .u8 (bits .or .i64 (wr .i64 (((a : Int) - 1) * 2 ^ (min (4 : Int).toNat (64 : Nat)))) (bits .and .i64 ((b : Int) - 1) 15)) = ((16 * (a - 1) + (b - 1) : Nat) : Int)))))) = true := by decide +kernel
  have k1 := List.all_eq_true.1 key a (List.mem_range.2 (by omega))
  have k2 := List.all_eq_true.1 k1 b (List.mem_range.2 (by omega))
  simp only [Bool.and_eq_true, Bool.or_eq_true, decide_eq_true_eq] at k2
  obtain ⟨k3, k4, k5⟩ := k2
  refine ⟨_, (Int.toNat_of_nonneg k3).symm, by omega, fun h1 h2 => ?_⟩
  rcases k5 with k5 | k5 | k5
  · omega
  · omega
  · rw [k5]; rfl
theorem told3 (c a b : UInt8) (r : List UInt8) : toldB (c :: a :: b :: r) = if c = 37 ∧ 0 < digC a.toNat ∧ 0 < digC b.toNat then some (16 * (digC a.toNat - 1) + (digC b.toNat - 1)) else none := rfl
theorem pTold_eq (s : List UInt8) (hs : s.length < 1000000000) : ∃ w : Nat, f43 (.str s) = M.ret (.tuple [.int .u8 (w : Int), .bool (toldB s).isSome]) ∧ w < 256 ∧ ∀ v, toldB s = some v → w = v := by
  unfold f43
  match s with
  | [] => exact ⟨0, by simp [toldB], by omega, fun v h => by cases h⟩
  | [_] => exact ⟨0, by simp [toldB], by omega, fun v h => by cases h⟩
  | [_, _] => exact ⟨0, by simp [toldB], by omega, fun v h => by cases h⟩
  | c :: a :: b :: r =>
    have hl : ((((c :: a :: b :: r).length : Nat) : Int) < 3) = False := eq_false (by simp; omega)
    have e0 : ixs (.str (c :: a :: b :: r)) (.int .i64 0) = M.ret (.int .u8 (c.toNat : Int)) := rfl
    have e1 : ixs (.str (c :: a :: b :: r)) (.int .i64 1) = M.ret (.int .u8 (a.toNat : Int)) := rfl
    have e2 : ixs (.str (c :: a :: b :: r)) (.int .i64 2) = M.ret (.int .u8 (b.toNat : Int)) := rfl
    simp only [lnS_str, bd_ret, bi_lss, hl, decide_false, gd_bool, if_true, e0, bi_neq, pk_bool, Bool.false_eq_true, if_false]
    by_cases hc : c = 37
    · have h37 : ((c.toNat : Int) ≠ 37) = False := eq_false (by rw [hc]; simp)
      simp only [h37, decide_false, cnd_false, bd_ret, e1, e2, pDigit_eq _ (toNat_lt a), pDigit_eq _ (toNat_lt b)]
      have ha := digC_le a.toNat
      have hb := digC_le b.toNat
      obtain ⟨w, hw1, hw2, hw3⟩ := told_bits _ _ ha hb
      rw [bi_shl _ _ _ _ (by omega), bd_ret]
      simp only [bi_and, bi_or, bd_ret, ci_int]
      rw [show IntKind.i64.bits = 64 from rfl, hw1]
      refine ⟨w, ?_, hw2, fun v hv => ?_⟩
      · rw [told3]
        by_cases p1 : 0 < digC a.toNat
        · have q1 : ((0 : Int) ≤ (digC a.toNat : Int) - 1) = True := eq_true (by omega)
          simp only [bi_geq, q1, decide_true, bd_ret, gd_bool, if_true, pk_bool]
          by_cases p2 : 0 < digC b.toNat
          · have q2 : ((0 : Int) ≤ (digC b.toNat : Int) - 1) = True := eq_true (by omega)
            rw [if_pos ⟨hc, p1, p2⟩]
            simp only [q2, decide_true]; rfl
          · have q2 : ((0 : Int) ≤ (digC b.toNat : Int) - 1) = False := eq_false (by omega)
            rw [if_neg (fun h => p2 h.2.2)]
            simp only [q2, decide_false]; rfl
        · have q1 : ((0 : Int) ≤ (digC a.toNat : Int) - 1) = False := eq_false (by omega)
          simp only [bi_geq, q1, decide_false, bd_ret, gd_bool, Bool.false_eq_true, if_false, gd_tuple, pk_bool]
          rw [if_neg (fun h => p1 h.2.1)]
          rfl
      · rw [told3] at hv
        by_cases h : c = 37 ∧ 0 < digC a.toNat ∧ 0 < digC b.toNat
        · rw [if_pos h] at hv
          cases hv
          exact hw3 h.2.1 h.2.2
        · rw [if_neg h] at hv; cases hv
    · have h37 : ((c.toNat : Int) ≠ 37) = True := eq_true (fun e => hc (UInt8.toNat_inj.1 (by have : (37 : UInt8).toNat = 37 := rfl; omega)))
      simp only [h37, decide_true, cnd_true]
      refine ⟨0, by simp [toldB, hc], by omega, fun v h => by simp [toldB, hc] at h⟩
end Go.Proofs.YtgljgjnhagidnaaGreatDoor.Den
