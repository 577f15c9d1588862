/- Go's library: strings.Repeat, of "../". -/
import Derived.Test.YtgljgjnhagidnaaGreatDoorTJ
import Derived.Test.YtgljgjnhagidnaaGreatDoorDen05
namespace Go.Proofs.YtgljgjnhagidnaaGreatDoor.Den
open Go Go.Dn Go.Dn.M Go.Dn.Pl
set_option maxRecDepth 100000
set_option linter.unusedVariables false
set_option linter.unusedSimpArgs false

theorem Mul_three : ∀ k : Nat, k < 256 → f54 (.int .u64 3) (.int .u64 (k : Int)) = M.ret (.tuple [.int .u64 0, .int .u64 ((3 * k : Nat) : Int)])
  | 0, _ => by kernel_rfl
  | 1, _ => by kernel_rfl
  | 2, _ => by kernel_rfl
  | 3, _ => by kernel_rfl
  | 4, _ => by kernel_rfl
  | 5, _ => by kernel_rfl
  | 6, _ => by kernel_rfl
  | 7, _ => by kernel_rfl
  | 8, _ => by kernel_rfl
  | 9, _ => by kernel_rfl
  | 10, _ => by kernel_rfl
  | 11, _ => by kernel_rfl
  | 12, _ => by kernel_rfl
  | 13, _ => by kernel_rfl
  | 14, _ => by kernel_rfl
  | 15, _ => by kernel_rfl
  | 16, _ => by kernel_rfl
  | 17, _ => by kernel_rfl
  | 18, _ => by kernel_rfl
  | 19, _ => by kernel_rfl
  | 20, _ => by kernel_rfl
  | 21, _ => by kernel_rfl
  | 22, _ => by kernel_rfl
  | 23, _ => by kernel_rfl
  | 24, _ => by kernel_rfl
  | 25, _ => by kernel_rfl
  | 26, _ => by kernel_rfl
  | 27, _ => by kernel_rfl
  | 28, _ => by kernel_rfl
  | 29, _ => by kernel_rfl
  | 30, _ => by kernel_rfl
  | 31, _ => by kernel_rfl
  | 32, _ => by kernel_rfl
  | 33, _ => by kernel_rfl
  | 34, _ => by kernel_rfl
  | 35, _ => by kernel_rfl
  | 36, _ => by kernel_rfl
  | 37, _ => by kernel_rfl
  | 38, _ => by kernel_rfl
  | 39, _ => by kernel_rfl
  | 40, _ => by kernel_rfl
  | 41, _ => by kernel_rfl
  | 42, _ => by kernel_rfl
  | 43, _ => by kernel_rfl
  | 44, _ => by kernel_rfl
  | 45, _ => by kernel_rfl
  | 46, _ => by kernel_rfl
  | 47, _ => by kernel_rfl
  | 48, _ => by kernel_rfl
  | 49, _ => by kernel_rfl
  | 50, _ => by kernel_rfl
  | 51, _ => by kernel_rfl
  | 52, _ => by kernel_rfl
  | 53, _ => by kernel_rfl
  | 54, _ => by kernel_rfl
  | 55, _ => by kernel_rfl
  | 56, _ => by kernel_rfl
  | 57, _ => by kernel_rfl
  | 58, _ => by kernel_rfl
  | 59, _ => by kernel_rfl
  | 60, _ => by kernel_rfl
  | 61, _ => by kernel_rfl
  | 62, _ => by kernel_rfl
  | 63, _ => by kernel_rfl
  | 64, _ => by kernel_rfl
  | 65, _ => by kernel_rfl
  | 66, _ => by kernel_rfl
  | 67, _ => by kernel_rfl
  | 68, _ => by kernel_rfl
  | 69, _ => by kernel_rfl
  | 70, _ => by kernel_rfl
  | 71, _ => by kernel_rfl
  | 72, _ => by kernel_rfl
  | 73, _ => by kernel_rfl
  | 74, _ => by kernel_rfl
  | 75, _ => by kernel_rfl
  | 76, _ => by kernel_rfl
  | 77, _ => by kernel_rfl
  | 78, _ => by kernel_rfl
  | 79, _ => by kernel_rfl
  | 80, _ => by kernel_rfl
  | 81, _ => by kernel_rfl
  | 82, _ => by kernel_rfl
  | 83, _ => by kernel_rfl
  | 84, _ => by kernel_rfl
  | 85, _ => by kernel_rfl
  | 86, _ => by kernel_rfl
  | 87, _ => by kernel_rfl
  | 88, _ => by kernel_rfl
  | 89, _ => by kernel_rfl
  | 90, _ => by kernel_rfl
  | 91, _ => by kernel_rfl
  | 92, _ => by kernel_rfl
  | 93, _ => by kernel_rfl
  | 94, _ => by kernel_rfl
  | 95, _ => by kernel_rfl
  | 96, _ => by kernel_rfl
  | 97, _ => by kernel_rfl
  | 98, _ => by kernel_rfl
  | 99, _ => by kernel_rfl
  | 100, _ => by kernel_rfl
  | 101, _ => by kernel_rfl
  | 102, _ => by kernel_rfl
  | 103, _ => by kernel_rfl
  | 104, _ => by kernel_rfl
  | 105, _ => by kernel_rfl
  | 106, _ => by kernel_rfl
  | 107, _ => by kernel_rfl
  | 108, _ => by kernel_rfl
  | 109, _ => by kernel_rfl
  | 110, _ => by kernel_rfl
  | 111, _ => by kernel_rfl
  | 112, _ => by kernel_rfl
  | 113, _ => by kernel_rfl
  | 114, _ => by kernel_rfl
  | 115, _ => by kernel_rfl
  | 116, _ => by kernel_rfl
  | 117, _ => by kernel_rfl
  | 118, _ => by kernel_rfl
  | 119, _ => by kernel_rfl
  | 120, _ => by kernel_rfl
  | 121, _ => by kernel_rfl
  | 122, _ => by kernel_rfl
  | 123, _ => by kernel_rfl
  | 124, _ => by kernel_rfl
  | 125, _ => by kernel_rfl
  | 126, _ => by kernel_rfl
  | 127, _ => by kernel_rfl
  | 128, _ => by kernel_rfl
  | 129, _ => by kernel_rfl
  | 130, _ => by kernel_rfl
  | 131, _ => by kernel_rfl
  | 132, _ => by kernel_rfl
  | 133, _ => by kernel_rfl
  | 134, _ => by kernel_rfl
  | 135, _ => by kernel_rfl
  | 136, _ => by kernel_rfl
  | 137, _ => by kernel_rfl
  | 138, _ => by kernel_rfl
  | 139, _ => by kernel_rfl
  | 140, _ => by kernel_rfl
  | 141, _ => by kernel_rfl
  | 142, _ => by kernel_rfl
  | 143, _ => by kernel_rfl
  | 144, _ => by kernel_rfl
  | 145, _ => by kernel_rfl
  | 146, _ => by kernel_rfl
  | 147, _ => by kernel_rfl
  | 148, _ => by kernel_rfl
  | 149, _ => by kernel_rfl
  | 150, _ => by kernel_rfl
  | 151, _ => by kernel_rfl
  | 152, _ => by kernel_rfl
  | 153, _ => by kernel_rfl
  | 154, _ => by kernel_rfl
  | 155, _ => by kernel_rfl
  | 156, _ => by kernel_rfl
  | 157, _ => by kernel_rfl
  | 158, _ => by kernel_rfl
  | 159, _ => by kernel_rfl
  | 160, _ => by kernel_rfl
  | 161, _ => by kernel_rfl
  | 162, _ => by kernel_rfl
  | 163, _ => by kernel_rfl
  | 164, _ => by kernel_rfl
  | 165, _ => by kernel_rfl
  | 166, _ => by kernel_rfl
  | 167, _ => by kernel_rfl
  | 168, _ => by kernel_rfl
  | 169, _ => by kernel_rfl
  | 170, _ => by kernel_rfl
  | 171, _ => by kernel_rfl
  | 172, _ => by kernel_rfl
  | 173, _ => by kernel_rfl
  | 174, _ => by kernel_rfl
  | 175, _ => by kernel_rfl
  | 176, _ => by kernel_rfl
  | 177, _ => by kernel_rfl
  | 178, _ => by kernel_rfl
  | 179, _ => by kernel_rfl
  | 180, _ => by kernel_rfl
  | 181, _ => by kernel_rfl
  | 182, _ => by kernel_rfl
  | 183, _ => by kernel_rfl
  | 184, _ => by kernel_rfl
  | 185, _ => by kernel_rfl
  | 186, _ => by kernel_rfl
  | 187, _ => by kernel_rfl
  | 188, _ => by kernel_rfl
  | 189, _ => by kernel_rfl
  | 190, _ => by kernel_rfl
  | 191, _ => by kernel_rfl
  | 192, _ => by kernel_rfl
  | 193, _ => by kernel_rfl
  | 194, _ => by kernel_rfl
  | 195, _ => by kernel_rfl
  | 196, _ => by kernel_rfl
  | 197, _ => by kernel_rfl
  | 198, _ => by kernel_rfl
  | 199, _ => by kernel_rfl
  | 200, _ => by kernel_rfl
  | 201, _ => by kernel_rfl
  | 202, _ => by kernel_rfl
  | 203, _ => by kernel_rfl
  | 204, _ => by kernel_rfl
  | 205, _ => by kernel_rfl
  | 206, _ => by kernel_rfl
  | 207, _ => by kernel_rfl
  | 208, _ => by kernel_rfl
  | 209, _ => by kernel_rfl
  | 210, _ => by kernel_rfl
  | 211, _ => by kernel_rfl
  | 212, _ => by kernel_rfl
  | 213, _ => by kernel_rfl
  | 214, _ => by kernel_rfl
  | 215, _ => by kernel_rfl
  | 216, _ => by kernel_rfl
  | 217, _ => by kernel_rfl
  | 218, _ => by kernel_rfl
  | 219, _ => by kernel_rfl
  | 220, _ => by kernel_rfl
  | 221, _ => by kernel_rfl
  | 222, _ => by kernel_rfl
  | 223, _ => by kernel_rfl
  | 224, _ => by kernel_rfl
  | 225, _ => by kernel_rfl
  | 226, _ => by kernel_rfl
  | 227, _ => by kernel_rfl
  | 228, _ => by kernel_rfl
  | 229, _ => by kernel_rfl
  | 230, _ => by kernel_rfl
  | 231, _ => by kernel_rfl
  | 232, _ => by kernel_rfl
  | 233, _ => by kernel_rfl
  | 234, _ => by kernel_rfl
  | 235, _ => by kernel_rfl
  | 236, _ => by kernel_rfl
  | 237, _ => by kernel_rfl
  | 238, _ => by kernel_rfl
  | 239, _ => by kernel_rfl
  | 240, _ => by kernel_rfl
  | 241, _ => by kernel_rfl
  | 242, _ => by kernel_rfl
  | 243, _ => by kernel_rfl
  | 244, _ => by kernel_rfl
  | 245, _ => by kernel_rfl
  | 246, _ => by kernel_rfl
  | 247, _ => by kernel_rfl
  | 248, _ => by kernel_rfl
  | 249, _ => by kernel_rfl
  | 250, _ => by kernel_rfl
  | 251, _ => by kernel_rfl
  | 252, _ => by kernel_rfl
  | 253, _ => by kernel_rfl
  | 254, _ => by kernel_rfl
  | 255, _ => by kernel_rfl
  | n + 256, h => absurd h (by omega)
def ups (k : Nat) : List UInt8 := (List.replicate k [46, 46, 47]).flatten
theorem ups_len (k : Nat) : (ups k).length = 3 * k := by
  show (List.replicate k [46, 46, 47] : List (List UInt8)).flatten.length = 3 * k
  induction k with
  | zero => rfl
  | succ k ih => rw [List.replicate_succ, List.flatten_cons, List.length_append, ih]; simp; omega
theorem ups_add (a b : Nat) : ups a ++ ups b = ups (a + b) := by
  show (List.replicate a [46, 46, 47] : List (List UInt8)).flatten ++ (List.replicate b [46, 46, 47] : List (List UInt8)).flatten = (List.replicate (a + b) [46, 46, 47] : List (List UInt8)).flatten
  rw [← List.flatten_append, List.replicate_append_replicate]
theorem ups_take (a b : Nat) (h : b ≤ a) : (ups a).take (3 * b) = ups b := by
  have : ups a = ups b ++ ups (a - b) := by rw [ups_add]; congr 1; omega
  rw [this, List.take_left' (ups_len b)]
theorem Rep_loop {b m : Nat} (N : Nat) (hN : N ≤ 1000) : ∀ (k j : Nat), N - j < k → 1 ≤ j → j ≤ N → ∀ H n, (∀ i, n ≤ i → H.get i = none) → IsBld H b m n (ups j) →
    Ev (f24_l14 k (.int .i64 ((3 * N : Nat) : Int)) (.int .i64 ((3 * N : Nat) : Int)) (.ptr (some (b, 0)))) H n fun v H' n' => v = .str (ups N) ∧ FrB m b H n n' H' := by
  intro k
  induction k with
  | zero => intro j h; omega
  | succ k ih =>
    intro j h h1 h2 H n hf hb
    unfold f24_l14 f24_b14
    rw [Ev_bd]
    refine .of (Len_eq hb) ?_
    rw [ups_len]
    by_cases hlt : j < N
    · have c1 : (((3 * j : Nat) : Int) < ((3 * N : Nat) : Int)) = True := eq_true (by omega)
      simp only [bi_lss, bd_ret, c1, decide_true, cnd_true]
      rw [Ev_bd]
      refine .of (Len_eq hb) ?_
      rw [ups_len, bi_sub, wr_i64 _ (by omega) (by omega), bd_ret, Ev_bd]
      refine .of (Len_eq hb) ?_
      rw [ups_len]
      have hmin : fold2 mn2 (.int .i64 (((3 * N : Nat) : Int) - ((3 * j : Nat) : Int))) [.int .i64 ((3 * j : Nat) : Int), .int .i64 ((3 * N : Nat) : Int)] = M.ret (.int .i64 ((3 * (min (N - j) j) : Nat) : Int)) := by
        show M.bd (bif eqK .i64 .i64 then M.ret (AV.int .i64 (bif ltI ((3 * j : Nat) : Int) (((3 * N : Nat) : Int) - ((3 * j : Nat) : Int)) then ((3 * j : Nat) : Int) else (((3 * N : Nat) : Int) - ((3 * j : Nat) : Int)))) else fail) _ = _
        rw [eqK_self, cond_true, Pl.ltI_eq]
        by_cases hc : j < N - j
        · rw [decide_eq_true (by omega), cond_true, bd_ret]
          show M.bd (bif eqK .i64 .i64 then M.ret (AV.int .i64 (bif ltI ((3 * N : Nat) : Int) ((3 * j : Nat) : Int) then ((3 * N : Nat) : Int) else ((3 * j : Nat) : Int))) else fail) _ = _
          rw [eqK_self, cond_true, Pl.ltI_eq, decide_eq_false (by omega), cond_false, bd_ret, show min (N - j) j = j by omega]
          rfl
        · rw [decide_eq_false (by omega), cond_false, bd_ret]
          show M.bd (bif eqK .i64 .i64 then M.ret (AV.int .i64 (bif ltI ((3 * N : Nat) : Int) (((3 * N : Nat) : Int) - ((3 * j : Nat) : Int)) then ((3 * N : Nat) : Int) else (((3 * N : Nat) : Int) - ((3 * j : Nat) : Int)))) else fail) _ = _
          rw [eqK_self, cond_true, Pl.ltI_eq, decide_eq_false (by omega), cond_false, bd_ret, show min (N - j) j = N - j by omega, show (((3 * N : Nat) : Int) - ((3 * j : Nat) : Int)) = ((3 * (N - j) : Nat) : Int) by omega]
          rfl
      rw [hmin, bd_ret]
      refine String_eq hf hb (by rw [ups_len]; omega) fun H1 b1 f1 => ?_
      rw [ss_to (ups j) .i64 _ (3 * min (N - j) j) rfl (by rw [ups_len]; omega), bd_ret, ups_take _ _ (by omega)]
      refine WriteString_eq f1.free b1 (by rw [ups_len, ups_len]; omega) fun v H2 n2 b2 f2 => ?_
      rw [ups_add] at b2
      exact (ih (j + min (N - j) j) (by omega) (by omega) (by omega) H2 n2 f2.free b2).mono fun v H' n' ⟨q1, q2⟩ => ⟨q1, f1.trans (f2.trans q2)⟩
    · have c1 : (((3 * j : Nat) : Int) < ((3 * N : Nat) : Int)) = False := eq_false (by omega)
      simp only [bi_lss, bd_ret, c1, decide_false, cnd_false]
      unfold f24_13
      have : j = N := by omega
      subst this
      refine String_eq hf hb (by rw [ups_len]; omega) fun H1 b1 f1 => ?_
      rw [Ev_ret]
      exact ⟨rfl, f1⟩
theorem Repeat_eq (gs : List AObj) (k : Nat) (hk : k < 256) : Cm gs (f24 (.str [46, 46, 47]) (.int .i64 (k : Int))) (.str (ups k)) := by
  intro H n ho
  unfold f24 f24_0
  by_cases h0 : k = 0
  · subst h0
    have c : (((0 : Nat) : Int) = 0) = True := eq_true rfl
    simp only [bi_eql, bd_ret, c, decide_true, cnd_true, Ev_ret]
    exact ⟨rfl, .refl ho.free (Nat.le_refl n)⟩
  have c0 : ((k : Int) = 0) = False := eq_false (by omega)
  simp only [bi_eql, bd_ret, c0, decide_false, cnd_false]
  by_cases h1 : k = 1
  · subst h1
    have c : (((1 : Nat) : Int) = 1) = True := eq_true rfl
    simp only [c, decide_true, cnd_true, Ev_ret]
    exact ⟨rfl, .refl ho.free (Nat.le_refl n)⟩
  have c1 : ((k : Int) = 1) = False := eq_false (by omega)
  simp only [c1, decide_false, cnd_false]
  unfold f24_1
  have c2 : ((k : Int) < 0) = False := eq_false (by omega)
  simp only [bi_lss, bd_ret, c2, decide_false, cnd_false]
  unfold f24_2
  have e1 : ci .u64 (.int .i64 ((([46, 46, 47] : List UInt8).length : Nat) : Int)) = M.ret (.int .u64 3) := rfl
  have e2 : ci .u64 (.int .i64 (k : Int)) = M.ret (.int .u64 (k : Int)) := by rw [ci_int, wr_u64 _ (by omega) (by omega)]
  simp only [lnS_str, bd_ret, e1, e2]
  rw [Mul_three k hk, bd_ret]
  simp only [ex_0, ex_1, bd_ret]
  unfold f24_3
  have c3 : ((0 : Int) < 0) = False := eq_false (by omega)
  have c4 : ((9223372036854775807 : Int) < ((3 * k : Nat) : Int)) = False := eq_false (by omega)
  simp only [bi_gtr, bd_ret, c3, decide_false, gd_bool, if_true, c4, pk_bool, Bool.false_eq_true, if_false, cnd_false]
  unfold f24_4
  rw [ci_int, wr_i64 _ (by omega) (by omega), bd_ret]
  unfold f24_5
  have c5 : (((([46, 46, 47] : List UInt8).length : Nat) : Int) = 0) = False := eq_false (by simp)
  simp only [lnS_str, bd_ret, bi_eql, c5, decide_false, cnd_false]
  unfold f24_6
  have e3 : ixs (.str [46, 46, 47]) (.int .i64 0) = M.ret (.int .u8 46) := rfl
  rw [e3, bd_ret]
  unfold f24_15
  have d1 : decide ((46 : Int) = 32) = false := rfl
  have d2 : decide ((46 : Int) = 45) = false := rfl
  have d3 : decide ((46 : Int) = 48) = false := rfl
  have d4 : decide ((46 : Int) = 61) = false := rfl
  have d5 : decide ((46 : Int) = 9) = false := rfl
  simp only [bi_eql, bd_ret, d1, d2, d3, d4, d5, cnd_false]
  unfold f24_16
  simp only [cnd_false]
  unfold f24_7 f24_8
  have c6 : ((8192 : Int) < ((3 * k : Nat) : Int)) = False := eq_false (by omega)
  simp only [bi_gtr, bd_ret, c6, decide_false, cnd_false]
  unfold f24_9
  rw [Ev_bx _ _ _ _ _ rfl]
  refine ⟨ho.free n (Nat.le_refl n), ?_⟩
  have hfr : Fr n H (n + 1) (H.set n (.row (cells (.agg [.ptr none, .slN])) 61 (.own 0))) := Fr.new (.refl ho.free (Nat.le_refl n)) _
  have hrow : (H.set n (.row (cells (.agg [.ptr none, .slN])) 61 (.own 0))).get n = some (.row [.ptr none, .slN] 61 (.own 0)) := get_set_same _ _ _
  generalize H.set n (.row (cells (.agg [.ptr none, .slN])) 61 (.own 0)) = H1 at hfr hrow
  unfold f24_10
  refine Grow_new (3 * k) (by omega) (by omega) hfr.free hrow (Nat.lt_succ_self n) (Nat.le_refl n) fun v H2 n2 b2 f2 => ?_
  unfold f24_11
  refine WriteString_eq f2.free b2 (by simp) fun v3 H3 n3 b3 f3 => ?_
  unfold f24_12
  refine (Rep_loop k (by omega) fuel 1 (by rw [fuel_pos]; omega) (Nat.le_refl 1) (by omega) H3 n3 f3.free b3).mono fun v H' n' ⟨q1, q2⟩ => ⟨q1, ?_⟩
  exact hfr.trans ((f2.trans (f3.trans q2)).fr (m := n) (by omega) (Nat.le_refl n)) (Nat.le_refl n)
end Go.Proofs.YtgljgjnhagidnaaGreatDoor.Den
