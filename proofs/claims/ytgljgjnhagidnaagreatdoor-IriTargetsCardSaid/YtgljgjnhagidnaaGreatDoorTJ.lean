/- Go's library: strings.Split, strings.Join, strings.LastIndexByte; the layer iri: dots. -/
import Derived.Test.YtgljgjnhagidnaaGreatDoorTE
import Derived.Test.YtgljgjnhagidnaaGreatDoorDen04
namespace Go.Proofs.YtgljgjnhagidnaaGreatDoor.Den
open Go Go.Dn Go.Dn.M Go.Dn.Pl
set_option maxRecDepth 100000
set_option linter.unusedVariables false
set_option linter.unusedSimpArgs false

/-! ### strings.Split -/
theorem Split_loop (gs : List AObj) (hm : MaxIs gs) {H0 : Heap} {n0 r total : Nat} : ∀ (k i : Nat) (s : List UInt8) (dn : List (List UInt8)), total - i < k → s.length < 1000000000 → dn.length = i → (segs s).length + i = total → total ≤ 1000000000 → ∀ H n, Lc gs n0 H0 r ((dn.map AV.str) ++ List.replicate (segs s).length (.str [])) 9 [] H n →
    Ev (f53_l9 k (.str s) (.str [47]) (.int .i64 0) (.int .i64 ((total - 1 : Nat) : Int)) (.sl r 0 total total 1) (.int .i64 (i : Int))) H n fun v H' n' => v = .sl r 0 total total 1 ∧ Lc gs n0 H0 r ((dn ++ segs s).map AV.str) 9 [] H' n' := by
  intro k
  induction k with
  | zero => intro i s dn h; omega
  | succ k ih =>
    intro i s dn h hs hd ht htt H n l
    have hne : 0 < (segs s).length := List.length_pos_iff.2 (segs_ne s)
    unfold f53_l9 f53_b9
    simp only [bi_lss, bd_ret]
    have fin : ∀ (hseg : segs s = [s]), Ev (f53_8 (.str s) (.sl r 0 total total 1) (.int .i64 (i : Int))) H n fun v H' n' => v = .sl r 0 total total 1 ∧ Lc gs n0 H0 r ((dn ++ segs s).map AV.str) 9 [] H' n' := by
      intro hseg
      rw [hseg] at l ht ⊢
      simp only [List.length_singleton] at ht
      unfold f53_8
      rw [ixp_nat _ _ _ _ _ _ _ _ (by omega), bd_ret]
      refine l.st (0 + i * 1) _ (by simp; omega) rfl fun H1 l => ?_
      rw [bi_add, wr_i64 _ (by omega) (by omega), bd_ret, show ((i : Int) + 1) = ((i + 1 : Nat) : Int) from rfl, sls_to _ _ _ _ _ _ (by omega), bd_ret]
      have e : ((dn.map AV.str) ++ List.replicate [s].length (AV.str [])).set (0 + i * 1) (AV.str s) = (dn ++ [s]).map AV.str := by
        rw [List.set_append_right _ _ (by simp; omega)]
        simp [hd]
      rw [e] at l
      rw [Ev_ret]
      exact ⟨by rw [show i + 1 = total by omega], l⟩
    by_cases hlt : i + 1 < total
    · have h2 : ((i : Int) < ((total - 1 : Nat) : Int)) = True := eq_true (by omega)
      simp only [h2, decide_true, cnd_true]
      unfold f57
      rw [bd_bd]
      refine l.call (Index_eq gs hm s [47] hs) fun H1 n1 l => ?_
      rw [ixS_one, bd_ret]
      have hcut := segs_cut s
      have hsl : sl47 s < s.length := by
        apply Classical.byContradiction
        intro hc
        rw [if_neg hc] at hcut
        rw [hcut] at ht
        simp at ht
        omega
      rw [if_pos hsl] at hcut
      have e1 : ixF (fun b => b.toNat == (47 : UInt8).toNat) s 0 = ((sl47 s : Nat) : Int) := by
        rw [ixF_eq]
        have : s.findIdx (fun b => b.toNat == (47 : UInt8).toNat) = sl47 s := rfl
        rw [this, if_pos hsl, Nat.zero_add]
      rw [e1]
      have h3 : (((sl47 s : Nat) : Int) < 0) = False := eq_false (by omega)
      simp only [bi_lss, bd_ret, h3, decide_false, cnd_false]
      rw [bi_add, wr_i64 _ (by omega) (by omega), bd_ret, ss_to s .i64 _ (sl47 s) (by omega) (by omega), bd_ret, ixp_nat _ _ _ _ _ _ _ _ (by omega), bd_ret]
      have hlen : (segs (s.drop (sl47 s + 1))).length + 1 = (segs s).length := by rw [hcut]; rfl
      refine l.st (0 + i * 1) _ (by simp; omega) rfl fun H2 l => ?_
      simp only [lnS_str, bd_ret]
      rw [bi_add, wr_i64 _ (by simp; omega) (by simp; omega), bd_ret, ss_from s .i64 _ (sl47 s + 1) (by simp) (by omega), bd_ret, bi_add, wr_i64 _ (by omega) (by omega), bd_ret, show ((i : Int) + 1) = ((i + 1 : Nat) : Int) from rfl]
      have e : ((dn.map AV.str) ++ List.replicate (segs s).length (AV.str [])).set (0 + i * 1) (AV.str (s.take (sl47 s))) = ((dn ++ [s.take (sl47 s)]).map AV.str) ++ List.replicate (segs (s.drop (sl47 s + 1))).length (AV.str []) := by
        rw [List.set_append_right _ _ (by simp; omega), ← hlen, List.replicate_succ]
        simp [hd]
      rw [e] at l
      refine (ih (i + 1) (s.drop (sl47 s + 1)) (dn ++ [s.take (sl47 s)]) (by omega) (by simp; omega) (by simp; omega) (by omega) htt _ _ l).mono fun v H' n' ⟨q1, q2⟩ => ⟨q1, ?_⟩
      rw [hcut]
      simpa using q2
    · have h2 : ((i : Int) < ((total - 1 : Nat) : Int)) = False := eq_false (by omega)
      simp only [h2, decide_false, cnd_false]
      refine fin ?_
      rw [segs_cut s]
      split
      · rename_i hc
        have := segs_cut s
        rw [if_pos hc] at this
        have h5 : 0 < (segs (s.drop (sl47 s + 1))).length := List.length_pos_iff.2 (segs_ne _)
        rw [this] at ht
        simp at ht
        omega
      · rfl
/-- strings.Split at slashes: the slice's row. -/
theorem Split_eq (gs : List AObj) (hm : MaxIs gs) (s : List UInt8) (hs : s.length < 1000000000) {H : Heap} {n : Nat} (ho : Ok gs H n) {f : AV → M AV} {Q : AV → Heap → Nat → Prop}
    (k : ∀ H' n', Lc gs n H n ((segs s).map AV.str) 9 [] H' n' → Ev (f (.sl n 0 (segs s).length (segs s).length 1)) H' n' Q) : Ev (M.bd (f23 (.str s) (.str [47])) f) H n Q := by
  unfold f23 f53 f53_0 f53_1 f53_2
  have c1 : ((-1 : Int) = 0) = False := eq_false (by omega)
  have c2 : ((-1 : Int) < 0) = True := eq_true (by omega)
  have c3 : (([47] : List UInt8) = []) = False := eq_false (by simp)
  simp only [bd_bd, bi_eql, bis_eql, bi_lss, c1, c2, c3, decide_false, decide_true, cnd_false, cnd_true, bd_ret]
  unfold f75 f75_0 f75_1
  have c4 : ((([47] : List UInt8).length : Nat) : Int) = 1 := rfl
  have c5 : ((1 : Int) = 0) = False := eq_false (by omega)
  have c6 : ixs (.str [47]) (.int .i64 0) = M.ret (.int .u8 47) := rfl
  have c7 : nCountString (.str s) (.int .u8 47) = M.ret (.int .i64 (cntB 47 s 0 : Nat)) := rfl
  simp only [lnS_str, c4, bd_ret, bi_eql, c5, decide_false, cnd_false, decide_true, cnd_true, c6, c7]
  have hl := segs_length s
  have hle := segs_le s
  rw [bi_add, wr_i64 _ (by omega) (by omega), bd_ret]
  unfold f53_3
  simp only [lnS_str, bd_ret]
  rw [bi_add, wr_i64 _ (by omega) (by omega), bd_ret]
  have c8 : fold2 mn2 (.int .i64 ((cntB 47 s 0 : Nat) + 1 : Int)) [.int .i64 ((s.length : Int) + 1)] = M.ret (.int .i64 (((segs s).length : Nat) : Int)) := by
    show M.bd (bif eqK .i64 .i64 then M.ret (AV.int .i64 (bif ltI ((s.length : Int) + 1) ((cntB 47 s 0 : Nat) + 1 : Int) then (s.length : Int) + 1 else ((cntB 47 s 0 : Nat) + 1 : Int))) else fail) _ = _
    rw [eqK_self, cond_true, Pl.ltI_eq, decide_eq_false (by omega), cond_false, hl]
    rfl
  rw [c8, bd_ret]
  unfold f53_4
  rw [bd_bd]
  rw [Ev_ms 9 16 (.str []) (segs s).length rfl (by omega) (by omega)]
  refine ⟨ho.free n (Nat.le_refl n), ?_⟩
  unfold f53_5
  rw [bi_sub, wr_i64 _ (by omega) (by omega), bd_ret]
  unfold f53_6 f53_7
  have hf := Fr.new (.refl ho.free (Nat.le_refl n)) (.row (List.replicate (segs s).length (.str [])) 9 (.own 0))
  have l : Lc gs n H n (([] : List (List UInt8)).map AV.str ++ List.replicate (segs s).length (.str [])) 9 [] (H.set n (.row (List.replicate (segs s).length (.str [])) 9 (.own 0))) (n + 1) :=
    ⟨ho.fr hf, hf, get_set_same _ _ _, Nat.le_refl n, Nat.lt_succ_self n, fun p hp => (by cases hp), ho.le⟩
  rw [Ev_bd]
  have e : (((segs s).length : Int) - 1) = (((segs s).length - 1 : Nat) : Int) := by omega
  rw [e]
  refine (Split_loop gs hm fuel 0 s [] (by rw [fuel_pos]; omega) hs rfl (by omega) (by omega) _ _ l).mono fun v H' n' ⟨q1, q2⟩ => ?_
  subst q1
  exact k H' n' q2
/-! ### strings.Builder: Grow of a new one -/
theorem Grow_new {H : Heap} {b n : Nat} (g : Nat) (hg : 0 < g) (hg2 : g ≤ 1000000000000) (hf : ∀ i, n ≤ i → H.get i = none) (hb : H.get b = some (.row [.ptr none, .slN] 61 (.own 0))) (hbn : b < n) {m : Nat} (hmb : m ≤ b) {f : AV → M AV} {Q : AV → Heap → Nat → Prop}
    (k : ∀ v H' n', IsBld H' b m n' [] → FrB m b H n n' H' → Ev (f v) H' n' Q) : Ev (M.bd (f55 (.ptr (some (b, 0))) (.int .i64 (g : Int))) f) H n Q := by
  unfold f55 f65
  simp only [bd_bd, nck_ptr, bd_ret, fa_ptr, Nat.zero_add]
  rw [Ev_ld _ _ _ _ hb 0 rfl]
  have e0 : be .p .eql (.ptr none) (.ptr none) = M.ret (.bool true) := rfl
  rw [e0]
  simp only [bd_ret, cnd_true, bd_bd]
  have e1 : p2u (.ptr (some (b, 0))) H n = some (.ptr (some (b, 0)), H, n) := by
    unfold p2u; simp only; rw [bd_at (getO_at hb n)]; rfl
  rw [Ev_bd]
  refine .of e1 ?_
  show Ev (M.bd (M.ret (AV.ptr (some (b, 0)))) _) H n Q
  rw [bd_ret]
  have e2 : u2p 61 2 (.ptr (some (b, 0))) H n = some (.ptr (some (b, 0)), H, n) := by
    unfold u2p; simp only; rw [bd_at (getO_at hb n)]; rfl
  rw [Ev_bd]
  refine .of e2 ?_
  rw [Ev_st _ _ _ _ hb 0 _ rfl (by simp) rfl, lay_one _ _ _ (by simp)]
  simp only [List.set_cons_zero, bd_ret]
  have h1 : (H.set b (.row [.ptr (some (b, 0)), .slN] 61 (.own 0))).get b = some (.row [.ptr (some (b, 0)), .slN] 61 (.own 0)) := get_set_same _ _ _
  have hfr : FrB m b H n n (H.set b (.row [.ptr (some (b, 0)), .slN] 61 (.own 0))) :=
    ⟨Nat.le_refl n, fun i hi => by rw [get_set_ne _ _ _ _ (by omega)]; exact hf i hi, fun i _ q _ => get_set_ne _ _ _ _ q⟩
  generalize H.set b (.row [.ptr (some (b, 0)), .slN] 61 (.own 0)) = H1 at h1 hfr
  unfold f55_0
  have c1 : ((g : Int) < 0) = False := eq_false (by omega)
  simp only [bi_lss, bd_ret, c1, decide_false, cnd_false]
  unfold f55_1
  simp only [bd_bd, bd_ret, nck_ptr, fa_ptr, Nat.zero_add]
  rw [Ev_ld _ _ _ _ h1 1 rfl]
  have e3 : cpN .slN = M.ret (.int .i64 0) := rfl
  have e4 : lnL .slN = M.ret (.int .i64 0) := rfl
  simp only [e3, e4, bd_ret, nck_ptr, fa_ptr, Nat.zero_add]
  rw [Ev_ld _ _ _ _ h1 1 rfl]
  have c2 : wr .i64 (0 - 0) = 0 := rfl
  have c3 : ((0 : Int) < (g : Int)) = True := eq_true (by omega)
  simp only [e4, bd_ret, bi_sub, c2, bi_lss, c3, decide_true, cnd_true, bd_bd]
  unfold f78
  simp only [bd_bd, bd_ret, nck_ptr, fa_ptr, Nat.zero_add]
  rw [Ev_ld _ _ _ _ h1 1 rfl]
  have c4 : wr .i64 (2 * 0) = 0 := rfl
  have c5 : wr .i64 (0 + (g : Int)) = (g : Int) := by rw [Int.zero_add, wr_i64 _ (by omega) (by omega)]
  simp only [e3, bd_ret, bi_mul, c4, bi_add, c5, nck_ptr, fa_ptr, Nat.zero_add]
  rw [Ev_ld _ _ _ _ h1 1 rfl]
  simp only [e4, bd_ret]
  have e5 : nMakeNoZero 5 (.int .i64 (g : Int)) = M.bd (newO (.row (List.replicate g .bad) 5 (.own 0))) fun i => M.ret (.sl i 0 g g 1) := by
    show (bif Nat.ble g 281474976710656 then M.bd (newO (.row (rep [.bad] g) 5 (.own 0))) _ else fail) = _
    rw [bleN_eq, decide_eq_true (by omega), cond_true, rep_len]
  rw [e5, bd_bd, Ev_newO]
  refine ⟨hfr.free n (Nat.le_refl n), ?_⟩
  rw [bd_ret]
  have h2 : (H1.set n (.row (List.replicate g .bad) 5 (.own 0))).get b = some (.row [.ptr (some (b, 0)), .slN] 61 (.own 0)) := by rw [get_set_ne _ _ _ _ (by omega)]; exact h1
  have h3 : (H1.set n (.row (List.replicate g .bad) 5 (.own 0))).get n = some (.row (List.replicate g .bad) 5 (.own 0)) := get_set_same _ _ _
  have hfr2 : FrB m b H n (n + 1) (H1.set n (.row (List.replicate g .bad) 5 (.own 0))) := hfr.trans ⟨by omega, fun i hi => by rw [get_set_ne _ _ _ _ (by omega)]; exact hfr.free i (by omega), fun i hi _ _ => get_set_ne _ _ _ _ (by omega)⟩
  generalize H1.set n (.row (List.replicate g .bad) 5 (.own 0)) = H2 at h2 h3 hfr2
  unfold rck
  simp only [bd_bd]
  rw [Ev_ld _ _ _ _ h2 1 rfl]
  rw [show beqA .slN .slN = true from rfl, cond_true]
  simp only [bd_bd]
  have e6 := sls_to n 0 g g .i64 0 (Nat.zero_le _)
  rw [show ((0 : Nat) : Int) = 0 from rfl] at e6
  simp only [e6, bd_ret, nck_ptr, fa_ptr, Nat.zero_add]
  rw [Ev_ld _ _ _ _ h2 1 rfl]
  have e7 : cpy 1 (.sl n 0 0 g 1) .slN = M.ret (.int .i64 0) := rfl
  simp only [e7, bd_ret, nck_ptr, fa_ptr, Nat.zero_add]
  rw [Ev_st _ _ _ _ h2 1 _ rfl (by simp) rfl, lay_one _ _ _ (by simp)]
  simp only [List.set_cons_succ, List.set_cons_zero, bd_ret]
  refine k _ _ _ ⟨.ptr (some (b, 0)), .sl n 0 0 g 1, get_set_same _ _ _, .inr rfl, .inr ⟨n, g, List.replicate g .bad, 0, rfl, by omega, by rw [get_set_ne _ _ _ _ (by omega)]; exact h3, by simp, Nat.zero_le _, rfl, Nat.zero_le _, by omega, by omega⟩, hmb, by omega⟩ (hfr2.trans ⟨Nat.le_refl _, fun i hi => by rw [get_set_ne _ _ _ _ (by omega)]; exact hfr2.free i hi, fun i _ q _ => get_set_ne _ _ _ _ q⟩)
/-! ### strings.Join -/
theorem Join_write {m b n0 : Nat} {L : List (List UInt8)} {w : AV} (hb0 : n0 ≤ m) (hl : L.length < 1000000000) : ∀ (k p : Nat) (t : List UInt8) (H : Heap) (n : Nat), L.length - p < k → p ≤ L.length → (∀ i, n ≤ i → H.get i = none) → IsBld H b m n t → SlS H n0 L w → t.length + (((L.drop p).map fun y => 47 :: y).flatten).length ≤ 1000000000000 →
    Ev (f25_l10 k (.str [47]) (.ptr (some (b, 0))) w (.int .i64 (L.length : Int)) (.int .i64 (p : Int))) H n fun v H' n' => v = .str (t ++ ((L.drop p).map fun y => 47 :: y).flatten) ∧ FrB m b H n n' H' := by
  intro k
  induction k with
  | zero => intro p t H n h; omega
  | succ k ih =>
    intro p t H n h hp hf hbl hsl ht
    unfold f25_l10 f25_b10
    by_cases hlt : p < L.length
    · have c1 : ((p : Int) < (L.length : Int)) = True := eq_true (by omega)
      have hd := List.drop_eq_getElem_cons hlt
      simp only [bi_lss, bd_ret, c1, decide_true, cnd_true]
      refine hsl.at .i64 p hlt ?_
      rw [hd] at ht
      simp only [List.map_cons, List.flatten_cons, List.length_append, List.length_cons] at ht
      refine WriteString_eq hf hbl (by simp; omega) fun v1 H1 n1 b1 f1 => ?_
      refine WriteString_eq f1.free b1 (by simp; omega) fun v2 H2 n2 b2 f2 => ?_
      rw [bi_add, wr_i64 _ (by omega) (by omega), bd_ret, show ((p : Int) + 1) = ((p + 1 : Nat) : Int) from rfl]
      have f12 := f1.trans f2
      have hlt2 := hbl.lt
      refine (ih (p + 1) _ H2 n2 (by omega) (by omega) f2.free b2 (hsl.keep (Nat.le_refl _) fun i hi => f12.keep i (by omega) (by omega) (.inl (by omega))) (by simp only [List.length_append, List.length_singleton]; omega)).mono fun v H' n' ⟨q1, q2⟩ => ⟨?_, f12.trans q2⟩
      rw [q1, hd]
      simp only [List.map_cons, List.flatten_cons, List.append_assoc, List.cons_append, List.nil_append]
    · have c1 : ((p : Int) < (L.length : Int)) = False := eq_false (by omega)
      have : L.drop p = [] := List.drop_eq_nil_of_le (by omega)
      simp only [bi_lss, bd_ret, c1, decide_false, cnd_false]
      unfold f25_8
      rw [this] at ht ⊢
      refine String_eq hf hbl (by simp at ht; omega) fun H' b' f' => ?_
      rw [Ev_ret]
      exact ⟨by simp, f'⟩
theorem joinS_len (x : List UInt8) (l : List (List UInt8)) : (joinS (x :: l)).length = (x :: l).flatten.length + l.length := by
  rw [joinS_cons]
  simp only [List.length_append, List.flatten_cons]
  have : ∀ l : List (List UInt8), ((l.map fun y => 47 :: y).flatten).length = l.flatten.length + l.length := by
    intro l
    induction l with
    | nil => rfl
    | cons y r ih => simp only [List.map_cons, List.flatten_cons, List.length_append, List.length_cons, ih]; omega
  rw [this]; omega
theorem Join_build {L : List (List UInt8)} {w : AV} (hl : L.length < 1000000000) (h1 : 1 < L.length) (hb : L.flatten.length ≤ 10000000000) (g : Nat) (hg : 0 < g) (hg2 : g ≤ 1000000000000) {H : Heap} {n : Nat} (hf : ∀ i, n ≤ i → H.get i = none) (hsl : SlS H n L w) :
    Ev (f25_4 w (.str [47]) (.int .i64 (g : Int))) H n fun v H' n' => v = .str (joinS L) ∧ Fr n H n' H' := by
  unfold f25_4
  rw [Ev_bx _ _ _ _ _ rfl]
  refine ⟨hf n (Nat.le_refl n), ?_⟩
  have hfr : Fr n H (n + 1) (H.set n (.row (cells (.agg [.ptr none, .slN])) 61 (.own 0))) := Fr.new (.refl hf (Nat.le_refl n)) _
  have hrow : (H.set n (.row (cells (.agg [.ptr none, .slN])) 61 (.own 0))).get n = some (.row [.ptr none, .slN] 61 (.own 0)) := get_set_same _ _ _
  generalize H.set n (.row (cells (.agg [.ptr none, .slN])) 61 (.own 0)) = H1 at hfr hrow
  have hsl1 : SlS H1 n L w := hsl.keep (Nat.le_refl _) fun i hi => hfr.keep i hi
  unfold f25_5
  refine Grow_new g hg hg2 hfr.free hrow (Nat.lt_succ_self n) (Nat.le_refl n) fun v H2 n2 b2 f2 => ?_
  have hsl2 : SlS H2 n L w := hsl1.keep (Nat.le_refl _) fun i hi => f2.keep i (by omega) (by omega) (.inl hi)
  unfold f25_6
  refine hsl2.at .i64 0 (by omega) ?_
  obtain ⟨x, l, rfl⟩ : ∃ x l, L = x :: l := by cases L with
    | nil => simp at h1
    | cons x l => exact ⟨x, l, rfl⟩
  simp only [List.flatten_cons, List.length_append, List.length_cons] at hb hl h1
  rw [show ((x :: l)[0]'(by simp)) = x from rfl]
  refine WriteString_eq f2.free b2 (by simp; omega) fun v3 H3 n3 b3 f3 => ?_
  have hsl3 : SlS H3 n (x :: l) w := hsl2.keep (Nat.le_refl _) fun i hi => f3.keep i (by have := f2.le; omega) (by omega) (.inl hi)
  unfold f25_7
  obtain ⟨w', hw1, hw2⟩ := hsl3.from .i64 1 (by simp)
  rw [show ((1 : Nat) : Int) = 1 from rfl] at hw1
  rw [hw1, bd_ret, hw2.len, bd_ret]
  unfold f25_9
  have hj := joinS_len x l
  have hj2 := joinS_cons x l
  have hj3 := congrArg List.length hj2
  simp only [List.flatten_cons, List.length_append] at hj hj3
  refine (Join_write (L := (x :: l).drop 1) (Nat.le_refl n) (by simp; omega) fuel 0 _ H3 n3 (by rw [fuel_pos]; simp; omega) (Nat.zero_le _) f3.free b3 hw2 (by simp only [List.drop_succ_cons, List.drop_zero, List.nil_append]; omega)).mono fun v H' n' ⟨q1, q2⟩ => ?_
  refine ⟨?_, ?_⟩
  · rw [q1, hj2]; simp
  · have f23 := f2.trans (f3.trans q2)
    exact hfr.trans (f23.fr (m := n) (by omega) (Nat.le_refl n)) (Nat.le_refl n)
theorem Join_sum {L : List (List UInt8)} {w : AV} (hl : L.length < 1000000000) (h1 : 1 < L.length) (hb : L.flatten.length ≤ 10000000000) {H : Heap} {n : Nat} (hf : ∀ i, n ≤ i → H.get i = none) (hsl : SlS H n L w) : ∀ (k p a : Nat), L.length - p < k → p ≤ L.length → 0 < a → a + (L.drop p).flatten.length ≤ 100000000000 →
    Ev (f25_l12 k w (.str [47]) (.int .i64 (a : Int)) w (.int .i64 (L.length : Int)) (.int .i64 (p : Int))) H n fun v H' n' => v = .str (joinS L) ∧ Fr n H n' H' := by
  intro k
  induction k with
  | zero => intro p a h; omega
  | succ k ih =>
    intro p a h hp ha hs
    unfold f25_l12 f25_b12
    by_cases hlt : p < L.length
    · have c1 : ((p : Int) < (L.length : Int)) = True := eq_true (by omega)
      have hd := List.drop_eq_getElem_cons hlt
      simp only [bi_lss, bd_ret, c1, decide_true]
      unfold f25_13
      simp only [cnd_true]
      unfold f25_14
      refine hsl.at .i64 p hlt ?_
      rw [hd] at hs
      simp only [List.flatten_cons, List.length_append] at hs
      unfold f25_16
      simp only [lnS_str, bd_ret]
      rw [bi_sub, wr_i64 _ (by omega) (by omega), bd_ret]
      have c2 : ((9223372036854775807 : Int) - (a : Int) < (L[p].length : Int)) = False := eq_false (by omega)
      simp only [bi_gtr, bd_ret, c2, decide_false, cnd_false]
      unfold f25_17
      simp only [lnS_str, bd_ret]
      rw [bi_add, wr_i64 _ (by omega) (by omega), bd_ret]
      unfold f25_15
      rw [bi_add, wr_i64 _ (by omega) (by omega), bd_ret, show ((p : Int) + 1) = ((p + 1 : Nat) : Int) from rfl, show ((a : Int) + (L[p].length : Int)) = ((a + L[p].length : Nat) : Int) from rfl]
      exact ih (p + 1) (a + L[p].length) (by omega) (by omega) (by omega) (by omega)
    · have c1 : ((p : Int) < (L.length : Int)) = False := eq_false (by omega)
      simp only [bi_lss, bd_ret, c1, decide_false]
      unfold f25_13
      simp only [cnd_false]
      exact Join_build hl h1 hb a ha (by omega) hf hsl
/-- strings.Join with slashes. -/
theorem strJoin_eq {L : List (List UInt8)} {w : AV} (hl : L.length < 1000000000) (hb : L.flatten.length ≤ 10000000000) {H : Heap} {n : Nat} (hf : ∀ i, n ≤ i → H.get i = none) (hsl : SlS H n L w) {f : AV → M AV} {Q : AV → Heap → Nat → Prop}
    (k : ∀ H' n', Fr n H n' H' → Ev (f (.str (joinS L))) H' n' Q) : Ev (M.bd (f25 w (.str [47])) f) H n Q := by
  rw [Ev_bd]
  suffices h : Ev (f25 w (.str [47])) H n fun v H' n' => v = .str (joinS L) ∧ Fr n H n' H' from h.mono fun v H' n' ⟨q1, q2⟩ => by subst q1; exact k H' n' q2
  unfold f25 f25_0
  rw [hsl.len, bd_ret]
  by_cases h0 : L.length = 0
  · have : L = [] := List.eq_nil_of_length_eq_zero h0
    subst this
    simp [joinS]
    exact .refl hf (Nat.le_refl n)
  have c0 : ((L.length : Int) = 0) = False := eq_false (by omega)
  simp only [bi_eql, bd_ret, c0, decide_false, cnd_false]
  by_cases h1 : L.length = 1
  · have c1 : ((L.length : Int) = 1) = True := eq_true (by omega)
    simp only [c1, decide_true, cnd_true]
    refine hsl.at .i64 0 (by omega) ?_
    rw [Ev_ret]
    match L, h1 with
    | [x], _ => exact ⟨rfl, .refl hf (Nat.le_refl n)⟩
  have c1 : ((L.length : Int) = 1) = False := eq_false (by omega)
  simp only [c1, decide_false, cnd_false]
  unfold f25_1 f25_2
  have c4 : ((([47] : List UInt8).length : Nat) : Int) = 1 := rfl
  have c5 : ((0 : Int) < 1) = True := eq_true (by omega)
  simp only [lnS_str, c4, bd_ret, bi_gtr, c5, decide_true]
  unfold f25_18
  simp only [cnd_true, lnS_str, c4, bd_ret]
  rw [hsl.len, bd_ret, bi_sub, wr_i64 _ (by omega) (by omega), bd_ret, bi_quo _ _ _ (by omega)]
  have hq : (9223372036854775807 : Int).tdiv ((L.length : Int) - 1) = (((9223372036854775807 / (L.length - 1) : Nat)) : Int) := by
    rw [show ((L.length : Int) - 1) = ((L.length - 1 : Nat) : Int) by omega]
    rfl
  have hq2 : 9223372036854775807 / (L.length - 1) ≤ 9223372036854775807 := Nat.div_le_self _ _
  have hq3 : 1 < 9223372036854775807 / (L.length - 1) := by
    rw [Nat.lt_iff_add_one_le, Nat.le_div_iff_mul_le (by omega)]
    omega
  rw [hq]
  generalize 9223372036854775807 / (L.length - 1) = z at hq2 hq3
  rw [wr_i64 _ (by omega) (by omega), bd_ret]
  have c6 : ((z : Int) ≤ 1) = False := eq_false (by omega)
  simp only [bi_geq, bd_ret, c6, decide_false, cnd_false]
  unfold f25_19
  simp only [lnS_str, c4, bd_ret]
  rw [hsl.len, bd_ret, bi_sub, wr_i64 _ (by omega) (by omega), bd_ret, bi_mul, wr_i64 _ (by omega) (by omega), bd_ret, bi_add, wr_i64 _ (by omega) (by omega), bd_ret]
  unfold f25_3
  rw [hsl.len, bd_ret]
  unfold f25_11
  rw [show ((0 : Int) + 1 * ((L.length : Int) - 1)) = ((L.length - 1 : Nat) : Int) by omega]
  exact Join_sum hl (by omega) hb hf hsl fuel 0 (L.length - 1) (by rw [fuel_pos]; omega) (Nat.zero_le _) (by omega) (by simp only [List.drop_zero]; omega)
end Go.Proofs.YtgljgjnhagidnaaGreatDoor.Den
