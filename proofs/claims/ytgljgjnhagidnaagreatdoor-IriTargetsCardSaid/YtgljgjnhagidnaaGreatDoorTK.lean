/- The layers pname and iri: Split, dots. -/
import Derived.Test.YtgljgjnhagidnaaGreatDoorTJ
namespace Go.Proofs.YtgljgjnhagidnaaGreatDoor.Den
open Go Go.Dn Go.Dn.M Go.Dn.Pl
set_option maxRecDepth 100000
set_option linter.unusedVariables false
set_option linter.unusedSimpArgs false

theorem last_loop (s : List UInt8) (hs : s.length < 1000000000) : ∀ (k i : Nat), i < k → i ≤ s.length →
    f66_l3 k (.str s) (.int .u8 47) (.int .i64 ((i : Int) - 1)) = M.ret (.int .i64 ((lsUpto s i : Int) - 1)) := by
  intro k
  induction k with
  | zero => intro i h; omega
  | succ k ih =>
    intro i h hi
    unfold f66_l3 f66_b3
    cases i with
    | zero =>
      have c : ((0 : Int) ≤ ((0 : Nat) : Int) - 1) = False := eq_false (by omega)
      simp only [bi_geq, bd_ret, c, decide_false, cnd_false]
      rfl
    | succ i =>
      have c : ((0 : Int) ≤ ((i + 1 : Nat) : Int) - 1) = True := eq_true (by omega)
      simp only [bi_geq, bd_ret, c, decide_true, cnd_true]
      rw [ixs_int s .i64 _ i (by omega) (by omega), bd_ret]
      simp only [bi_eql, bd_ret]
      rw [lsUpto, List.getElem?_eq_getElem (by omega)]
      by_cases h47 : s[i] = 47
      · have c2 : ((s[i].toNat : Int) = 47) = True := eq_true (by rw [h47]; rfl)
        simp only [c2, decide_true, cnd_true]
        rw [if_pos (by rw [h47])]
      · have c2 : ((s[i].toNat : Int) = 47) = False := eq_false (fun e => h47 (UInt8.toNat_inj.1 (by have : (47 : UInt8).toNat = 47 := rfl; omega)))
        simp only [c2, decide_false, cnd_false]
        rw [if_neg (by simpa using h47), bi_sub, wr_i64 _ (by omega) (by omega), bd_ret, show ((i + 1 : Nat) : Int) - 1 - 1 = (i : Int) - 1 by omega]
        exact ih i (by omega) (by omega)
theorem pSplit_eq (s : List UInt8) (hs : s.length < 1000000000) : f15 (.str s) = M.ret (.tuple [.str (dirB s), .str (s.drop (lsUpto s s.length))]) := by
  unfold f15 f39 f66 f66_0
  simp only [lnS_str, bd_ret, bd_bd]
  rw [bi_sub, wr_i64 _ (by omega) (by omega), bd_ret]
  unfold f66_2
  rw [last_loop s hs fuel s.length (by rw [fuel_pos]; omega) (Nat.le_refl _), bd_ret]
  have hle := lsUpto_le s s.length
  rw [bi_add, wr_i64 _ (by omega) (by omega)]
  simp only [bd_ret]
  rw [ss_to s .i64 _ (lsUpto s s.length) (by omega) (by omega), bd_ret, ss_from s .i64 _ (lsUpto s s.length) (by omega) (by omega), bd_ret]
  rfl
/-! ### dots -/
theorem addedOf_row {H : Heap} {n r : Nat} {v : AV} {e : TypeId} {rw' : Rw} (h : H.get r = some (.row [v] e rw')) : addedOf 1 (.sl r 0 1 1 1) H n = some (([v], [v].length), H, n) := by
  show M.bd (rd r 0 (1 * 1)) (fun cs => M.ret (cs, 1)) H n = _
  rw [bd_at (rd_at _ _ _ h 0 (1 * 1) (by simp))]
  rfl
/-- A text is put behind an own slice of texts. -/
theorem put_str {H : Heap} {m n : Nat} {out : List (List UInt8)} {buf : AV} (x y : List UInt8) (hf : ∀ i, n ≤ i → H.get i = none) (hm : m ≤ n) (hz : SlZ H 9 m n (out.map .str) buf) (hl : out.length ≤ 1000000000000) {f : AV → M AV} {Q : AV → Heap → Nat → Prop}
    (k : ∀ v H' n', SlZ H' 9 m n' ((out ++ [x]).map .str) v → Fr m H n' H' → n ≤ n' → Ev (f v) H' n' Q) : Ev (M.bd (bsl 9 1 1 [(.str [])] [(0, 1, .str x)]) fun v9 => M.bd (app 9 1 16 buf v9) f) H n Q := by
  have e0 : bsl 9 1 1 [(.str [])] [(0, 1, .str x)] = M.bd (Dn.newRow 9 [.str x]) fun i => M.ret (.sl i 0 1 1 1) := rfl
  rw [e0]
  simp only [bd_bd, bd_ret]
  rw [Ev_newRow _ _ _ _ rfl]
  refine ⟨hf n (Nat.le_refl n), ?_⟩
  have hfr : Fr n H (n + 1) (H.set n (.row [.str x] 9 (.own 0))) := Fr.new (.refl hf (Nat.le_refl n)) _
  have hrow : (H.set n (.row [.str x] 9 (.own 0))).get n = some (.row [.str x] 9 (.own 0)) := get_set_same _ _ _
  generalize H.set n (.row [.str x] 9 (.own 0)) = H1 at hfr hrow
  rw [Ev_bd]
  have all : ∀ l : List (List UInt8), (l.map AV.str).all oneCell = true := by
    intro l; rw [List.all_eq_true]; intro v hv
    obtain ⟨y, _, rfl⟩ := List.mem_map.1 hv; rfl
  refine (app_z hfr.free (by omega) (hz.keep (by omega) fun i _ hi _ => hfr.keep i hi) (addedOf_row hrow) rfl (all out) (by simp; omega) (by simp; omega)).mono fun v H' n' ⟨q1, q2⟩ => ?_
  refine k v H' n' (by simpa using q1) ((hfr.weaken hm).trans (q2.fr (by omega)) (Nat.le_refl m)) (by have := q2.le; omega)
theorem dots_end {m : Nat} {L : List (List UInt8)} {v : AV} (hL : 0 < L.length) (hl : L.length < 1000000000) {out : List (List UInt8)} {buf : AV} {H : Heap} {n : Nat} (hf : ∀ i, n ≤ i → H.get i = none) (hmn : m ≤ n) (hsl : SlS H m L v) (hz : SlZ H 9 m n (out.map .str) buf) (hol : out.length ≤ 100000000) (hob : out.flatten.length ≤ 1000000000) :
    Ev (f16_3 v buf) H n fun r H' n' => r = .str (47 :: joinS (out ++ (if isDot (L.getLastD []) then [[]] else []))) ∧ Fr m H n' H' := by
  have join : ∀ (o : List (List UInt8)) (b : AV) (H1 : Heap) (n1 : Nat), (∀ i, n1 ≤ i → H1.get i = none) → m ≤ n1 → SlZ H1 9 m n1 (o.map .str) b → o.length ≤ 100000001 → o.flatten.length ≤ 1000000000 → Ev (f16_4 b) H1 n1 fun r H' n' => r = .str (47 :: joinS o) ∧ Fr m H1 n' H' := by
    intro o b H1 n1 hf hm hz ho hb
    unfold f16_4
    refine strJoin_eq (by omega) (by omega) hf hz.sls fun H2 n2 f2 => ?_
    have hj : (joinS o).length ≤ 2000000000 := by
      cases o with
      | nil => simp [joinS]
      | cons x t => rw [joinS_len]; simp only [List.length_cons] at ho; omega
    rw [bis_add _ _ (by simp; omega), bd_ret, Ev_ret]
    exact ⟨rfl, f2.weaken hm⟩
  unfold f16_3
  rw [hsl.len, bd_ret, bi_sub, wr_i64 _ (by omega) (by omega), bd_ret, show ((L.length : Int) - 1) = ((L.length - 1 : Nat) : Int) by omega]
  refine hsl.at .i64 (L.length - 1) (by omega) ?_
  have elast : L.getLastD [] = L[L.length - 1] := by
    rw [List.getLastD_eq_getLast?, List.getLast?_eq_getElem?, List.getElem?_eq_getElem (by omega)]; rfl
  rw [elast]
  generalize L[L.length - 1] = x
  simp only [bis_eql, bd_ret, gd_bool]
  have hc : ∀ b : Bool, isDot x = b → Ev (cnd (.bool b) (M.bd (bsl 9 1 1 [(.str [])] [(0, 1, (.str []))]) fun v9 => M.bd (app 9 1 16 buf v9) fun v10 => f16_4 v10) (f16_4 buf)) H n fun r H' n' => r = .str (47 :: joinS (out ++ (if isDot x then [[]] else []))) ∧ Fr m H n' H' := by
    intro b hb
    rw [hb]
    cases b with
    | false =>
      simp only [cnd_false, Bool.false_eq_true, if_false, List.append_nil]
      exact join out buf H n hf hmn hz (by omega) hob
    | true =>
      simp only [cnd_true, if_true]
      refine put_str [] [] hf hmn hz (by omega) fun v H1 n1 q1 q2 q3 => ?_
      exact (join (out ++ [[]]) v H1 n1 q2.free (by omega) q1 (by simp; omega) (by simpa using hob)).mono fun r H' n' ⟨z1, z2⟩ => ⟨z1, q2.trans z2 (Nat.le_refl m)⟩
  by_cases h1 : x = [46]
  · simp only [h1, decide_true, Bool.true_eq_false, if_false, bd_ret, gd_tuple, pk_bool, if_true]
    rw [← h1]
    exact hc true (by rw [h1]; rfl)
  · simp only [h1, decide_false, if_true, bd_ret, bis_eql, pk_bool, Bool.false_eq_true, if_false]
    exact hc _ (by unfold isDot; simp [h1])
theorem dots_loop {m : Nat} {L : List (List UInt8)} {v : AV} (hL : 0 < L.length) (hl : L.length < 100000000) : ∀ (k p : Nat) (out : List (List UInt8)) (buf : AV) (H : Heap) (n : Nat), L.length - p < k → p ≤ L.length → (∀ i, n ≤ i → H.get i = none) → m ≤ n → SlS H m L v → SlZ H 9 m n (out.map .str) buf → out.length ≤ p → out.flatten.length + (L.drop p).flatten.length ≤ 1000000000 →
    Ev (f16_l6 k v buf v (.int .i64 (L.length : Int)) (.int .i64 (p : Int))) H n fun r H' n' => r = .str (47 :: joinS ((L.drop p).foldl dotStep out ++ (if isDot (L.getLastD []) then [[]] else []))) ∧ Fr m H n' H' := by
  intro k
  induction k with
  | zero => intro p out buf H n h; omega
  | succ k ih =>
    intro p out buf H n h hp hf hmn hsl hz hop hB
    unfold f16_l6 f16_b6
    by_cases hlt : p < L.length
    · have c1 : ((p : Int) < (L.length : Int)) = True := eq_true (by omega)
      have hd := List.drop_eq_getElem_cons hlt
      simp only [bi_lss, bd_ret, c1, decide_true]
      unfold f16_7
      simp only [cnd_true]
      unfold f16_8
      refine hsl.at .i64 p hlt ?_
      rw [hd] at hB ⊢
      generalize L[p] = x at hB
      simp only [List.flatten_cons, List.length_append] at hB
      simp only [bis_eql, bd_ret, List.foldl_cons]
      have next : ∀ (o : List (List UInt8)) (b : AV) (H1 : Heap) (n1 : Nat), o = dotStep out x → Fr m H n1 H1 → n ≤ n1 → SlZ H1 9 m n1 (o.map .str) b → Ev (f16_9 (f16_l6 k) v b v (.int .i64 (L.length : Int)) (.int .i64 (p : Int))) H1 n1 fun r H' n' => r = .str (47 :: joinS ((L.drop (p + 1)).foldl dotStep (dotStep out x) ++ (if isDot (L.getLastD []) then [[]] else []))) ∧ Fr m H n' H' := by
        intro o b H1 n1 ho hfr hn hz1
        unfold f16_9
        rw [bi_add, wr_i64 _ (by omega) (by omega), bd_ret, show ((p : Int) + 1) = ((p + 1 : Nat) : Int) from rfl]
        have hlen := dotStep_len out x
        rw [← ho] at hlen ⊢
        exact (ih (p + 1) o b H1 n1 (by omega) (by omega) hfr.free (by omega) (hsl.keep (Nat.le_refl _) fun i hi => hfr.keep i hi) hz1 (by omega) (by omega)).mono fun r H' n' ⟨z1, z2⟩ => ⟨z1, hfr.trans z2 (Nat.le_refl m)⟩
      by_cases h1 : x = [46]
      · simp only [h1, decide_true, cnd_true]
        rw [← h1]
        exact next out buf H n (by unfold dotStep; rw [if_pos h1]) (.refl hf hmn) (Nat.le_refl n) hz
      · simp only [h1, decide_false, cnd_false]
        by_cases h2 : x = [46, 46]
        · simp only [h2, decide_true, cnd_true]
          rw [← h2, hz.len, bd_ret, List.length_map, bi_sub, wr_i64 _ (by omega) (by omega), bd_ret]
          have c8 : fold2 mx2 (.int .i64 ((out.length : Int) - 1)) [.int .i64 0] = M.ret (.int .i64 ((out.length - 1 : Nat) : Int)) := by
            show M.bd (bif eqK .i64 .i64 then M.ret (AV.int .i64 (bif ltI ((out.length : Int) - 1) 0 then 0 else (out.length : Int) - 1)) else fail) _ = _
            rw [eqK_self, cond_true, Pl.ltI_eq]
            by_cases h0 : out.length = 0
            · rw [decide_eq_true (by omega), cond_true, bd_ret, h0]; rfl
            · rw [decide_eq_false (by omega), cond_false, bd_ret, show ((out.length : Int) - 1) = ((out.length - 1 : Nat) : Int) by omega]; rfl
          rw [c8, bd_ret]
          obtain ⟨w, hw1, hw2⟩ := hz.to .i64 (out.length - 1) (by simp)
          rw [hw1, bd_ret]
          refine next out.dropLast w H n (by unfold dotStep; rw [if_neg h1, if_pos h2]) (.refl hf hmn) (Nat.le_refl n) ?_
          rw [List.dropLast_eq_take, List.map_take]
          exact hw2
        · simp only [h2, decide_false, cnd_false]
          refine put_str x [] hf hmn hz (by omega) fun b H1 n1 q1 q2 q3 => ?_
          exact next (out ++ [x]) b H1 n1 (by unfold dotStep; rw [if_neg h1, if_neg h2]) q2 q3 q1
    · have c1 : ((p : Int) < (L.length : Int)) = False := eq_false (by omega)
      have : L.drop p = [] := List.drop_eq_nil_of_le (by omega)
      simp only [bi_lss, bd_ret, c1, decide_false]
      unfold f16_7
      rw [this] at hB ⊢
      simp only [cnd_false, List.foldl_nil]
      exact dots_end hL (by omega) hf hmn hsl hz (by omega) (by simpa using hB)
theorem dots_eq (gs : List AObj) (hm : MaxIs gs) (p : List UInt8) (h1 : p ≠ []) (hp : p.length < 90000000) : Cm gs (f16 (.str p)) (.str (dotsP p)) := by
  intro H n ho
  unfold f16 f16_0
  have hlen : 0 < p.length := List.length_pos_iff.2 h1
  rw [ss_from p .i64 1 1 rfl (by omega), bd_ret]
  refine Split_eq gs hm (p.drop 1) (by simp; omega) ho fun H1 n1 l => ?_
  unfold f16_1 f16_2
  have hne : 0 < (segs (p.drop 1)).length := List.length_pos_iff.2 (segs_ne _)
  have hle := segs_le (p.drop 1)
  have hfl := flatten_len (p.drop 1) _ rfl
  rw [List.length_drop] at hle hfl
  have hsl : SlS H1 n1 (segs (p.drop 1)) (.sl n 0 (segs (p.drop 1)).length (segs (p.drop 1)).length 1) := .inr ⟨n, 0, _, _, _, _, rfl, Nat.le_refl _, l.row, by rw [List.drop_zero, List.take_of_length_le (by simp)], l.hi⟩
  rw [hsl.len, bd_ret]
  unfold f16_5
  refine (dots_loop (m := n1) hne (by omega) fuel 0 [] .slN H1 n1 (by rw [fuel_pos]; omega) (Nat.zero_le _) l.ok.free (Nat.le_refl _) hsl (.inl ⟨rfl, rfl⟩) (Nat.zero_le _) (by simp only [List.drop_zero, List.flatten_nil, List.length_nil]; omega)).mono fun v H' n' ⟨q1, q2⟩ => ⟨q1, l.fr.then q2⟩
end Go.Proofs.YtgljgjnhagidnaaGreatDoor.Den
