/- The layer pname: segments, Right. -/
import Derived.Test.YtgljgjnhagidnaaGreatDoorTM
namespace Go.Proofs.YtgljgjnhagidnaaGreatDoor.Den
open Go Go.Dn Go.Dn.M Go.Dn.Pl
set_option maxRecDepth 100000
set_option linter.unusedVariables false
set_option linter.unusedSimpArgs false

theorem seg_loop : ∀ (k : Nat) (s : List UInt8), s.length < k → s.length < 1000000000 → f52_l3 k (.str s) = M.ret (.bool (segK 0 s)) := by
  intro k
  induction k with
  | zero => intro s h; omega
  | succ k ih =>
    intro s h hs
    unfold f52_l3 f52_b3
    cases s with
    | nil => simp [segK, f52_2]
    | cons b r =>
      obtain ⟨w, hw1, hw2, hw3⟩ := pTold_eq (b :: r) hs
      have c0 : ((b :: r) ≠ []) = True := eq_true (by simp)
      have e0 : ixs (.str (b :: r)) (.int .i64 0) = M.ret (.int .u8 (b.toNat : Int)) := rfl
      simp only [bis_neq, bd_ret, c0, decide_true, cnd_true, hw1, ex_0, ex_1]
      rw [segK]
      cases ht : toldB (b :: r) with
      | none =>
        simp only [Option.isSome_none, gd_bool, Bool.false_eq_true, if_false, bd_ret, gd_tuple, pk_bool, cnd_false, e0, pSign_eq _ (toNat_lt b), un_not]
        cases hsg : signC b.toNat with
        | false => simp
        | true =>
          simp only [Bool.not_true, cnd_false, Bool.true_and]
          rw [ss_from (b :: r) .i64 1 1 rfl (by simp), bd_ret]
          exact ih r (by simp at h; omega) (by simp at hs; omega)
      | some v =>
        have := hw3 v ht
        subst this
        have hl := toldB_len ht
        simp only [Option.isSome_some, gd_bool, if_true, bd_ret, pPlain_eq _ hw2]
        have next : f52_l3 k (.str (r.drop 2)) = M.ret (.bool (segK 2 r)) := by
          rw [segK_drop 2 r]
          exact ih (r.drop 2) (by simp at h ⊢; omega) (by simp at hs ⊢; omega)
        have nx : ss (.str (b :: r)) (some (.int .i64 3)) none = M.ret (.str ((b :: r).drop 3)) := ss_from (b :: r) .i64 3 3 rfl hl
        unfold tellBad
        cases h1 : plainC w with
        | true => simp
        | false =>
          by_cases h2 : w = 47
          · simp [h2]
          · by_cases h3 : w = 92
            · simp [h2, h3]
            · by_cases h4 : w = 0
              · simp [h2, h3, h4]
              · simp [h2, h3, h4, nx, next]
theorem pSegment_eq (s : List UInt8) (hs : s.length < 1000000000) : f52 (.str s) = M.ret (.bool (segB s)) := by
  unfold f52 f52_0 segB
  cases s with
  | nil => simp
  | cons b r =>
    have c0 : ((b :: r) = []) = False := eq_false (by simp)
    simp only [bis_eql, c0, decide_false, bd_ret, gd_bool, if_true, HasSuffix_eq _ _ hs, pk_bool, Bool.false_eq_true, if_false, List.isEmpty_cons, Bool.not_false, Bool.true_and]
    cases hsf : [46].isSuffixOf (b :: r) with
    | true => simp
    | false =>
      simp only [cnd_false, Bool.not_false, Bool.true_and]
      unfold f52_1
      exact seg_loop fuel (b :: r) (by rw [fuel_pos]; omega) hs
/-! ### Right -/
noncomputable def rAsg : Code := c1 (c1 (c2 (c1 (c2 (c2 (c2 B22))))))
noncomputable def rBody : Code := c2 (c1 (c2 (c1 (c2 (c2 (c2 B22))))))
/-- The loop's object. -/
noncomputable def rLoop (a st : Nat) (pd : Option Code) : AObj := .loop 22 29 [2] [.ptr (some (a, 0))] [25] rAsg rBody st pd
theorem yld_round (d i a : Nat) (x : AV) {H : Heap} (n : Nat) (h : H.get i = some (rLoop a 0 none)) : apv (apN (d + 1)) (.yld i) [x] H n = r22_0 (apN d) i (.ptr (some (a, 0))) x H n := by
  have e : apv (apN (d + 1)) (.yld i) [x] = dround (tabE (apN d)) i [x] := rfl
  rw [e]
  unfold dround
  rw [bd_at (getO_at h n)]
  exact congrFun (congrFun (r22_0_eq (apN d) i (.ptr (some (a, 0))) x) H) n
theorem yld_run (d i a : Nat) (x : List UInt8) (hx : x.length < 1000000000) {H : Heap} {n : Nat} (hia : i ≠ a) (h : H.get i = some (rLoop a 0 none)) {v0 : AV} (ha : H.get a = some (.row [v0] 4 (.own 0))) {f : AV → M AV} {Q : AV → Heap → Nat → Prop}
    (k1 : segB x = true → ∀ H', H'.get i = some (rLoop a 0 none) → (∀ j, j ≠ i → H'.get j = H.get j) → Ev (f (.bool true)) H' n Q)
    (k2 : segB x = false → ∀ H', H'.get i = some (rLoop a 2 (some .ret)) → H'.get a = some (.row [.bool false] 4 (.own 0)) → (∀ j, j ≠ i → j ≠ a → H'.get j = H.get j) → Ev (f (.bool false)) H' n Q) :
    Ev (M.bd (apv (apN (d + 1)) (.yld i) [.str x]) f) H n Q := by
  rw [Ev_bd]
  unfold Ev
  rw [yld_round d i a _ n h]
  show Ev (r22_0 (apN d) i (.ptr (some (a, 0))) (.str x)) H n fun v H' n' => Ev (f v) H' n' Q
  unfold r22_0
  have hb : begR i H n = some ((), H.set i (rLoop a 1 none), n) := by
    unfold begR
    rw [bd_at (getO_at h n)]
    rfl
  rw [Ev_bd]
  refine .of hb ?_
  unfold f22_0
  rw [pSegment_eq x hx, bd_ret]
  simp only [un_not, bd_ret]
  have h1 : (H.set i (rLoop a 1 none)).get i = some (rLoop a 1 none) := get_set_same _ _ _
  have g1 : ∀ j, j ≠ i → (H.set i (rLoop a 1 none)).get j = H.get j := fun j hj => get_set_ne _ _ _ _ hj
  generalize H.set i (rLoop a 1 none) = H1 at h1 g1
  cases hs : segB x with
  | true =>
    simp only [Bool.not_true, cnd_false]
    have he : endR i none H1 n = some ((), H1.set i (rLoop a 0 none), n) := by
      unfold endR
      rw [bd_at (getO_at h1 n)]
      rfl
    rw [Ev_bd]
    refine .of he ?_
    rw [Ev_ret]
    exact k1 hs _ (get_set_same _ _ _) fun j hj => by rw [get_set_ne _ _ _ _ hj]; exact g1 j hj
  | false =>
    simp only [Bool.not_false, cnd_true]
    have ha1 : H1.get a = some (.row [v0] 4 (.own 0)) := by rw [g1 a (fun e => hia e.symm)]; exact ha
    rw [Ev_st _ _ _ _ ha1 0 _ rfl (by simp) rfl, lay_one _ _ _ (by simp)]
    have h2 : (H1.set a (.row ([v0].set 0 (.bool false)) 4 (.own 0))).get i = some (rLoop a 1 none) := by rw [get_set_ne _ _ _ _ hia]; exact h1
    have he : endR i (some .ret) (H1.set a (.row ([v0].set 0 (.bool false)) 4 (.own 0))) n = some ((), (H1.set a (.row ([v0].set 0 (.bool false)) 4 (.own 0))).set i (rLoop a 2 (some .ret)), n) := by
      unfold endR
      rw [bd_at (getO_at h2 n)]
      rfl
    rw [Ev_bd]
    refine .of he ?_
    rw [Ev_ret]
    exact k2 hs _ (get_set_same _ _ _) (by rw [get_set_ne _ _ _ _ (fun e => hia e.symm)]; exact get_set_same _ _ _) fun j hj hja => by
      rw [get_set_ne _ _ _ _ hj, get_set_ne _ _ _ _ hja]; exact g1 j hj
/-- The state of Right's loop. -/
structure RS (gs : List AObj) (n : Nat) (H0 : Heap) (cur : List UInt8) (H : Heap) (n' : Nat) : Prop where
  ok : Ok gs H n'
  fr : Fr n H0 n' H
  hn : n + 5 ≤ n'
  hg : gs.length ≤ n
  ha : H.get n = some (.row [.bool false] 4 (.own 0))
  hs : H.get (n + 1) = some (.row [.str cur] 9 (.own 0))
  hp : H.get (n + 2) = some (.row [.str [47]] 9 (.own 0))
  hz : H.get (n + 3) = some (.row [.int .i64 0] 3 (.own 0))
  hl : H.get (n + 4) = some (rLoop n 0 none)
/-- A write to one of the call's own. -/
theorem RS.upd {gs : List AObj} {n : Nat} {H0 : Heap} {cur : List UInt8} {H H' : Heap} {n' : Nat} (h : RS gs n H0 cur H n') (hk : ∀ j, j < n ∨ n + 5 ≤ j → H'.get j = H.get j) : Ok gs H' n' ∧ Fr n H0 n' H' := by
  refine ⟨⟨h.ok.le, fun i hi => by rw [hk i (.inr (by have := h.hn; omega))]; exact h.ok.free i hi, fun i hi => by rw [hk i (.inl (by have := h.hg; omega))]; exact h.ok.glob i hi⟩, ⟨h.fr.le, fun i hi => by rw [hk i (.inr (by have := h.hn; omega))]; exact h.fr.free i hi, fun i hi => by rw [hk i (.inl hi)]; exact h.fr.keep i hi⟩⟩
theorem right_seq (gs : List AObj) (hm : MaxIs gs) (d n : Nat) (H0 : Heap) : ∀ (k : Nat) (cur : List UInt8), cur.length < k → cur.length < 1000000000 → ∀ H n', RS gs n H0 cur H n' →
    Ev (f84_l2 (apN (d + 1)) k (.yld (n + 4)) (.ptr (some (n + 2, 0))) (.ptr (some (n + 1, 0))) (.ptr (some (n + 3, 0)))) H n' fun v H' n2 => v = .tuple [] ∧ Ok gs H' n2 ∧ Fr n H0 n2 H' ∧ n + 5 ≤ n2 ∧ H'.get n = some (.row [.bool false] 4 (.own 0)) ∧ H'.get (n + 4) = some (if (segs cur).all segB then rLoop n 0 none else rLoop n 2 (some .ret)) := by
  intro k
  induction k with
  | zero => intro cur h; omega
  | succ k ih =>
    intro cur h hc H n' r
    unfold f84_l2 f84_b2
    rw [Ev_ld _ _ _ _ r.hs 0 rfl, Ev_ld _ _ _ _ r.hp 0 rfl]
    unfold f57
    rw [bd_bd]
    refine (Index_eq gs hm cur [47] hc).call r.ok fun H1 n1 f1 => ?_
    have hn := r.hn
    have r1 : RS gs n H0 cur H1 n1 := ⟨r.ok.fr f1, r.fr.then f1, by have := f1.le; omega, r.hg, by rw [f1.keep _ (by omega)]; exact r.ha, by rw [f1.keep _ (by omega)]; exact r.hs, by rw [f1.keep _ (by omega)]; exact r.hp, by rw [f1.keep _ (by omega)]; exact r.hz, by rw [f1.keep _ (by omega)]; exact r.hl⟩
    rw [ixS_one, bd_ret]
    have hcut := segs_cut cur
    have e1 : ixF (fun b => b.toNat == (47 : UInt8).toNat) cur 0 = if sl47 cur < cur.length then ((sl47 cur : Nat) : Int) else -1 := by
      rw [ixF_eq]
      have : cur.findIdx (fun b => b.toNat == (47 : UInt8).toNat) = sl47 cur := rfl
      rw [this, Nat.zero_add]
    rw [e1]
    by_cases hsl : sl47 cur < cur.length
    · rw [if_pos hsl] at hcut ⊢
      have c1 : (((sl47 cur : Nat) : Int) < 0) = False := eq_false (by omega)
      simp only [bi_lss, bd_ret, c1, decide_false, cnd_false]
      rw [Ev_ld _ _ _ _ r1.hs 0 rfl, Ev_ld _ _ _ _ r1.hz 0 rfl, bi_add, wr_i64 _ (by omega) (by omega), bd_ret, ss_to cur .i64 _ (sl47 cur) (by omega) (by omega), bd_ret]
      refine yld_run d (n + 4) n (cur.take (sl47 cur)) (by simp; omega) (by omega) r1.hl r1.ha (fun hseg H2 q1 q2 => ?_) (fun hseg H2 q1 q2 q3 => ?_)
      · simp only [un_not, Bool.not_true, bd_ret, cnd_false]
        have s2 : H2.get (n + 1) = some (.row [.str cur] 9 (.own 0)) := by rw [q2 _ (by omega)]; exact r1.hs
        have p2 : H2.get (n + 2) = some (.row [.str [47]] 9 (.own 0)) := by rw [q2 _ (by omega)]; exact r1.hp
        rw [Ev_ld _ _ _ _ s2 0 rfl, Ev_ld _ _ _ _ p2 0 rfl]
        simp only [lnS_str, bd_ret]
        rw [bi_add, wr_i64 _ (by simp; omega) (by simp; omega), bd_ret, ss_from cur .i64 _ (sl47 cur + 1) (by simp) (by omega), bd_ret]
        rw [Ev_st _ _ _ _ s2 0 _ rfl (by simp) rfl, lay_one _ _ _ (by simp)]
        have u := r1.upd (H' := H2.set (n + 1) (.row ([AV.str cur].set 0 (.str (cur.drop (sl47 cur + 1)))) 9 (.own 0))) fun j hj => by rw [get_set_ne _ _ _ _ (by omega)]; exact q2 j (by omega)
        have r3 : RS gs n H0 (cur.drop (sl47 cur + 1)) (H2.set (n + 1) (.row ([AV.str cur].set 0 (.str (cur.drop (sl47 cur + 1)))) 9 (.own 0))) n1 :=
          ⟨u.1, u.2, r1.hn, r1.hg, by rw [get_set_ne _ _ _ _ (by omega), q2 _ (by omega)]; exact r1.ha, get_set_same _ _ _, by rw [get_set_ne _ _ _ _ (by omega)]; exact p2, by rw [get_set_ne _ _ _ _ (by omega), q2 _ (by omega)]; exact r1.hz, by rw [get_set_ne _ _ _ _ (by omega)]; exact q1⟩
        refine (ih (cur.drop (sl47 cur + 1)) (by simp; omega) (by simp; omega) _ _ r3).mono fun v H' n2 ⟨a1, a2, a3, a4, a5, a6⟩ => ⟨a1, a2, a3, a4, a5, ?_⟩
        rw [a6, hcut, List.all_cons, hseg, Bool.true_and]
      · simp only [un_not, Bool.not_false, bd_ret, cnd_true, Ev_ret]
        have u := r1.upd (H' := H2) fun j hj => q3 j (by omega) (by omega)
        refine ⟨trivial, u.1, u.2, r1.hn, q2, ?_⟩
        rw [q1, hcut, List.all_cons, hseg]; rfl
    · rw [if_neg hsl] at hcut ⊢
      have c1 : ((-1 : Int) < 0) = True := eq_true (by omega)
      simp only [bi_lss, bd_ret, c1, decide_true, cnd_true]
      unfold f84_1
      rw [Ev_ld _ _ _ _ r1.hs 0 rfl]
      rw [hcut]
      refine yld_run d (n + 4) n cur hc (by omega) r1.hl r1.ha (fun hseg H2 q1 q2 => ?_) (fun hseg H2 q1 q2 q3 => ?_)
      · rw [Ev_ret]
        have u := r1.upd (H' := H2) fun j hj => q2 j (by omega)
        exact ⟨rfl, u.1, u.2, r1.hn, by rw [q2 _ (by omega)]; exact r1.ha, by rw [q1, List.all_cons, hseg]; rfl⟩
      · rw [Ev_ret]
        have u := r1.upd (H' := H2) fun j hj => q3 j (by omega) (by omega)
        exact ⟨rfl, u.1, u.2, r1.hn, q2, by rw [q1, List.all_cons, hseg]; rfl⟩
theorem pRight_eq (gs : List AObj) (hm : MaxIs gs) (d : Nat) (s : List UInt8) : Cm gs (f22 (apN (d + 2)) (.str s)) (.bool (nameB s)) := by
  intro H n ho
  unfold f22
  refine Lc.start ho _ rfl fun l => ?_
  simp only [CutPrefix_eq, bd_ret, ex_0, ex_1, un_not]
  have no : ∀ b : Bool, b = false → Ev (M.bd (st (.ptr (some (n, 0))) (.bool false)) fun _ => M.bd (ld (.ptr (some (n, 0)))) fun v14 => M.ret v14) (H.set n (.row (cells (.bool false)) 4 (.own 0))) (n + 1) fun v H' n' => v = .bool b ∧ Fr n H n' H' := by
    intro b hb
    subst hb
    refine l.st 0 _ (by simp [cells]) rfl fun H1 l => ?_
    refine l.ld 0 rfl ?_
    exact l.done
  unfold nameB
  cases hp : [47].isPrefixOf s with
  | false =>
    simp only [Bool.not_false, gd_bool, Bool.true_eq_false, if_false, bd_ret, gd_tuple, pk_bool, if_true, cnd_true]
    exact no _ rfl
  | true =>
    simp only [Bool.not_true, gd_bool, if_true, bd_ret, lnS_str, bi_lss, pk_bool, Bool.false_eq_true, if_false, Bool.true_and]
    by_cases h2 : 2 ≤ s.length
    · have c1 : ((s.length : Int) < 2) = False := eq_false (by omega)
      simp only [c1, decide_false, if_true, bd_ret, lnS_str, bi_gtr, pk_bool, Bool.false_eq_true, if_false]
      by_cases h3 : s.length ≤ 255
      · have c2 : ((255 : Int) < (s.length : Int)) = False := eq_false (by omega)
        simp only [c2, decide_false, cnd_false, h2, h3, decide_true, Bool.true_and]
        unfold f51 f72
        simp only [bd_bd]
        rw [show s.drop ([47] : List UInt8).length = s.drop 1 from rfl]
        have hlen : (s.drop 1).length < 1000000000 := by simp; omega
        generalize s.drop 1 = cur at hlen
        have hrow0 := l.row
        have hf0 := l.fr
        have ho0 := l.ok
        generalize H.set n (.row (cells (.bool false)) 4 (.own 0)) = H1 at hrow0 hf0 ho0
        rw [Ev_bx _ _ _ _ _ rfl]
        refine ⟨hf0.free _ (Nat.le_refl _), ?_⟩
        have hf1 := Fr.new hf0 (.row (cells (.str cur)) 9 (.own 0))
        have r11 : (H1.set (n + 1) (.row (cells (.str cur)) 9 (.own 0))).get (n + 1) = some (.row [.str cur] 9 (.own 0)) := get_set_same _ _ _
        have r10 : (H1.set (n + 1) (.row (cells (.str cur)) 9 (.own 0))).get n = some (.row [.bool false] 4 (.own 0)) := by rw [get_set_ne _ _ _ _ (by omega)]; exact hrow0
        generalize H1.set (n + 1) (.row (cells (.str cur)) 9 (.own 0)) = H2 at hf1 r11 r10
        rw [Ev_bx _ _ _ _ _ rfl]
        refine ⟨hf1.free _ (Nat.le_refl _), ?_⟩
        have hf2 := Fr.new hf1 (.row (cells (.str [47])) 9 (.own 0))
        have r22 : (H2.set (n + 1 + 1) (.row (cells (.str [47])) 9 (.own 0))).get (n + 2) = some (.row [.str [47]] 9 (.own 0)) := get_set_same _ _ _
        have r21 : (H2.set (n + 1 + 1) (.row (cells (.str [47])) 9 (.own 0))).get (n + 1) = some (.row [.str cur] 9 (.own 0)) := by rw [get_set_ne _ _ _ _ (by omega)]; exact r11
        have r20 : (H2.set (n + 1 + 1) (.row (cells (.str [47])) 9 (.own 0))).get n = some (.row [.bool false] 4 (.own 0)) := by rw [get_set_ne _ _ _ _ (by omega)]; exact r10
        generalize H2.set (n + 1 + 1) (.row (cells (.str [47])) 9 (.own 0)) = H3 at hf2 r22 r21 r20
        rw [Ev_bx _ _ _ _ _ rfl]
        refine ⟨hf2.free _ (Nat.le_refl _), ?_⟩
        have hf3 := Fr.new hf2 (.row (cells (.int .i64 0)) 3 (.own 0))
        have r33 : (H3.set (n + 1 + 1 + 1) (.row (cells (.int .i64 0)) 3 (.own 0))).get (n + 3) = some (.row [.int .i64 0] 3 (.own 0)) := get_set_same _ _ _
        have r32 : (H3.set (n + 1 + 1 + 1) (.row (cells (.int .i64 0)) 3 (.own 0))).get (n + 2) = some (.row [.str [47]] 9 (.own 0)) := by rw [get_set_ne _ _ _ _ (by omega)]; exact r22
        have r31 : (H3.set (n + 1 + 1 + 1) (.row (cells (.int .i64 0)) 3 (.own 0))).get (n + 1) = some (.row [.str cur] 9 (.own 0)) := by rw [get_set_ne _ _ _ _ (by omega)]; exact r21
        have r30 : (H3.set (n + 1 + 1 + 1) (.row (cells (.int .i64 0)) 3 (.own 0))).get n = some (.row [.bool false] 4 (.own 0)) := by rw [get_set_ne _ _ _ _ (by omega)]; exact r20
        generalize H3.set (n + 1 + 1 + 1) (.row (cells (.int .i64 0)) 3 (.own 0)) = H4 at hf3 r33 r32 r31 r30
        simp only [bd_ret]
        rw [show lpThere none = M.ret () from rfl, bd_ret, Ev_newO]
        refine ⟨hf3.free _ (Nat.le_refl _), ?_⟩
        have hf4 := Fr.new hf3 (rLoop n 0 none)
        have r44 : (H4.set (n + 1 + 1 + 1 + 1) (rLoop n 0 none)).get (n + 4) = some (rLoop n 0 none) := get_set_same _ _ _
        have r43 : (H4.set (n + 1 + 1 + 1 + 1) (rLoop n 0 none)).get (n + 3) = some (.row [.int .i64 0] 3 (.own 0)) := by rw [get_set_ne _ _ _ _ (by omega)]; exact r33
        have r42 : (H4.set (n + 1 + 1 + 1 + 1) (rLoop n 0 none)).get (n + 2) = some (.row [.str [47]] 9 (.own 0)) := by rw [get_set_ne _ _ _ _ (by omega)]; exact r32
        have r41 : (H4.set (n + 1 + 1 + 1 + 1) (rLoop n 0 none)).get (n + 1) = some (.row [.str cur] 9 (.own 0)) := by rw [get_set_ne _ _ _ _ (by omega)]; exact r31
        have r40 : (H4.set (n + 1 + 1 + 1 + 1) (rLoop n 0 none)).get n = some (.row [.bool false] 4 (.own 0)) := by rw [get_set_ne _ _ _ _ (by omega)]; exact r30
        show Ev (M.bd (apv (apN (d + 2)) (.func 84 [] [.ptr (some (n + 1 + 1, 0)), .ptr (some (n + 1, 0)), .ptr (some (n + 1 + 1 + 1, 0))]) [.yld (n + 1 + 1 + 1 + 1)]) _) (H4.set (n + 1 + 1 + 1 + 1) (rLoop n 0 none)) _ _
        generalize H4.set (n + 1 + 1 + 1 + 1) (rLoop n 0 none) = H5 at hf4 r44 r43 r42 r41 r40 ⊢
        rw [apv_func _ _ _ _ _ (by decide)]
        show Ev (M.bd (f84 (apN (d + 1)) (.yld (n + 4)) (.ptr (some (n + 2, 0))) (.ptr (some (n + 1, 0))) (.ptr (some (n + 3, 0)))) _) _ _ _
        unfold f84
        simp only [bd_bd]
        rw [Ev_ld _ _ _ _ r42 0 rfl]
        have c7 : ((([47] : List UInt8).length : Nat) : Int) = 1 := rfl
        have c8 : ((1 : Int) = 0) = False := eq_false (by omega)
        simp only [lnS_str, c7, bd_ret, bi_eql, c8, decide_false]
        unfold f84_3
        simp only [cnd_false]
        unfold f84_0
        have ok5 : Ok gs H5 (n + 5) := ⟨by have := ho.le; omega, hf4.free, fun i hi => by rw [hf4.keep i (by have := ho.le; omega)]; exact ho.glob i hi⟩
        rw [Ev_bd]
        refine (right_seq gs hm d n H fuel cur (by rw [fuel_pos]; omega) hlen H5 (n + 5) ⟨ok5, hf4, Nat.le_refl _, ho.le, r40, r41, r42, r43, r44⟩).mono fun v H6 n6 ⟨a1, a2, a3, a4, a5, a6⟩ => ?_
        have he : ∀ st pd, H6.get (n + 4) = some (rLoop n st pd) → st ≠ 1 → endLp (n + 4) H6 n6 = some (pd, H6.set (n + 4) (rLoop n 3 pd), n6) := by
          intro st pd h1 h2
          unfold endLp
          rw [bd_at (getO_at h1 n6)]
          unfold rLoop
          show (bif Nat.beq st 1 then fail else M.bd (setO (n + 4) _) fun _ => M.ret pd) H6 n6 = _
          rw [beqN_eq, decide_eq_false h2, cond_false]
          rfl
        have f7 : ∀ pd, Fr n H n6 (H6.set (n + 4) (rLoop n 3 pd)) := fun pd => Fr.set a3 _ (by omega) (by omega)
        have h7 : ∀ pd, (H6.set (n + 4) (rLoop n 3 pd)).get n = some (.row [.bool false] 4 (.own 0)) := fun pd => by rw [get_set_ne _ _ _ _ (by omega)]; exact a5
        cases hall : (segs cur).all segB with
        | true =>
          rw [hall, if_pos rfl] at a6
          rw [Ev_bd]
          refine .of (he 0 none a6 (by omega)) ?_
          show Ev (M.bd (st (.ptr (some (n, 0))) (.bool true)) _) _ _ _
          rw [Ev_st _ _ _ _ (h7 none) 0 _ rfl (by simp) rfl, lay_one _ _ _ (by simp)]
          rw [Ev_ld _ _ _ _ (get_set_same _ _ _) 0 rfl, Ev_ret]
          exact ⟨rfl, Fr.set (f7 none) _ (Nat.le_refl n) (by omega)⟩
        | false =>
          rw [hall, if_neg (by simp)] at a6
          rw [Ev_bd]
          refine .of (he 2 (some .ret) a6 (by omega)) ?_
          show Ev (M.bd (ld (.ptr (some (n, 0)))) _) _ _ _
          rw [Ev_ld _ _ _ _ (h7 (some .ret)) 0 rfl, Ev_ret]
          exact ⟨rfl, f7 (some .ret)⟩
      · have c2 : ((255 : Int) < (s.length : Int)) = True := eq_true (by omega)
        simp only [c2, decide_true, cnd_true]
        exact no _ (by simp [h3])
    · have c1 : ((s.length : Int) < 2) = True := eq_true (by omega)
      simp only [c1, decide_true, Bool.true_eq_false, if_false, if_true, bd_ret, gd_tuple, pk_bool, cnd_true]
      exact no _ (by simp [h2])
end Go.Proofs.YtgljgjnhagidnaaGreatDoor.Den
