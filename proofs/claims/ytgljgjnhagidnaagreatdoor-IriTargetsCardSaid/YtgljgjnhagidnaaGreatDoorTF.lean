/- The layer iri: Cut and Join. -/
import Derived.Test.YtgljgjnhagidnaaGreatDoorTE
namespace Go.Proofs.YtgljgjnhagidnaaGreatDoor.Den
open Go Go.Dn Go.Dn.M Go.Dn.Pl
set_option maxRecDepth 100000
set_option linter.unusedVariables false
set_option linter.unusedSimpArgs false

theorem low_lit4 : low [58, 47, 63, 35] := by intro b hb; simp at hb; rcases hb with h | h | h | h <;> subst h <;> decide
theorem low_lit3 : low [47, 63, 35] := by intro b hb; simp at hb; rcases hb with h | h | h <;> subst h <;> decide
theorem cutB_len (c : Nat) (s : List UInt8) : (cutB c s).1.length ≤ s.length ∧ (cutB c s).2.1.length ≤ s.length := by
  unfold cutB
  split
  · simp; omega
  · simp
theorem aheadB_len (t s : List UInt8) : (aheadB t s).1.length ≤ s.length ∧ (aheadB t s).2.length ≤ s.length := by
  unfold aheadB; simp; omega
theorem iriCut_eq (gs : List AObj) (hm : MaxIs gs) (d : Nat) (s : List UInt8) : Cm gs (f12 (apN (d + 2)) (.str s)) (.tuple [.agg (iriCut s).1.av, .bool (iriCut s).2]) := by
  intro H n ho
  unfold f12
  refine Lc.start ho _ rfl fun l => ?_
  unfold f12_0
  refine l.call (right_eq gs s) fun H1 n1 l => ?_
  unfold iriCut
  cases hr : iriRight s with
  | false =>
    simp
    rw [show ∀ zs : List AV, bu zs [] = M.ret (.agg zs) from fun _ => rfl, bd_ret]
    refine l.sta 9 _ rfl rfl rfl fun H2 l => ?_
    refine l.lda 9 rfl ?_
    exact l.done
  | true =>
    have hs : s.length < 1000000000 := by
      unfold iriRight at hr
      rw [Bool.and_eq_true, decide_eq_true_eq] at hr; omega
    simp
    unfold f12_1
    refine l.call (ahead_eq gs s _ low_lit4 (by decide) hs) fun H2 n2 l => ?_
    simp only [ex_0, ex_1, bd_ret, HasPrefix_eq]
    have last : ∀ (sc : List UInt8) (hs' : Bool) (t : List UInt8), t.length < 1000000000 → ∀ H2 n2, Lc gs n H n [.str sc, .str [], .str [], .str [], .str [], .bool hs', .bool false, .bool false, .bool false] 24 [] H2 n2 →
        Ev (f12_2 (apN (d + 2)) (.str t) (.ptr (some (n, 0)))) H2 n2 fun v H' n' => v = .tuple [.agg (Pc.av { sc := sc, hs := hs', au := (cut2 t).1, ha := (cut2 t).2.1, pa := (cut3 (cut2 t).2.2).1, qu := (cut3 (cut2 t).2.2).2.1, hq := (cut3 (cut2 t).2.2).2.2.1, fr := (cut3 (cut2 t).2.2).2.2.2.1, hf := (cut3 (cut2 t).2.2).2.2.2.2 }), .bool true] ∧ Fr n H n' H' := by
      intro sc hs' t ht H2 n2 l
      unfold f12_2
      simp only [CutPrefix_eq, bd_ret, ex_0, ex_1]
      have rest : ∀ (au : List UInt8) (ha' : Bool) (u : List UInt8), u.length < 1000000000 → ∀ H2 n2, Lc gs n H n [.str sc, .str au, .str [], .str [], .str [], .bool hs', .bool ha', .bool false, .bool false] 24 [] H2 n2 →
          Ev (f12_3 (apN (d + 2)) (.str u) (.ptr (some (n, 0)))) H2 n2 fun v H' n' => v = .tuple [.agg (Pc.av { sc := sc, hs := hs', au := au, ha := ha', pa := (cut3 u).1, qu := (cut3 u).2.1, hq := (cut3 u).2.2.1, fr := (cut3 u).2.2.2.1, hf := (cut3 u).2.2.2.2 }), .bool true] ∧ Fr n H n' H' := by
        intro au ha' u hu H2 n2 l
        unfold f12_3
        refine l.call (Cut_eq gs hm u 35 hu) fun H3 n3 l => ?_
        simp only [ex_0, ex_1, ex_2, bd_ret, fa_ptr]
        refine l.st 4 _ (by simp) rfl fun H4 l => ?_
        try simp only [fa_ptr, bd_ret]
        refine l.st 8 _ (by simp) rfl fun H5 l => ?_
        refine l.call (Cut_eq gs hm _ 63 (by have := (cutB_len (35 : UInt8).toNat u).1; omega)) fun H6 n6 l => ?_
        simp only [ex_0, ex_1, ex_2, bd_ret, fa_ptr]
        refine l.st 2 _ (by simp) rfl fun H7 l => ?_
        try simp only [fa_ptr, bd_ret]
        refine l.st 3 _ (by simp) rfl fun H8 l => ?_
        try simp only [fa_ptr, bd_ret]
        refine l.st 7 _ (by simp) rfl fun H9 l => ?_
        refine l.lda 9 (by simp) ?_
        refine l.sta 9 _ (by simp) (by simp) (by simp [oneCell]) fun H10 l => ?_
        refine l.lda 9 (by simp) ?_
        exact l.done
      cases hp : [47, 47].isPrefixOf t with
      | false =>
        simp only [Bool.false_eq_true, if_false, cnd_false]
        have e : cut2 t = ([], false, t) := by unfold cut2; rw [hp]; rfl
        rw [e]
        exact rest [] false t ht H2 n2 l
      | true =>
        simp only [if_true, cnd_true, fa_ptr, bd_ret]
        have e : cut2 t = ((aheadB [47, 63, 35] (t.drop 2)).1, true, (aheadB [47, 63, 35] (t.drop 2)).2) := by unfold cut2; rw [hp]; rfl
        rw [e]
        refine l.st 6 _ (by simp) rfl fun H3 l => ?_
        refine l.call (ahead_eq gs _ _ low_lit3 (by decide) (by simp; omega)) fun H4 n4 l => ?_
        simp only [ex_0, ex_1, bd_ret, fa_ptr]
        refine l.st 1 _ (by simp) rfl fun H5 l => ?_
        refine rest _ true _ ?_ H5 n4 l
        have := (aheadB_len [47, 63, 35] (t.drop 2)).2
        simp at this ⊢
        omega
    have e1 : ∀ b, [58].isPrefixOf (aheadB [58, 47, 63, 35] s).2 = b → (b = true → schemeB (aheadB [58, 47, 63, 35] s).1 = false) → cut1 s = ([], false, s) := by
      intro b hb hb2
      unfold cut1
      rw [hb]
      cases b with
      | false => rfl
      | true => rw [hb2 rfl]; rfl
    cases hp : [58].isPrefixOf (aheadB [58, 47, 63, 35] s).2 with
    | false =>
      simp
      have := last [] false s hs H2 n2 l
      unfold pcOf
      rw [e1 false hp (fun h => by cases h)]
      exact this
    | true =>
      simp
      have hlen := (aheadB_len [58, 47, 63, 35] s)
      refine l.call (scheme_eq gs d _ (by omega)) fun H3 n3 l => ?_
      cases hsc : schemeB (aheadB [58, 47, 63, 35] s).1 with
      | false =>
        simp
        have := last [] false s hs H3 n3 l
        unfold pcOf
        rw [e1 true hp (fun _ => hsc)]
        exact this
      | true =>
        have hl := prefix_len hp
        simp at hl
        simp (disch := omega)
        refine l.st 5 _ (by simp) rfl fun H4 l => ?_
        try simp only [fa_ptr, bd_ret]
        refine l.st 0 _ (by simp) rfl fun H5 l => ?_
        have := last (aheadB [58, 47, 63, 35] s).1 true ((aheadB [58, 47, 63, 35] s).2.drop 1) (by simp; omega) H5 n3 l
        unfold pcOf
        have e2 : cut1 s = ((aheadB [58, 47, 63, 35] s).1, true, (aheadB [58, 47, 63, 35] s).2.drop 1) := by unfold cut1; rw [hp, hsc]; rfl
        rw [e2]
        simp only [bd_ret]
        simpa using this
/-! ### Join -/
theorem add_loop (L : List (List UInt8)) (has' : Bool) (hL : (L.flatten).length ≤ 1000000000) (hn : L.length < 1000000000) (j b : Nat) {rw' : Rw} : ∀ (k p : Nat) (H : Heap) (n m : Nat) (t : List UInt8), L.length - p < k → p ≤ L.length → t.length + ((L.drop p).flatten).length ≤ 100000000000 → H.get j = some (.row (L.map .str) 9 rw') → j < n → j ≠ b → (∀ i, n ≤ i → H.get i = none) → IsBld H b m n t →
    Ev (f35_l1 k (.bool has') (.ptr (some (b, 0))) (.sl j 0 L.length L.length 1) (.int .i64 (L.length : Int)) (.int .i64 (p : Int))) H n fun v H' n' => IsBld H' b m n' (t ++ if has' then (L.drop p).flatten else []) ∧ FrB m b H n n' H' := by
  intro k
  induction k with
  | zero => intro p H n m t h; omega
  | succ k ih =>
    intro p H n m t h hp ht hj hjn hjb hf hb
    unfold f35_l1 f35_b1
    by_cases hlt : p < L.length
    · simp [hlt, f35_2, f35_3]
      have hd := List.drop_eq_getElem_cons hlt
      have e0 : ixp 1 (.sl j 0 L.length L.length 1) (.int .i64 (p : Int)) = M.ret (.ptr (some (j, p))) := by
        show (bif Nat.blt p L.length then M.ret (AV.ptr (some (j, 0 + p * 1))) else fail) = _
        rw [bltN_eq]; simp [hlt]
      simp only [e0, bd_ret]
      rw [Ev_ld _ _ _ _ hj p (v := .str L[p]) (by simp [hlt])]
      rw [hd] at ht
      simp only [List.flatten_cons, List.length_append] at ht
      cases has' with
      | true =>
        simp only [if_true, cnd_true]
        refine WriteString_eq hf hb (by omega) fun v H1 n1 q1 q2 => ?_
        simp (disch := omega) [f35_4]
        have hj1 : H1.get j = some (.row (L.map .str) 9 rw') := by
          rw [q2.keep j hjn hjb (.inr ?_)]; exact hj
          rintro ⟨_, _, e⟩; rw [hj] at e; simp at e
        refine (ih (p + 1) H1 n1 m (t ++ L[p]) (by omega) (by omega) (by rw [List.length_append]; omega) hj1 (by have := q2.le; omega) hjb q2.free q1).mono fun v H2 n2 ⟨z1, z2⟩ => ⟨?_, q2.trans z2⟩
        simp only [if_true] at z1 ⊢
        rw [hd, List.flatten_cons, ← List.append_assoc]
        exact z1
      | false =>
        simp (disch := omega) [f35_4]
        exact (ih (p + 1) H n m t (by omega) (by omega) (by omega) hj hjn hjb hf hb).mono fun v H2 n2 ⟨z1, z2⟩ => ⟨by simpa using z1, z2⟩
    · have : L.drop p = [] := List.drop_eq_nil_of_le (by omega)
      simp [hlt, this, f35_2]
      exact ⟨hb, .refl hf⟩
theorem add_eq (d : Nat) (L : List (List UInt8)) (hL0 : 0 < L.length) (has' : Bool) (zs : List AV) (ps : List (Nat × Nat × AV)) (hbs : ofO (fillA zs ps) = M.ret (α := List AV) (L.map .str)) (b : Nat) (hL : (L.flatten).length ≤ 1000000000) (hn : L.length < 1000000000) {H : Heap} {n m : Nat} {t : List UInt8} (ht : t.length ≤ 10000000000) (hf : ∀ i, n ≤ i → H.get i = none) (hb : IsBld H b m n t)
    {f : AV → M AV} {Q : AV → Heap → Nat → Prop} (k : ∀ v H' n', IsBld H' b m n' (t ++ if has' then L.flatten else []) → FrB m b H n n' H' → Ev (f v) H' n' Q) :
    Ev (M.bd (bsl 9 1 L.length zs ps) fun v8 => M.bd (apv (apN (d + 1)) (.func 35 [] [.ptr (some (b, 0))]) [.bool has', v8]) f) H n Q := by
  unfold bsl
  rw [hbs]
  simp only [bd_ret, bd_bd]
  have hone : (L.map AV.str).all oneCell = true := by
    rw [List.all_eq_true]; intro x hx
    obtain ⟨y, _, rfl⟩ := List.mem_map.1 hx; rfl
  have hlt := hb.lt
  rw [Ev_newRow _ _ _ _ hone]
  refine ⟨hf n (Nat.le_refl n), ?_⟩
  rw [apv_func _ _ _ _ _ (by decide)]
  show Ev (M.bd (f35 (.bool has') (.sl n 0 L.length L.length 1) (.ptr (some (b, 0)))) f) _ _ Q
  unfold f35 f35_0
  have e1 : lnL (.sl n 0 L.length L.length 1) = M.ret (.int .i64 (L.length : Int)) := rfl
  simp only [e1, bd_ret]
  have hfr : FrB m b H n (n + 1) (H.set n (.row (L.map .str) 9 (.own 0))) := ⟨by omega, fun i hi => by rw [get_set_ne _ _ _ _ (by omega)]; exact hf i (by omega), fun i hi _ _ => get_set_ne _ _ _ _ (by omega)⟩
  have hb' : IsBld (H.set n (.row (L.map .str) 9 (.own 0))) b m (n + 1) t := by
    obtain ⟨addr, buf, h1, h2, h3, h4, h5⟩ := hb
    exact ⟨addr, buf, by rw [get_set_ne _ _ _ _ (by omega)]; exact h1, h2, h3.keep (by omega) fun i _ hi _ => get_set_ne _ _ _ _ (by omega), h4, by omega⟩
  rw [Ev_bd]
  refine (add_loop L has' hL hn n b fuel 0 _ (n + 1) m t (by rw [fuel_pos]; omega) (Nat.zero_le _) (by simp only [List.drop_zero]; omega) (get_set_same _ _ _) (Nat.lt_succ_self n) (by omega) hfr.free hb').mono fun v H' n' ⟨q1, q2⟩ => ?_
  exact k v H' n' (by simpa using q1) (hfr.trans q2)
theorem iriJoin_eq (gs : List AObj) (d : Nat) (p : Pc) (h1 : p.sc.length ≤ 100000000) (h2 : p.au.length ≤ 100000000) (h3 : p.pa.length ≤ 100000000) (h4 : p.qu.length ≤ 100000000) (h5 : p.fr.length ≤ 100000000) :
    Cm gs (f13 (apN (d + 1)) (.agg p.av)) (.str (iriJoin p)) := by
  intro H n ho
  unfold f13
  refine Lc.start ho (.agg p.av) rfl fun l => ?_
  refine l.more _ (.agg [.ptr none, .slN]) rfl fun H1 l => ?_
  simp only [bd_ret, fa_ptr]
  have hb : IsBld H1 (n + 1) n (n + 1 + 1) [] := ⟨.ptr none, .slN, l.row, .inl rfl, .inl ⟨rfl, rfl⟩, by omega, by omega⟩
  have hp := (l.oth _ List.mem_cons_self).2.2
  have hfr := l.fr
  have hfree := l.ok.free
  have keepP : ∀ {H2 H3 : Heap} {n2 n3 : Nat}, H2.get n = some (.row p.av 24 (.own 0)) → n < n2 → FrB n (n + 1) H2 n2 n3 H3 → H3.get n = some (.row p.av 24 (.own 0)) := by
    intro H2 H3 n2 n3 a c q
    rw [q.keep n c (by omega) (.inr ?_)]; exact a
    rintro ⟨_, _, e⟩; rw [a] at e; simp at e
  have hp : H1.get n = some (.row p.av 24 (.own 0)) := hp
  have frs : ∀ {H2 H3 : Heap} {n2 n3 : Nat}, Fr n H n2 H2 → FrB n (n + 1) H2 n2 n3 H3 → Fr n H n3 H3 := fun a c => a.trans (c.fr a.le (by omega)) (Nat.le_refl n)
  rw [Ev_ld _ _ _ _ hp 5 rfl]
  rw [Ev_ld _ _ _ _ hp 0 rfl]
  refine add_eq d [p.sc, [58]] (by simp) p.hs _ _ rfl (n + 1) (by simp; omega) (by simp) (by simp) hfree hb fun v H2 n2 b2 f2 => ?_
  have p2 := keepP hp (by omega) f2
  have r2 := frs hfr f2
  rw [Ev_ld _ _ _ _ p2 6 rfl]
  rw [Ev_ld _ _ _ _ p2 1 rfl]
  refine add_eq d [[47, 47], p.au] (by simp) p.ha _ _ rfl (n + 1) (by simp; omega) (by simp) (by cases p.hs <;> simp; omega) f2.free b2 fun v H3 n3 b3 f3 => ?_
  have p3 := keepP p2 (by have := f2.le; omega) f3
  have r3 := frs r2 f3
  rw [Ev_ld _ _ _ _ p3 2 rfl]
  refine add_eq d [p.pa] (by simp) true _ _ rfl (n + 1) (by simp; omega) (by simp) (by cases p.hs <;> cases p.ha <;> simp <;> omega) f3.free b3 fun v H4 n4 b4 f4 => ?_
  have p4 := keepP p3 (by have := r3.le; have := f2.le; have := f3.le; omega) f4
  have r4 := frs r3 f4
  rw [Ev_ld _ _ _ _ p4 7 rfl]
  rw [Ev_ld _ _ _ _ p4 3 rfl]
  refine add_eq d [[63], p.qu] (by simp) p.hq _ _ rfl (n + 1) (by simp; omega) (by simp) (by cases p.hs <;> cases p.ha <;> simp <;> omega) f4.free b4 fun v H5 n5 b5 f5 => ?_
  have p5 := keepP p4 (by have := f2.le; have := f3.le; have := f4.le; omega) f5
  have r5 := frs r4 f5
  rw [Ev_ld _ _ _ _ p5 8 rfl]
  rw [Ev_ld _ _ _ _ p5 4 rfl]
  refine add_eq d [[35], p.fr] (by simp) p.hf _ _ rfl (n + 1) (by simp; omega) (by simp) (by cases p.hs <;> cases p.ha <;> cases p.hq <;> simp <;> omega) f5.free b5 fun v H6 n6 b6 f6 => ?_
  have r6 := frs r5 f6
  refine String_eq f6.free b6 (by cases p.hs <;> cases p.ha <;> cases p.hq <;> cases p.hf <;> simp <;> omega) fun H7 b7 f7 => ?_
  simp only [Ev_ret]
  refine ⟨?_, frs r6 f7⟩
  unfold iriJoin
  cases p.hs <;> cases p.ha <;> cases p.hq <;> cases p.hf <;> simp
end Go.Proofs.YtgljgjnhagidnaaGreatDoor.Den
