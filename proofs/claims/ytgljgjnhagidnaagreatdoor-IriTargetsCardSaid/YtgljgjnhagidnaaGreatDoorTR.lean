/- The layer iri: Resolve, Target. -/
import Derived.Test.YtgljgjnhagidnaaGreatDoorTQ
import Derived.Test.YtgljgjnhagidnaaGreatDoorDen04
namespace Go.Proofs.YtgljgjnhagidnaaGreatDoor.Den
open Go Go.Dn Go.Dn.M Go.Dn.Pl
set_option maxRecDepth 100000
set_option linter.unusedVariables false
set_option linter.unusedSimpArgs false

theorem iriResolve_eq (gs : List AObj) (hm : MaxIs gs) (d : Nat) (base s : List UInt8) (hb : base.length ≤ 10000000) : Cm gs (f5 (apN (d + 2)) (.str base) (.str s)) (.tuple [.agg (iriResolve base s).1.av, .int .i64 (iriResolve base s).2]) := by
  intro H n ho
  unfold f5
  refine Lc.start ho _ rfl fun l => ?_
  unfold f5_0
  refine l.call (iriCut_eq gs hm d s) fun H1 n1 l => ?_
  simp only [ex_0, ex_1, bd_ret]
  refine l.more _ _ rfl fun H2 l => ?_
  refine l.sta 9 _ rfl rfl rfl fun H3 l => ?_
  unfold f5_1
  have hle := iriCut_le s
  have hlo := l.lo
  unfold iriResolve
  cases hok : (iriCut s).2 with
  | false =>
    simp only [un_not, Bool.not_false, bd_ret, cnd_true, Bool.false_eq_true, if_false]
    rw [show ∀ zs : List AV, bu zs [] = M.ret (.agg zs) from fun _ => rfl, bd_ret]
    have l2 := l.turn (Nat.le_refl n) (fun p hp => by cases hp)
    refine l2.sta 9 _ rfl rfl rfl fun H4 l => ?_
    refine l.lda 9 rfl ?_
    exact l.done
  | true =>
    generalize (iriCut s).1 = p at l hle
    simp only [un_not, Bool.not_true, bd_ret, cnd_false, if_true, fa_ptr]
    have bad : Ev (M.bd (bu [(.str []), (.str []), (.str []), (.str []), (.str []), (.bool false), (.bool false), (.bool false), (.bool false)] []) fun v13 => M.bd (Dn.sta 9 (.ptr (some (n, 0))) v13) fun _ => M.bd (Dn.lda 9 (.ptr (some (n, 0)))) fun v14 => M.ret (AV.tuple [v14, (.int .i64 21)])) H3 (n1 + 1) fun v H' n' => v = AV.tuple [.agg (Pc.av {}), .int .i64 21] ∧ Fr n H n' H' := by
      rw [show ∀ zs : List AV, bu zs [] = M.ret (.agg zs) from fun _ => rfl, bd_ret]
      have l2 := l.turn (Nat.le_refl n) (fun p hp => by cases hp)
      refine l2.sta 9 _ rfl rfl rfl fun H4 l => ?_
      refine l.lda 9 rfl ?_
      exact l.done
    refine l.ld 5 rfl ?_
    cases h1 : p.hs with
    | true =>
      simp only [gd_bool, Bool.true_eq_false, if_false, bd_ret, gd_tuple, pk_bool, if_true, cnd_true, Bool.true_or]
      exact bad
    | false =>
      simp only [gd_bool, if_true, fa_ptr, bd_ret]
      refine l.ld 6 rfl ?_
      cases h2 : p.ha with
      | true =>
        simp only [pk_bool, Bool.false_eq_true, if_false, bd_ret, gd_bool, Bool.true_eq_false, gd_tuple, if_true, cnd_true, Bool.false_or, Bool.true_or]
        exact bad
      | false =>
        simp only [pk_bool, Bool.false_eq_true, if_false, bd_ret, gd_bool, if_true, HasPrefix_eq, un_not, Bool.false_or]
        cases h3 : [47].isPrefixOf base with
        | false =>
          simp only [Bool.not_false, cnd_true, if_true]
          exact bad
        | true =>
          simp only [Bool.not_true, cnd_false, Bool.false_eq_true, if_false, fa_ptr, bd_ret]
          refine l.ld 2 rfl ?_
          have fin : ∀ (q : List UInt8) (H4 : Heap), Lc gs n H n1 (Pc.av { p with pa := q }) 24 [(n, AObj.row (cells (.agg (Pc.av {}))) 24 (.own 0))] H4 (n1 + 1) → q = pathB base p.pa →
              Ev (f5_2 (apN (d + 2)) (.ptr (some (n, 0))) (.ptr (some (n1, 0)))) H4 (n1 + 1) fun v H' n' => v = AV.tuple [.agg (Pc.av { p with pa := dotsP (pathB base p.pa) }), .int .i64 0] ∧ Fr n H n' H' := by
            intro q H4 l hq
            have hq1 : q ≠ [] := by rw [hq]; exact pathB_ne h3
            have hq2 : q.length < 90000000 := by rw [hq]; have := pathB_le base p.pa; omega
            rw [← hq]
            unfold f5_2
            try simp only [fa_ptr, bd_ret]
            refine l.ld 2 rfl ?_
            refine l.call (dots_eq gs hm q hq1 hq2) fun H5 n5 l => ?_
            try simp only [fa_ptr, bd_ret]
            refine l.st 2 _ (by simp [Pc.av]) rfl fun H6 l => ?_
            refine l.lda 9 rfl ?_
            have l2 := l.turn (Nat.le_refl n) (fun p hp => by cases hp)
            refine l2.sta 9 _ rfl rfl rfl fun H7 l => ?_
            refine l.lda 9 rfl ?_
            exact l.done
          by_cases h4 : p.pa = []
          · have h4' : (p.pa = []) = True := eq_true h4
            simp only [bis_eql, h4', decide_true, bd_ret, cnd_true, fa_ptr]
            refine l.st 2 _ (by simp [Pc.av]) rfl fun H4 l => ?_
            have := fin base H4 l (by unfold pathB; rw [if_pos h4])
            rw [h1, h2] at this
            exact this
          · simp only [bis_eql, h4, decide_false, bd_ret, cnd_false, fa_ptr]
            refine l.ld 2 rfl ?_
            obtain ⟨c, r, hc⟩ : ∃ c r, p.pa = c :: r := by
              cases e : p.pa with
              | nil => exact absurd e h4
              | cons c r => exact ⟨c, r, rfl⟩
            have e0 : ixs (.str p.pa) (.int .i64 0) = M.ret (.int .u8 (c.toNat : Int)) := by rw [hc]; rfl
            simp only [e0, bd_ret, bi_neq]
            by_cases h5 : c = 47
            · have c1 : ((c.toNat : Int) ≠ 47) = False := eq_false (by rw [h5]; simp)
              simp only [c1, decide_false, cnd_false]
              have := fin p.pa H3 l (by unfold pathB; rw [if_neg h4, if_pos (by rw [hc, h5]; rfl)])
              rw [h1, h2] at this
              exact this
            · have c1 : ((c.toNat : Int) ≠ 47) = True := eq_true (fun e => h5 (UInt8.toNat_inj.1 (by have : (47 : UInt8).toNat = 47 := rfl; omega)))
              have hd := dirB_len base
              simp only [c1, decide_true, cnd_true, pSplit_eq base (by omega), bd_ret, ex_0, ex_1, fa_ptr]
              refine l.ld 2 rfl ?_
              rw [bis_add _ _ (by omega), bd_ret]
              try simp only [fa_ptr, bd_ret]
              refine l.st 2 _ (by simp [Pc.av]) rfl fun H4 l => ?_
              have := fin (dirB base ++ p.pa) H4 l (by unfold pathB; rw [if_neg h4, if_neg (by rw [hc]; simp [h5])])
              rw [h1, h2] at this
              exact this
theorem iriResolve_len (base s : List UInt8) (hb : base.length ≤ 10000000) : (iriResolve base s).1.pa.length ≤ 30000000 := by
  unfold iriResolve
  have hle := iriCut_le s
  split
  · split
    · simp
    · have a := dotsP_len (pathB base (iriCut s).1.pa)
      have b := pathB_le base (iriCut s).1.pa
      simp only
      omega
  · simp
theorem iriTarget_eq (gs : List AObj) (hm : MaxIs gs) (d : Nat) (base s : List UInt8) (hb : base.length ≤ 10000000) : Cm gs (f7 (apN (d + 2)) (.str base) (.str s)) (.tuple [.str (iriTarget base s).1, .str (iriTarget base s).2.1, .int .i64 (iriTarget base s).2.2]) := by
  intro H n ho
  unfold f7
  refine (iriResolve_eq gs hm d base s hb).call ho fun H1 n1 f1 => ?_
  simp only [ex_0, ex_1, bd_ret]
  refine Lc.start (ho.fr f1) _ rfl fun l => ?_
  have hlen := iriResolve_len base s hb
  have fr : ∀ {a : AV}, Ev (M.ret a) H1 n1 (fun v H' n' => v = a ∧ Fr n1 H1 n' H') := (Ev_ret _ _ _ _).2 ⟨rfl, .refl f1.free (Nat.le_refl _)⟩
  suffices h : Ev (M.bd (Dn.sta 9 (.ptr (some (n1, 0))) (.agg (iriResolve base s).1.av)) _) _ _ fun v H' n' => v = AV.tuple [.str (iriTarget base s).1, .str (iriTarget base s).2.1, .int .i64 (iriTarget base s).2.2] ∧ Fr n1 H1 n' H' from h.mono fun v H' n' ⟨q1, q2⟩ => ⟨q1, f1.then q2⟩
  refine l.sta 9 _ rfl rfl rfl fun H2 l => ?_
  unfold iriTarget
  by_cases h0 : (iriResolve base s).2 = 0
  · simp only [h0, bi_neq, ne_eq, not_true_eq_false, decide_false, bd_ret, cnd_false, if_true, fa_ptr]
    generalize (iriResolve base s).1 = p at l hlen
    refine l.ld 2 rfl ?_
    refine l.call (pNormal_eq gs hm d p.pa (by omega)) fun H3 n3 l => ?_
    simp only [ex_0, ex_1, bd_ret, un_not]
    cases h1 : (normB p.pa).2 with
    | false =>
      simp only [Bool.not_false, gd_bool, Bool.true_eq_false, if_false, bd_ret, gd_tuple, pk_bool, if_true, cnd_true, Bool.true_or]
      exact l.done
    | true =>
      simp only [Bool.not_true, gd_bool, if_true, fa_ptr, bd_ret]
      refine l.ld 7 rfl ?_
      simp only [pk_bool, Bool.false_eq_true, if_false, bd_ret, Bool.false_or]
      cases h2 : p.hq with
      | true =>
        simp only [cnd_true, if_true]
        exact l.done
      | false =>
        simp only [cnd_false, Bool.false_eq_true, if_false, bd_ret, fa_ptr]
        refine l.ld 4 rfl ?_
        try simp only [bd_ret]
        exact l.done
  · simp only [bi_neq, ne_eq, h0, not_false_eq_true, decide_true, bd_ret, cnd_true, if_false]
    exact l.done
end Go.Proofs.YtgljgjnhagidnaaGreatDoor.Den
