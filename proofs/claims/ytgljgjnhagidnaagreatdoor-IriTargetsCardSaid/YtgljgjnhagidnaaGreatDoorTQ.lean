/- The layers pname and iri: Normal, Resolve, Target. -/
import Derived.Test.YtgljgjnhagidnaaGreatDoorTO
import Derived.Test.YtgljgjnhagidnaaGreatDoorTF
namespace Go.Proofs.YtgljgjnhagidnaaGreatDoor.Den
open Go Go.Dn Go.Dn.M Go.Dn.Pl
set_option maxRecDepth 100000
set_option linter.unusedVariables false
set_option linter.unusedSimpArgs false

theorem IsBld.keep {H H' : Heap} {b m n n' : Nat} {t : List UInt8} (h : IsBld H b m n t) (hn : n ≤ n') (hk : ∀ i, i < n → H'.get i = H.get i) : IsBld H' b m n' t := by
  obtain ⟨addr, buf, h1, h2, h3, h4, h5⟩ := h
  exact ⟨addr, buf, by rw [hk b h5]; exact h1, h2, h3.keep hn fun i _ hi _ => hk i hi, h4, by omega⟩
theorem percent_eq (gs : List AObj) (c : Nat) (h : c < 256) : Cm gs (f46 (.int .u8 (c : Int))) (.str (pctB c)) := by
  intro H n ho
  unfold f46
  have key := all256 (p := fun c => decide ((c : Int).fdiv 16 = ((c / 16 : Nat) : Int)) && decide (bits .and .u8 (c : Int) 15 = ((c % 16 : Nat) : Int))) (by decide +kernel) c h
  simp only [Bool.and_eq_true, decide_eq_true_eq] at key
  have e1 : bi .shr (.int .u8 (c : Int)) (.int .u64 4) = M.ret (.int .u8 ((c / 16 : Nat) : Int)) := by
    rw [bi_shr _ _ _ _ (by omega), ← key.1]; rfl
  have g : ∀ i : Nat, i < 16 → ixs (.str [48, 49, 50, 51, 52, 53, 54, 55, 56, 57, 65, 66, 67, 68, 69, 70]) (.int .u8 (i : Int)) = M.ret (.int .u8 ((greatL.getD i 0).toNat : Int)) := by
    intro i hi
    rw [ixs_nat _ _ _ (by simpa using hi)]
    unfold greatL
    rw [List.getD_eq_getElem?_getD, List.getElem?_eq_getElem (by simpa using hi)]; rfl
  simp only [bd_ret, e1, bi_and, key.2]
  rw [g _ (by omega), bd_ret, g _ (by omega), bd_ret]
  have e2 : bsl 5 1 3 [(.int .u8 0), (.int .u8 0), (.int .u8 0)] [(0, 1, (.int .u8 37)), (1, 1, (.int .u8 ((greatL.getD (c / 16) 0).toNat : Int))), (2, 1, (.int .u8 ((greatL.getD (c % 16) 0).toNat : Int)))] = M.bd (Dn.newRow 5 (bytesA (pctB c))) fun i => M.ret (.sl i 0 3 3 1) := rfl
  rw [e2, bd_bd, Ev_newRow _ _ _ _ (bytesA_all _)]
  refine ⟨ho.free n (Nat.le_refl n), ?_⟩
  rw [bd_ret]
  have e3 : b2s (.sl n 0 3 3 1) (H.set n (.row (bytesA (pctB c)) 5 (.own 0))) (n + 1) = some (.str (pctB c), H.set n (.row (bytesA (pctB c)) 5 (.own 0)), n + 1) := by
    show M.bd (rd n 0 3) (fun cs => M.bd (M.ofO (bytesOf? cs)) fun l => M.ret (AV.str l)) _ _ = _
    rw [bd_at (rd_at _ _ _ (get_set_same _ _ _) 0 3 (by simp [bytesA, pctB]))]
    have : ((bytesA (pctB c)).drop 0).take 3 = bytesA (pctB c) := rfl
    rw [this, bytesA_back]
    rfl
  rw [Ev_bd]
  refine .of e3 ?_
  rw [Ev_ret]
  exact ⟨rfl, Fr.new (.refl ho.free (Nat.le_refl n)) _⟩
/-- What Normal answers of a text. -/
def ans (o : List UInt8) : AV := .tuple [.str (if nameB o then o else []), .bool (nameB o)]
theorem nameB_long (o : List UInt8) (h : 255 < o.length) : nameB o = false := by
  unfold nameB
  rw [decide_eq_false (show ¬ o.length ≤ 255 by omega)]; simp
theorem norm_end (gs : List AObj) (hm : MaxIs gs) (d : Nat) {b m : Nat} {t : List UInt8} (ht : t.length ≤ 10000) {H : Heap} {n : Nat} (ho : Ok gs H n) (hb : IsBld H b m n t) (hg : gs.length ≤ m) :
    Ev (f20_2 (apN (d + 2)) (.ptr (some (b, 0)))) H n fun v H' n' => v = ans t ∧ Fr m H n' H' := by
  unfold f20_2
  have hlt := hb.lt
  refine String_eq ho.free hb (by omega) fun H1 b1 f1 => ?_
  have ho1 : Ok gs H1 n := ⟨ho.le, f1.free, fun i hi => by rw [f1.keep i (by omega) (by omega) (.inl (by omega))]; exact ho.glob i hi⟩
  refine (pRight_eq gs hm d t).call ho1 fun H2 n2 f2 => ?_
  have b2 := b1.keep f2.le fun i hi => f2.keep i hi
  have fr2 : Fr m H n2 H2 := (f1.fr (m := m) (by omega) (by omega)).trans f2 (by omega)
  unfold ans
  cases hn : nameB t with
  | false =>
    simp only [un_not, Bool.not_false, bd_ret, cnd_true, Ev_ret]
    exact ⟨rfl, fr2⟩
  | true =>
    simp only [un_not, Bool.not_true, bd_ret, cnd_false]
    refine String_eq f2.free b2 (by omega) fun H3 b3 f3 => ?_
    rw [Ev_ret]
    exact ⟨rfl, fr2.trans (f3.fr (m := m) (by have := f2.le; omega) (by omega)) (Nat.le_refl m)⟩
theorem norm_loop (gs : List AObj) (hm : MaxIs gs) (d : Nat) {b m : Nat} (hg : gs.length ≤ m) : ∀ (k : Nat) (s t : List UInt8), s.length < k → s.length < 1000000000 → t.length ≤ 1000 → ∀ H n, Ok gs H n → IsBld H b m n t →
    Ev (f20_l3 (apN (d + 2)) k (.str s) (.ptr (some (b, 0)))) H n fun v H' n' => v = ans (t ++ normK 0 s) ∧ Fr m H n' H' := by
  intro k
  induction k with
  | zero => intro s t h; omega
  | succ k ih =>
    intro s t h hs ht H n ho hb
    unfold f20_l3 f20_b3
    have hlt := hb.lt
    have okB : ∀ {H1 : Heap} {n1 : Nat}, FrB m b H n n1 H1 → Ok gs H1 n1 := fun f1 => ⟨by have := f1.le; have := ho.le; omega, f1.free, fun i hi => by rw [f1.keep i (by omega) (by omega) (.inl (by omega))]; exact ho.glob i hi⟩
    cases s with
    | nil =>
      simp only [bis_neq, bd_ret, ne_eq, not_true_eq_false, decide_false, gd_bool, Bool.false_eq_true, if_false, gd_tuple, pk_bool, cnd_false]
      rw [show normK 0 [] = [] from rfl, List.append_nil]
      exact norm_end gs hm d (by omega) ho hb hg
    | cons c r =>
      have c0 : ((c :: r) ≠ []) = True := eq_true (by simp)
      simp only [bis_neq, bd_ret, c0, decide_true, gd_bool, if_true]
      rw [Ev_bd]
      refine .of (Len_eq hb) ?_
      simp only [bi_leq, bd_ret, pk_bool, if_true]
      by_cases h255 : t.length ≤ 255
      · have c1 : ((t.length : Int) ≤ 255) = True := eq_true (by omega)
        simp only [c1, decide_true, cnd_true]
        unfold f20_4
        obtain ⟨w, hw1, hw2, hw3⟩ := pTold_eq (c :: r) hs
        have e0 : ixs (.str (c :: r)) (.int .i64 0) = M.ret (.int .u8 (c.toNat : Int)) := rfl
        simp only [hw1, bd_ret, ex_0, ex_1]
        unfold f20_5
        have go : ∀ (j : Nat) (x : List UInt8) (H1 : Heap) (n1 : Nat), j + 1 ≤ (c :: r).length → x.length ≤ 3 → Ok gs H1 n1 → IsBld H1 b m n1 (t ++ x) → Fr m H n1 H1 → Ev (M.bd (ss (.str (c :: r)) (some (.int .i64 ((j + 1 : Nat) : Int))) none) fun v1 => f20_l3 (apN (d + 2)) k v1 (.ptr (some (b, 0)))) H1 n1 fun v H' n' => v = ans (t ++ (x ++ normK j r)) ∧ Fr m H n' H' := by
          intro j x H1 n1 hj hx ho1 hb1 hf1
          rw [ss_from (c :: r) .i64 _ (j + 1) rfl hj, bd_ret]
          refine (ih ((c :: r).drop (j + 1)) (t ++ x) (by simp at h ⊢; omega) (by simp at hs ⊢; omega) (by simp; omega) H1 n1 ho1 hb1).mono fun v H' n' ⟨q1, q2⟩ => ⟨?_, hf1.trans q2 (Nat.le_refl m)⟩
          rw [q1, normK_drop j r, List.drop_succ_cons, List.append_assoc]
        rw [normK]
        cases htold : toldB (c :: r) with
        | some v =>
          have := hw3 v htold
          subst this
          have hl := toldB_len htold
          simp only [Option.isSome_some, gd_bool, if_true, bd_ret, pPlain_eq _ hw2, pk_bool]
          cases hpl : plainC w with
          | true =>
            simp only [cnd_true, if_true]
            have hwb : (w : Int) = ((UInt8.ofNat w).toNat : Int) := by rw [UInt8.toNat_ofNat', Nat.mod_eq_of_lt hw2]
            rw [hwb]
            refine WriteByte_eq _ ho.free hb (by omega) fun v H1 n1 b1 f1 => ?_
            unfold f20_6 f20_7
            simp only [cnd_true]
            unfold f20_8
            exact go 2 _ H1 n1 hl (by simp) (okB f1) b1 (f1.fr (by omega) (by omega))
          | false =>
            simp only [cnd_false, cnd_true, Bool.false_eq_true, if_false]
            refine (percent_eq gs w hw2).call ho fun H1 n1 f1 => ?_
            refine WriteString_eq f1.free (hb.keep f1.le fun i hi => f1.keep i hi) (by simp [pctB]; omega) fun v H2 n2 b2 f2 => ?_
            unfold f20_6 f20_7
            simp only [cnd_true]
            unfold f20_8
            have ff : Fr m H n2 H2 := (f1.weaken (by omega)).trans (f2.fr (m := m) (by have := f1.le; omega) (by omega)) (Nat.le_refl m)
            exact go 2 _ H2 n2 hl (by simp [pctB]) ⟨by have := f2.le; have := f1.le; have := ho.le; omega, f2.free, fun i hi => by rw [ff.keep i (by omega)]; exact ho.glob i hi⟩ b2 ff
        | none =>
          simp only [Option.isSome_none, gd_bool, Bool.false_eq_true, if_false, bd_ret, gd_tuple, pk_bool, cnd_false, e0, pSign_eq _ (toNat_lt c)]
          have hor : Ev (cnd (.bool (signC c.toNat || decide (c.toNat = 47))) (M.bd (f45 (.ptr (some (b, 0))) (.int .u8 (c.toNat : Int))) fun v14 => f20_6 (apN (d + 2)) (f20_l3 (apN (d + 2)) k) (.str (c :: r)) (.ptr (some (b, 0))) (.bool false)) (M.bd (f46 (.int .u8 (c.toNat : Int))) fun v16 => M.bd (f36 (.ptr (some (b, 0))) v16) fun v17 => f20_6 (apN (d + 2)) (f20_l3 (apN (d + 2)) k) (.str (c :: r)) (.ptr (some (b, 0))) (.bool false))) H n fun v H' n' => v = ans (t ++ ((if signC c.toNat || decide (c.toNat = 47) then [c] else pctB c.toNat) ++ normK 0 r)) ∧ Fr m H n' H' := by
            cases hsg : (signC c.toNat || decide (c.toNat = 47)) with
            | true =>
              simp only [cnd_true, if_true]
              refine WriteByte_eq _ ho.free hb (by omega) fun v H1 n1 b1 f1 => ?_
              unfold f20_6 f20_7
              simp only [cnd_false]
              unfold f20_8
              exact go 0 _ H1 n1 (by simp) (by simp) (okB f1) b1 (f1.fr (by omega) (by omega))
            | false =>
              simp only [cnd_false, Bool.false_eq_true, if_false]
              refine (percent_eq gs c.toNat (toNat_lt c)).call ho fun H1 n1 f1 => ?_
              refine WriteString_eq f1.free (hb.keep f1.le fun i hi => f1.keep i hi) (by simp [pctB]; omega) fun v H2 n2 b2 f2 => ?_
              unfold f20_6 f20_7
              simp only [cnd_false]
              unfold f20_8
              have ff : Fr m H n2 H2 := (f1.weaken (by omega)).trans (f2.fr (m := m) (by have := f1.le; omega) (by omega)) (Nat.le_refl m)
              exact go 0 _ H2 n2 (by simp) (by simp [pctB]) ⟨by have := f2.le; have := f1.le; have := ho.le; omega, f2.free, fun i hi => by rw [ff.keep i (by omega)]; exact ho.glob i hi⟩ b2 ff
          have h47 : decide ((c.toNat : Int) = 47) = decide (c.toNat = 47) := by rw [decide_eq_decide]; omega
          cases hsg : signC c.toNat with
          | true =>
            rw [hsg] at hor
            simp only [Bool.true_or] at hor
            simp only [Bool.true_eq_false, if_false, bd_ret, gd_tuple, if_true, Bool.true_or]
            exact hor
          | false =>
            rw [hsg] at hor
            simp only [Bool.false_or] at hor
            simp only [if_true, bd_ret, e0, bi_eql, h47, Bool.false_eq_true, if_false, Bool.false_or]
            exact hor
      · have c1 : ((t.length : Int) ≤ 255) = False := eq_false (by omega)
        simp only [c1, decide_false, cnd_false]
        have a1 := nameB_long t (by omega)
        have a2 := nameB_long (t ++ normK 0 (c :: r)) (by simp; omega)
        refine (norm_end gs hm d (by omega) ho hb hg).mono fun v H' n' ⟨q1, q2⟩ => ⟨?_, q2⟩
        rw [q1]
        unfold ans
        rw [a1, a2]; rfl
theorem pNormal_eq (gs : List AObj) (hm : MaxIs gs) (d : Nat) (s : List UInt8) (hs : s.length < 1000000000) : Cm gs (f20 (apN (d + 2)) (.str s)) (.tuple [.str (normB s).1, .bool (normB s).2]) := by
  intro H n ho
  unfold f20 f20_0
  refine Lc.start ho (.agg [.ptr none, .slN]) rfl fun l => ?_
  unfold f20_1
  have hb : IsBld (H.set n (.row (cells (.agg [.ptr none, .slN])) 61 (.own 0))) n n (n + 1) [] := ⟨.ptr none, .slN, l.row, .inl rfl, .inl ⟨rfl, rfl⟩, Nat.le_refl n, Nat.lt_succ_self n⟩
  refine (norm_loop gs hm d ho.le fuel s [] (by rw [fuel_pos]; omega) hs (by simp) _ _ l.ok hb).mono fun v H' n' ⟨q1, q2⟩ => ⟨?_, l.fr.trans q2 (Nat.le_refl n)⟩
  rw [q1, List.nil_append]
  unfold ans normB
  cases nameB (normK 0 s) <;> rfl
end Go.Proofs.YtgljgjnhagidnaaGreatDoor.Den
