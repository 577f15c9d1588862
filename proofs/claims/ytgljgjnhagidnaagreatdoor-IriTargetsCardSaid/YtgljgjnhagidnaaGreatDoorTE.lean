/- Go's library: strings.Builder. -/
import Derived.Test.YtgljgjnhagidnaaGreatDoorTD
namespace Go.Proofs.YtgljgjnhagidnaaGreatDoor.Den
open Go Go.Dn Go.Dn.M Go.Dn.Pl
set_option maxRecDepth 100000
set_option linter.unusedVariables false
set_option linter.unusedSimpArgs false

/-- A Builder that holds a text; its own memory lies from m on. -/
def IsBld (H : Heap) (b m n : Nat) (t : List UInt8) : Prop :=
  ∃ addr buf, H.get b = some (.row [addr, buf] 61 (.own 0)) ∧ (addr = .ptr none ∨ addr = .ptr (some (b, 0))) ∧ SlB H 5 m n (bytesA t) buf ∧ m ≤ b ∧ b < n
/-- What a Builder's method leaves. -/
structure FrB (m b : Nat) (H : Heap) (n n' : Nat) (H' : Heap) : Prop where
  le : n ≤ n'
  free : ∀ i, n' ≤ i → H'.get i = none
  keep : ∀ i, i < n → i ≠ b → (i < m ∨ ¬ IsRow (H.get i) 5) → H'.get i = H.get i
theorem FrB.refl {m b n : Nat} {H : Heap} (h : ∀ i, n ≤ i → H.get i = none) : FrB m b H n n H := ⟨Nat.le_refl n, h, fun _ _ _ _ => rfl⟩
theorem FrB.trans {m b n n1 n2 : Nat} {H H1 H2 : Heap} (a : FrB m b H n n1 H1) (c : FrB m b H1 n1 n2 H2) : FrB m b H n n2 H2 :=
  ⟨Nat.le_trans a.le c.le, c.free, fun i h1 h2 h3 => by
    have e := a.keep i h1 h2 h3
    rw [c.keep i (by have := a.le; omega) h2 (h3.imp id fun x => by rw [e]; exact x), e]⟩
theorem FrB.fr {m b n n' : Nat} {H H' : Heap} (h : FrB m b H n n' H') (hm : m ≤ n) (hb : m ≤ b) : Fr m H n' H' := ⟨Nat.le_trans hm h.le, h.free, fun i hi => h.keep i (by omega) (by omega) (.inl hi)⟩
theorem IsBld.lt {H : Heap} {b m n : Nat} {t : List UInt8} (h : IsBld H b m n t) : m ≤ b ∧ b < n := by obtain ⟨_, _, _, _, _, a, c⟩ := h; exact ⟨a, c⟩
theorem bytesA_all : ∀ t : List UInt8, (bytesA t).all oneCell = true
  | [] => rfl
  | b :: t => by show (true && (bytesA t).all oneCell) = true; rw [bytesA_all t]; rfl
theorem bytesA_len (t : List UInt8) : (bytesA t).length = t.length := by simp [bytesA]
theorem bytesA_app (s t : List UInt8) : bytesA (s ++ t) = bytesA s ++ bytesA t := by simp [bytesA]
theorem bytesA_back : ∀ t : List UInt8, bytesOf? (bytesA t) = some t
  | [] => rfl
  | b :: t => by
    show (match byteOf? (.int .u8 (b.toNat : Int)), bytesOf? (bytesA t) with | some c, some l => some (c :: l) | _, _ => none) = _
    rw [bytesA_back t]
    have : byteOf? (.int .u8 (b.toNat : Int)) = some b := by
      show (bif Nat.blt b.toNat 256 then some (UInt8.ofNat b.toNat) else none) = _
      rw [bltN_eq]; simp [toNat_lt b]
    rw [this]
theorem copyCheck_eq {H : Heap} {b m n : Nat} {t : List UInt8} (hf : ∀ i, n ≤ i → H.get i = none) (h : IsBld H b m n t) {Q : AV → Heap → Nat → Prop}
    (k : ∀ H' buf, H'.get b = some (.row [.ptr (some (b, 0)), buf] 61 (.own 0)) → SlB H' 5 m n (bytesA t) buf → FrB m b H n n H' → Q (.tuple []) H' n) : Ev (f65 (.ptr (some (b, 0)))) H n Q := by
  obtain ⟨addr, buf, h1, h2, h3, h4, h5⟩ := h
  unfold f65
  simp only [nck_ptr, bd_ret, fa_ptr]
  rw [Ev_ld _ _ _ _ h1 0 rfl]
  have hself : SlB (H.set b (.row [.ptr (some (b, 0)), buf] 61 (.own 0))) 5 m n (bytesA t) buf := by
    refine h3.keep (Nat.le_refl n) fun i q1 q2 q3 => ?_
    by_cases e : i = b
    · subst e
      obtain ⟨_, _, q4⟩ := q3
      rw [h1] at q4; simp at q4
    · exact get_set_ne _ _ _ _ e
  have hfr : FrB m b H n n (H.set b (.row [.ptr (some (b, 0)), buf] 61 (.own 0))) :=
    ⟨Nat.le_refl n, fun i hi => by rw [get_set_ne _ _ _ _ (by omega)]; exact hf i hi, fun i _ q _ => get_set_ne _ _ _ _ q⟩
  rcases h2 with rfl | rfl
  · have e0 : be .p .eql (.ptr none) (.ptr none) = M.ret (.bool true) := rfl
    rw [e0]
    simp only [bd_ret, cnd_true]
    have e1 : p2u (.ptr (some (b, 0))) H n = some (.ptr (some (b, 0)), H, n) := by
      unfold p2u; simp only; rw [bd_at (getO_at h1 n)]; rfl
    rw [Ev_bd]
    refine .of e1 ?_
    show Ev (M.bd (M.ret (AV.ptr (some (b, 0)))) _) H n Q
    rw [bd_ret]
    have e2 : u2p 61 2 (.ptr (some (b, 0))) H n = some (.ptr (some (b, 0)), H, n) := by
      unfold u2p; simp only; rw [bd_at (getO_at h1 n)]; rfl
    rw [Ev_bd]
    refine .of e2 ?_
    rw [Ev_st _ _ _ _ h1 0 _ rfl (by simp) rfl, lay_one _ _ _ (by simp)]
    simp only [Ev_ret]
    exact k _ buf (get_set_same _ _ _) hself hfr
  · have e0 : be .p .eql (.ptr (some (b, 0))) (.ptr none) = M.ret (.bool false) := rfl
    rw [e0]
    simp only [bd_ret, cnd_false]
    rw [Ev_ld _ _ _ _ h1 0 rfl]
    have e1 : be .p .neq (.ptr (some (b, 0))) (.ptr (some (b, 0))) = M.ret (.bool false) := by
      show asEq .neq (bif Nat.beq b b then some (Nat.beq 0 0) else none) = _
      rw [beqN_eq]; simp; rfl
    rw [e1]
    simp only [bd_ret, cnd_false, Ev_ret]
    exact k H buf h1 h3 (.refl hf)
theorem addedOf_str (s : List UInt8) (H : Heap) (n : Nat) : addedOf 1 (.str s) H n = some ((bytesA s, (bytesA s).length), H, n) := by
  rw [bytesA_len]; rfl
/-- Cells are put behind what a Builder holds. -/
theorem bld_put {H : Heap} {b m n : Nat} {buf x : AV} {t u : List UInt8} (hf : ∀ i, n ≤ i → H.get i = none) (h1 : H.get b = some (.row [.ptr (some (b, 0)), buf] 61 (.own 0))) (h3 : SlB H 5 m n (bytesA t) buf) (hmb : m ≤ b) (hbn : b < n)
    (ha : addedOf 1 x H n = some ((bytesA u, (bytesA u).length), H, n)) (hl : t.length + u.length ≤ 140737488355328) {f : AV → M AV} {Q : AV → Heap → Nat → Prop}
    (k : ∀ H' n', IsBld H' b m n' (t ++ u) → FrB m b H n n' H' → Ev (f (.tuple [])) H' n' Q) :
    Ev (M.bd (app 5 1 1 buf x) fun v => M.bd (st (.ptr (some (b, 1))) v) f) H n Q := by
  rw [Ev_bd]
  refine (app_own hf (by omega) h3 ha (bytesA_all u) (bytesA_all t) (by rw [bytesA_len, bytesA_len]; omega) (by rw [bytesA_len, bytesA_len]; omega)).mono fun v H' n' ⟨q1, q2⟩ => ?_
  have hb' : H'.get b = some (.row [.ptr (some (b, 0)), buf] 61 (.own 0)) := by
    rw [q2.keep b hbn (.inr ?_)]; exact h1
    rintro ⟨_, _, e⟩; rw [h1] at e; simp at e
  have hone : oneCell v = true := by rcases q1 with ⟨rfl, _⟩ | ⟨_, _, _, _, rfl, _⟩ <;> rfl
  rw [Ev_st _ _ _ _ hb' 1 _ rfl (by simp) hone, lay_one _ _ _ (by simp)]
  refine k _ n' ⟨.ptr (some (b, 0)), v, get_set_same _ _ _, .inr rfl, ?_, hmb, by have := q2.le; omega⟩ ⟨q2.le, fun i hi => by rw [get_set_ne _ _ _ _ (by have := q2.le; omega)]; exact q2.free i hi, fun i a c d => by rw [get_set_ne _ _ _ _ c]; exact q2.keep i a d⟩
  rw [bytesA_app]
  refine q1.keep (Nat.le_refl _) fun i c1 c2 c3 => get_set_ne _ _ _ _ fun e => ?_
  subst e
  obtain ⟨_, _, e⟩ := c3
  rw [hb'] at e; simp at e
theorem WriteString_eq {H : Heap} {b m n : Nat} {t u : List UInt8} (hf : ∀ i, n ≤ i → H.get i = none) (h : IsBld H b m n t) (hl : t.length + u.length ≤ 140737488355328) {f : AV → M AV} {Q : AV → Heap → Nat → Prop}
    (k : ∀ v H' n', IsBld H' b m n' (t ++ u) → FrB m b H n n' H' → Ev (f v) H' n' Q) : Ev (M.bd (f36 (.ptr (some (b, 0))) (.str u)) f) H n Q := by
  unfold f36
  have hlt := h.lt
  simp only [bd_bd]
  rw [Ev_bd]
  refine copyCheck_eq hf h fun H1 buf h1 h2 h3 => ?_
  simp only [nck_ptr, bd_ret, fa_ptr, Nat.zero_add]
  rw [Ev_ld _ _ _ _ h1 1 rfl]
  refine bld_put h3.free h1 h2 hlt.1 hlt.2 (addedOf_str u H1 n) hl fun H2 n2 q1 q2 => ?_
  simp only [lnS_str, bd_ret]
  exact k _ H2 n2 q1 (h3.trans q2)
theorem WriteByte_eq {H : Heap} {b m n : Nat} {t : List UInt8} (c : UInt8) (hf : ∀ i, n ≤ i → H.get i = none) (h : IsBld H b m n t) (hl : t.length + 1 ≤ 140737488355328) {f : AV → M AV} {Q : AV → Heap → Nat → Prop}
    (k : ∀ v H' n', IsBld H' b m n' (t ++ [c]) → FrB m b H n n' H' → Ev (f v) H' n' Q) : Ev (M.bd (f45 (.ptr (some (b, 0))) (.int .u8 (c.toNat : Int))) f) H n Q := by
  unfold f45
  have hlt := h.lt
  simp only [bd_bd]
  rw [Ev_bd]
  refine copyCheck_eq hf h fun H1 buf h1 h2 h3 => ?_
  simp only [nck_ptr, bd_ret, fa_ptr, Nat.zero_add]
  rw [Ev_ld _ _ _ _ h1 1 rfl]
  have e0 : bsl 5 1 1 [(.int .u8 0)] [(0, 1, .int .u8 (c.toNat : Int))] = M.bd (Dn.newRow 5 (bytesA [c])) fun i => M.ret (.sl i 0 1 1 1) := rfl
  rw [e0]
  simp only [bd_bd, bd_ret]
  rw [Ev_newRow _ _ _ _ (bytesA_all [c])]
  refine ⟨h3.free n (Nat.le_refl n), ?_⟩
  have hfr : FrB m b H1 n (n + 1) (H1.set n (.row (bytesA [c]) 5 (.own 0))) := ⟨by omega, fun i hi => by rw [get_set_ne _ _ _ _ (by omega)]; exact h3.free i (by omega), fun i hi _ _ => get_set_ne _ _ _ _ (by omega)⟩
  refine bld_put (u := [c]) hfr.free (by rw [get_set_ne _ _ _ _ (by omega)]; exact h1) (h2.keep (by omega) fun i _ hi _ => get_set_ne _ _ _ _ (by omega)) hlt.1 (by omega) ?_ hl fun H2 n2 q1 q2 => ?_
  · show M.bd (rd n 0 (1 * 1)) (fun cs => M.ret (cs, 1)) (H1.set n (.row (bytesA [c]) 5 (.own 0))) (n + 1) = _
    rw [bd_at (rd_at _ _ _ (get_set_same _ _ _) 0 (1 * 1) (by simp [bytesA]))]
    rfl
  · exact k _ H2 n2 q1 (h3.trans (hfr.trans q2))
theorem Len_eq {H : Heap} {b m n : Nat} {t : List UInt8} (h : IsBld H b m n t) : f42 (.ptr (some (b, 0))) H n = some (.int .i64 (t.length : Int), H, n) := by
  obtain ⟨addr, buf, h1, h2, h3, h4, h5⟩ := h
  unfold f42
  simp only [nck_ptr, bd_ret, fa_ptr, Nat.zero_add]
  have e1 : ld (.ptr (some (b, 1))) H n = some (buf, H, n) := by unfold ld; simp only; rw [bd_at (getO_at h1 n)]; rfl
  rw [bd_at e1, h3.len, bytesA_len]
  rfl
theorem String_eq {H : Heap} {b m n : Nat} {t : List UInt8} (hf : ∀ i, n ≤ i → H.get i = none) (h : IsBld H b m n t) (hl : t.length ≤ 140737488355328) {f : AV → M AV} {Q : AV → Heap → Nat → Prop}
    (k : ∀ H', IsBld H' b m n t → FrB m b H n n H' → Ev (f (.str t)) H' n Q) : Ev (M.bd (f37 (.ptr (some (b, 0)))) f) H n Q := by
  have hb := h
  obtain ⟨addr, buf, h1, h2, h3, h4, h5⟩ := h
  unfold f37
  simp only [bd_bd, nck_ptr, bd_ret, fa_ptr, Nat.zero_add]
  rw [Ev_ld _ _ _ _ h1 1 rfl]
  rcases h3 with ⟨rfl, h3⟩ | ⟨r, kc, row, g, rfl, q2, q3, q4, q5, q6, q7, q8, q9⟩
  · have e0 : usd .slN = M.ret (.ptr none) := rfl
    rw [e0]
    simp only [bd_ret]
    rw [Ev_ld _ _ _ _ h1 1 rfl]
    have e1 : lnL .slN = M.ret (.int .i64 0) := rfl
    have e2 : ust 5 (.ptr none) (.int .i64 0) = M.ret (.str []) := rfl
    have ht : t = [] := by
      have := congrArg List.length h3
      rw [bytesA_len] at this
      exact List.eq_nil_of_length_eq_zero this
    subst ht
    simp only [e1, e2, bd_ret]
    exact k H hb (.refl hf)
  · have e0 : usd (.sl r 0 (bytesA t).length kc 1) = M.ret (.ptr (some (r, 0))) := by
      show (bif Nat.beq kc 0 then fail else M.ret (AV.ptr (some (r, 0)))) = _
      rw [beqN_eq]; simp [q2]
    rw [e0]
    simp only [bd_ret]
    rw [Ev_ld _ _ _ _ h1 1 rfl]
    have e1 : lnL (.sl r 0 (bytesA t).length kc 1) = M.ret (.int .i64 (t.length : Int)) := by rw [bytesA_len]; rfl
    simp only [e1, bd_ret]
    cases t with
    | nil =>
      have e2 : ust 5 (.ptr (some (r, 0))) (.int .i64 ((([] : List UInt8).length : Nat) : Int)) = M.ret (.str []) := rfl
      simp only [e2, bd_ret]
      exact k H hb (.refl hf)
    | cons c t =>
      rw [bytesA_len] at q5 q6 q7
      have hset : ust 5 (.ptr (some (r, 0))) (.int .i64 (((c :: t).length : Nat) : Int)) H n = some (.str (c :: t), H.set r (.row row 5 (.own (bif Nat.ble g (c :: t).length then (c :: t).length else g))), n) := by
        show (bif Nat.beq (c :: t).length 0 then M.ret (AV.str []) else M.bd (getO r) _) H n = _
        rw [beqN_eq]
        simp only [List.length_cons, Nat.succ_ne_zero, decide_false, cond_false]
        rw [bd_at (getO_at q3 n)]
        simp only [beqN_eq, bleN_eq]
        have z1 : decide (t.length + 1 ≤ row.length) = true := by simp; simp at q5; omega
        have z2 : decide (t.length + 1 ≤ 9223372036854775807) = true := by simp; simp at hl; omega
        rw [z1, z2]
        simp only [decide_true, Bool.and_self, cond_true]
        have z3 : bytesOf? (row.take (t.length + 1)) = some (c :: t) := by rw [← bytesA_back (c :: t), ← q6]; rfl
        rw [z3]
        rfl
      rw [Ev_bd]
      refine .of hset ?_
      have hg : (bif Nat.ble g (c :: t).length then (c :: t).length else g) = (c :: t).length := by rw [bleN_eq, decide_eq_true q7]; rfl
      rw [hg]
      have hrb : b ≠ r := fun e => by subst e; rw [h1] at q3; simp at q3
      refine k _ ⟨addr, _, by rw [get_set_ne _ _ _ _ hrb]; exact h1, h2, .inr ⟨r, kc, row, (c :: t).length, rfl, q2, get_set_same _ _ _, q4, by rw [bytesA_len]; exact q5, by rw [bytesA_len]; exact q6, by rw [bytesA_len]; exact Nat.le_refl _, q8, q9⟩, h4, h5⟩ ⟨Nat.le_refl n, fun i hi => by rw [get_set_ne _ _ _ _ (by omega)]; exact hf i hi, fun i a c2 d => ?_⟩
      by_cases e : i = r
      · subst e
        rcases d with d | d
        · omega
        · exact absurd ⟨_, _, q3⟩ d
      · exact get_set_ne _ _ _ _ e
end Go.Proofs.YtgljgjnhagidnaaGreatDoor.Den
