/- References with a fragment or a query behind them: plain facts. No program in sight. -/
import Derived.Test.YtgljgjnhagidnaaDoorDen04
namespace Go.Dn.Pl
set_option linter.unusedVariables false

theorem findIdx_app (p : UInt8 → Bool) (c : UInt8) (u : List UInt8) (hc : p c = true) : ∀ s : List UInt8, (s ++ c :: u).findIdx p = s.findIdx p
  | [] => by rw [List.nil_append, List.findIdx_cons, hc]; rfl
  | b :: r => by
    rw [List.cons_append, List.findIdx_cons, List.findIdx_cons, findIdx_app p c u hc r]
theorem aheadB_app (t : List UInt8) (c : UInt8) (u : List UInt8) (hc : has c.toNat t = true) (s : List UInt8) : aheadB t (s ++ c :: u) = ((aheadB t s).1, (aheadB t s).2 ++ c :: u) := by
  unfold aheadB
  rw [findIdx_app _ c u hc]
  have hle := List.findIdx_le_length (xs := s) (p := fun b => has b.toNat t)
  rw [List.take_append_of_le_length hle, List.drop_append_of_le_length hle]
theorem cut1_app (c : UInt8) (u s : List UInt8) (hc : c = 35 ∨ c = 63) : cut1 (s ++ c :: u) = ((cut1 s).1, (cut1 s).2.1, (cut1 s).2.2 ++ c :: u) := by
  unfold cut1
  have h1 : has c.toNat [58, 47, 63, 35] = true := by rcases hc with rfl | rfl <;> rfl
  rw [aheadB_app _ c u h1 s]
  simp only
  cases e : (aheadB [58, 47, 63, 35] s).2 with
  | nil =>
    have : ([58] : List UInt8).isPrefixOf ([] ++ c :: u) = false := by rcases hc with rfl | rfl <;> rfl
    rw [this]
    rfl
  | cons b r =>
    have : ([58] : List UInt8).isPrefixOf (b :: r ++ c :: u) = ([58] : List UInt8).isPrefixOf (b :: r) := by
      rw [List.cons_append, List.isPrefixOf_cons_cons, List.isPrefixOf_cons_cons]; rfl
    rw [this]
    split <;> rfl
theorem cut2_app (c : UInt8) (u s : List UInt8) (hc : c = 35 ∨ c = 63) : cut2 (s ++ c :: u) = ((cut2 s).1, (cut2 s).2.1, (cut2 s).2.2 ++ c :: u) := by
  unfold cut2
  have h1 : has c.toNat [47, 63, 35] = true := by rcases hc with rfl | rfl <;> rfl
  have h2 : ([47, 47] : List UInt8).isPrefixOf (s ++ c :: u) = ([47, 47] : List UInt8).isPrefixOf s := by
    match s with
    | [] => rcases hc with rfl | rfl <;> rfl
    | [b] =>
      show ([47, 47] : List UInt8).isPrefixOf (b :: c :: u) = ([47, 47] : List UInt8).isPrefixOf [b]
      rw [List.isPrefixOf_cons_cons, List.isPrefixOf_cons_cons, List.isPrefixOf_cons_cons]
      have : ((47 : UInt8) == c) = false := by rcases hc with rfl | rfl <;> rfl
      rw [this]
      cases ((47 : UInt8) == b) <;> rfl
    | b :: b2 :: r => rfl
  rw [h2]
  cases h : ([47, 47] : List UInt8).isPrefixOf s with
  | false => rfl
  | true =>
    have := prefix2 h
    have h3 : (s ++ c :: u).drop 2 = s.drop 2 ++ c :: u := by rw [List.drop_append_of_le_length]; rw [this]; simp
    simp only [if_true, h3, aheadB_app _ c u h1]
theorem cutB_no {c : Nat} {s : List UInt8} (h : (cutB c s).2.2 = false) : cutB c s = (s, [], false) ∧ s.findIdx (fun b => b.toNat == c) = s.length := by
  unfold cutB at h ⊢
  by_cases h1 : s.findIdx (fun b => b.toNat == c) < s.length
  · rw [if_pos h1] at h; cases h
  · rw [if_neg h1]
    have := List.findIdx_le_length (xs := s) (p := fun b => b.toNat == c)
    exact ⟨rfl, by omega⟩
theorem cutB_at (c : UInt8) (u s : List UInt8) (h : s.findIdx (fun b => b.toNat == c.toNat) = s.length) : cutB c.toNat (s ++ c :: u) = (s, u, true) := by
  unfold cutB
  rw [findIdx_app _ c u (by simp), h, if_pos (by simp)]
  simp
theorem cutB_none (c : Nat) (s t : List UInt8) (h : s.findIdx (fun b => b.toNat == c) = s.length) (h2 : t.findIdx (fun b => b.toNat == c) = t.length) : cutB c (s ++ t) = (s ++ t, [], false) := by
  unfold cutB
  have : (s ++ t).findIdx (fun b => b.toNat == c) = (s ++ t).length := by
    rw [List.findIdx_append, h, if_neg (by omega), h2, List.length_append]; omega
  rw [this, if_neg (by omega)]
/-- A fragment behind a reference that has none. -/
theorem pcOf_frag (s f : List UInt8) (h : (pcOf s).hf = false) : pcOf (s ++ 35 :: f) = { pcOf s with fr := f, hf := true } ∧ (pcOf s).fr = [] := by
  unfold pcOf at h ⊢
  rw [cut1_app 35 f s (.inl rfl)]
  simp only
  rw [cut2_app 35 f _ (.inl rfl)]
  simp only at h ⊢
  generalize (cut2 (cut1 s).2.2).2.2 = r at h
  unfold cut3 at h ⊢
  simp only at h ⊢
  obtain ⟨a, b⟩ := cutB_no h
  have e := cutB_at 35 f r b
  rw [show (35 : UInt8).toNat = 35 from rfl] at e
  rw [e, a]
  exact ⟨rfl, rfl⟩
/-- A query behind a reference that has neither query nor fragment. -/
theorem pcOf_query (s : List UInt8) (h : (pcOf s).hf = false) (h2 : (pcOf s).hq = false) : pcOf (s ++ [63, 120]) = { pcOf s with qu := [120], hq := true } := by
  unfold pcOf at h h2 ⊢
  rw [cut1_app 63 [120] s (.inr rfl)]
  simp only
  rw [cut2_app 63 [120] _ (.inr rfl)]
  simp only at h h2 ⊢
  generalize (cut2 (cut1 s).2.2).2.2 = r at h h2
  unfold cut3 at h h2 ⊢
  simp only at h h2 ⊢
  obtain ⟨a, b⟩ := cutB_no h
  rw [a] at h2
  obtain ⟨c, d⟩ := cutB_no h2
  rw [cutB_none 35 r [63, 120] b rfl]
  have e := cutB_at 63 [120] r d
  rw [show (63 : UInt8).toNat = 63 from rfl] at e
  simp only
  rw [e, a]
  simp only
  rw [c]
theorem pcOf_hash (f : List UInt8) : (pcOf (35 :: f)).fr = f := by
  have := (pcOf_frag [] f rfl).1
  rw [List.nil_append] at this
  rw [this]
theorem pctOK_app {s : List UInt8} (t : List UInt8) (h : pctOK s = true) : pctOK (s ++ t) = true := by
  match s, h with
  | a :: b :: r, h => exact h
theorem rightR_app : ∀ (s t : List UInt8), rightR s = true → rightR t = true → rightR (s ++ t) = true
  | [], t, _, h => h
  | b :: r, t, h1, h2 => by
    unfold rightR at h1
    rw [Bool.and_eq_true, Bool.and_eq_true] at h1
    obtain ⟨⟨a, c⟩, d⟩ := h1
    rw [List.cons_append]
    unfold rightR
    rw [rightR_app r t d h2, a]
    rw [Bool.or_eq_true] at c
    rcases c with c | c
    · rw [c]; rfl
    · rw [pctOK_app t c]; simp
theorem iriRight_app {s t : List UInt8} (h1 : iriRight s = true) (h2 : iriRight t = true) (hl : s.length + t.length ≤ 1000) : iriRight (s ++ t) = true := by
  unfold iriRight at h1 h2 ⊢
  rw [Bool.and_eq_true] at h1 h2 ⊢
  exact ⟨by simp; omega, rightR_app s t h1.2 h2.2⟩
/-- The law IriFragments, of plain functions. -/
theorem fragments (src s f : List UInt8) (hs : s.length ≤ 300) (hf : f.length ≤ 300) (h1 : (iriCut s).2 = true) (h2 : (iriCut (35 :: f)).2 = true) (h3 : (iriCut s).1.hf = false) (h4 : (iriCut s).1.hq = false) :
    (iriCut (35 :: f)).1.fr = f ∧ (iriTarget src s).1 = (iriTarget src (s ++ 35 :: f)).1 ∧ (iriTarget src s).2.2 = (iriTarget src (s ++ 35 :: f)).2.2 ∧ (iriTarget src s).2.1 = [] ∧ ((iriTarget src s).2.2 = 0 → (iriTarget src (s ++ 35 :: f)).2.1 = f) ∧ (iriTarget src (s ++ [63, 120])).2.2 ≠ 0 := by
  have r1 : iriRight s = true := by
    unfold iriCut at h1
    cases e : iriRight s with
    | true => rfl
    | false => rw [e] at h1; cases h1
  have r2 : iriRight (35 :: f) = true := by
    unfold iriCut at h2
    cases e : iriRight (35 :: f) with
    | true => rfl
    | false => rw [e] at h2; cases h2
  have c1 : iriCut s = (pcOf s, true) := by unfold iriCut; rw [r1]; rfl
  have c2 : iriCut (35 :: f) = (pcOf (35 :: f), true) := by unfold iriCut; rw [r2]; rfl
  rw [c1] at h3 h4
  obtain ⟨p1, p2⟩ := pcOf_frag s f h3
  have c3 : iriCut (s ++ 35 :: f) = ({ pcOf s with fr := f, hf := true }, true) := by
    unfold iriCut
    rw [iriRight_app r1 r2 (by simp; omega), p1]; rfl
  have c4 : iriCut (s ++ [63, 120]) = ({ pcOf s with qu := [120], hq := true }, true) := by
    unfold iriCut
    rw [iriRight_app r1 (t := [63, 120]) (by decide) (by simp; omega), pcOf_query s h3 h4]; rfl
  refine ⟨by rw [c2]; exact pcOf_hash f, ?_⟩
  unfold iriTarget iriResolve
  rw [c1, c3, c4]
  simp only [if_true]
  by_cases hb : ((pcOf s).hs || ((pcOf s).ha || ![47].isPrefixOf src)) = true
  · simp only [hb, if_true]
    simp
  · have hb' := Bool.eq_false_iff.2 hb
    simp only [hb', Bool.false_eq_true, if_true, if_false, Bool.or_true]
    have h4' : (pcOf s).hq = false := h4
    simp only [h4', Bool.or_false, p2]
    cases (normB (dotsP (pathB src (pcOf s).pa))).2 <;> simp
end Go.Dn.Pl
