/- References with a fragment or a query behind them: plain facts. No program in sight. -/
import Derived.Test.YtgljgjnhagidnaaGreatDoorDen04
namespace Go.Dn.Pl
set_option linter.unusedVariables false

theorem findIdx_app (p : UInt8 → Bool) (c : UInt8) (u : List UInt8) (hc : p c = true) : ∀ s : List UInt8, (s ++ c :: u).findIdx p = s.findIdx p
  | [] => by rw [List.nil_append, List.findIdx_cons, hc]; rfl
  | b :: r => by
    rw [List.cons_append, List.findIdx_cons, List.findIdx_cons, findIdx_app p c u hc r]
theorem aheadB_app (t : List UInt8) (c : UInt8) (u : List UInt8) (hc : has c.toNat t = true) (s : List UInt8) : aheadB t (s ++ c :: u) = ((aheadB t s).1, (aheadB t s).2 ++ c :: u) := by
  unfold aheadB
  rw [findIdx_app _ c u hc]
  have hle := List.findIdx_le_length (xs := s) (p := fun b => has b.toNat t)
  rw [List.take_append_of_le_length hle, List.drop_append_of_le_length hle]
theorem cut1_app (c : UInt8) (u s : List UInt8) (hc : c = 35 ∨ c = 63) : cut1 (s ++ c :: u) = ((cut1 s).1, (cut1 s).2.1, (cut1 s).2.2 ++ c :: u) := by
  unfold cut1
  have h1 : has c.toNat [58, 47, 63, 35] = true := by rcases hc with rfl | rfl <;> rfl
  rw [aheadB_app _ c u h1 s]
  simp only
  cases e : (aheadB [58, 47, 63, 35] s).2 with
  | nil =>
    have : ([58] : List UInt8).isPrefixOf ([] ++ c :: u) = false := by rcases hc with rfl | rfl <;> rfl
    rw [this]
    rfl
  | cons b r =>
    have : ([58] : List UInt8).isPrefixOf (b :: r ++ c :: u) = ([58] : List UInt8).isPrefixOf (b :: r) := by
      rw [List.cons_append, List.isPrefixOf_cons_cons, List.isPrefixOf_cons_cons]; rfl
    rw [this]
    split <;> rfl
theorem cut2_app (c : UInt8) (u s : List UInt8) (hc : c = 35 ∨ c = 63) : cut2 (s ++ c :: u) = ((cut2 s).1, (cut2 s).2.1, (cut2 s).2.2 ++ c :: u) := by
  unfold cut2
  have h1 : has c.toNat [47, 63, 35] = true := by rcases hc with rfl | rfl <;> rfl
  have h2 : ([47, 47] : List UInt8).isPrefixOf (s ++ c :: u) = ([47, 47] : List UInt8).isPrefixOf s := by
    match s with
    | [] => rcases hc with rfl | rfl <;> rfl
    | [b] =>
      show ([47, 47] : List UInt8).isPrefixOf (b :: c :: u) = ([47, 47] : List UInt8).isPrefixOf [b]
      rw [List.isPrefixOf_cons_cons, List.isPrefixOf_cons_cons, List.isPrefixOf_cons_cons]
      have : ((47 : UInt8) == c) = false := by rcases hc with rfl | rfl <;> rfl
      rw [this]
      cases ((47 : UInt8) == b) <;> rfl
    | b :: b2 :: r => rfl
  rw [h2]
  cases h : ([47, 47] : List UInt8).isPrefixOf s with
  | false => rfl
  | true =>
    have := prefix2 h
    have h3 : (s ++ c :: u).drop 2 = s.drop 2 ++ c :: u := by rw [List.drop_append_of_le_length]; rw [this]; simp
    simp only [if_true, h3, aheadB_app _ c u h1]
theorem cutB_no {c : Nat} {s : List UInt8} (h : (cutB c s).2.2 = false) : cutB c s = (s, [], false) ∧ s.findIdx (fun b => b.toNat == c) = s.length := by
  unfold cutB at h ⊢
  by_cases h1 : s.findIdx (fun b => b.toNat == c) < s.length
  · rw [if_pos h1] at h; cases h
  · rw [if_neg h1]
    have := List.findIdx_le_length (xs := s) (p := fun b => b.toNat == c)
    exact ⟨rfl, by omega⟩
theorem cutB_at (c : UInt8) (u s : List UInt8) (h : s.findIdx (fun b => b.toNat == c.toNat) = s.length) : cutB c.toNat (s ++ c :: u) = (s, u, true) := by
  unfold cutB
  rw [findIdx_app _ c u (by simp), h, if_pos (by simp)]
  simp
theorem cutB_none (c : Nat) (s t : List UInt8) (h : s.findIdx (fun b => b.toNat == c) = s.length) (h2 : t.findIdx (fun b => b.toNat == c) = t.length) : cutB c (s ++ t) = (s ++ t, [], false) := by
  unfold cutB
  have : (s ++ t).findIdx (fun b => b.toNat == c) = (s ++ t).length := by
    rw [List.findIdx_append, h, if_neg (by omega), h2, List.length_append]; omega
  rw [this, if_neg (by omega)]
/-- A fragment behind a reference that has none. -/
theorem pcOf_frag (s f : List UInt8) (h : (pcOf s).hf = false) : pcOf (s ++ 35 :: f) = { pcOf s with fr := f, hf := true } ∧ (pcOf s).fr = [] := by
  unfold pcOf at h ⊢
  rw [cut1_app 35 f s (.inl rfl)]
  simp only
  rw [cut2_app 35 f _ (.inl rfl)]
  simp only at h ⊢
  generalize (cut2 (cut1 s).2.2).2.2 = r at h
  unfold cut3 at h ⊢
  simp only at h ⊢
  obtain ⟨a, b⟩ := cutB_no h
  have e := cutB_at 35 f r b
  rw [show (35 : UInt8).toNat = 35 from rfl] at e
  rw [e, a]
  exact ⟨rfl, rfl⟩
/-- A query behind a reference that has neither query nor fragment. -/
theorem pcOf_query (s : List UInt8) (h : (pcOf s).hf = false) (h2 : (pcOf s).hq = false) : pcOf (s ++ [63, 120]) = { pcOf s with qu := [120], hq := true } := by
  unfold pcOf at h h2 ⊢
  rw [cut1_app 63 [120] s (.inr rfl)]
  simp only
  rw [cut2_app 63 [120] _ (.inr rfl)]
  simp only at h h2 ⊢
  generalize (cut2 (cut1 s).2.2).2.2 = r at h h2
  unfold cut3 at h h2 ⊢
  simp only at h h2 ⊢
  obtain ⟨a, b⟩ := cutB_no h
  rw [a] at h2
  obtain ⟨c, d⟩ := cutB_no h2
  rw [cutB_none 35 r [63, 120] b rfl]
  have e := cutB_at 63 [120] r d
  rw [show (63 : UInt8).toNat = 63 from rfl] at e
  simp only
  rw [e, a]
  simp only
  rw [c]
theorem pcOf_hash (f : List UInt8) : (pcOf (35 :: f)).fr = f := by
  have := (pcOf_frag [] f rfl).1
  rw [List.nil_append] at this
  rw [this]
theorem pctOK_app {s : List UInt8} (t : List UInt8) (h : pctOK s = true) : pctOK (s ++ t) = true := by
  match s, h with
  | a :: b :: r, h => exact h
theorem rightR_app : ∀ (s t : List UInt8), rightR s = true → rightR t = true → rightR (s ++ t) = true
  | [], t, _, h => h
  | b :: r, t, h1, h2 => by
    unfold rightR at h1
    rw [Bool.and_eq_true, Bool.and_eq_true] at h1
    obtain ⟨⟨a, c⟩, d⟩ := h1
    rw [List.cons_append]
    unfold rightR
    rw [rightR_app r t d h2, a]
    rw [Bool.or_eq_true] at c
    rcases c with c | c
    · rw [c]; rfl
    · rw [pctOK_app t c]; simp
theorem iriRight_app {s t : List UInt8} (h1 : iriRight s = true) (h2 : iriRight t = true) (hl : s.length + t.length ≤ 1000) : iriRight (s ++ t) = true := by
  unfold iriRight at h1 h2 ⊢
  rw [Bool.and_eq_true] at h1 h2 ⊢
  exact ⟨by simp; omega, rightR_app s t h1.2 h2.2⟩
/-- The law IriFragments, of plain functions. -/
theorem fragments (src s f : List UInt8) (hs : s.length ≤ 300) (hf : f.length ≤ 300) (h1 : (iriCut s).2 = true) (h2 : (iriCut (35 :: f)).2 = true) (h3 : (iriCut s).1.hf = false) (h4 : (iriCut s).1.hq = false) :
    (iriCut (35 :: f)).1.fr = f ∧ (iriTarget src s).1 = (iriTarget src (s ++ 35 :: f)).1 ∧ (iriTarget src s).2.2 = (iriTarget src (s ++ 35 :: f)).2.2 ∧ (iriTarget src s).2.1 = [] ∧ ((iriTarget src s).2.2 = 0 → (iriTarget src (s ++ 35 :: f)).2.1 = f) ∧ (iriTarget src (s ++ [63, 120])).2.2 ≠ 0 := by
  have r1 : iriRight s = true := by
    unfold iriCut at h1
    cases e : iriRight s with
    | true => rfl
    | false => rw [e] at h1; cases h1
  have r2 : iriRight (35 :: f) = true := by
    unfold iriCut at h2
    cases e : iriRight (35 :: f) with
    | true => rfl
    | false => rw [e] at h2; cases h2
  have c1 : iriCut s = (pcOf s, true) := by unfold iriCut; rw [r1]; rfl
  have c2 : iriCut (35 :: f) = (pcOf (35 :: f), true) := by unfold iriCut; rw [r2]; rfl
  rw [c1] at h3 h4
  obtain ⟨p1, p2⟩ := pcOf_frag s f h3
  have c3 : iriCut (s ++ 35 :: f) = ({ pcOf s with fr := f, hf := true }, true) := by
    unfold iriCut
    rw [iriRight_app r1 r2 (by simp; omega), p1]; rfl
  have c4 : iriCut (s ++ [63, 120]) = ({ pcOf s with qu := [120], hq := true }, true) := by
    unfold iriCut
    rw [iriRight_app r1 (t := [63, 120]) (by decide) (by simp; omega), pcOf_query s h3 h4]; rfl
  refine ⟨by rw [c2]; exact pcOf_hash f, ?_⟩
  unfold iriTarget iriResolve
  rw [c1, c3, c4]
  simp only [if_true]
  by_cases hb : ((pcOf s).hs || ((pcOf s).ha || ![47].isPrefixOf src)) = true
  · simp only [hb, if_true]
    simp
  · have hb' := Bool.eq_false_iff.2 hb
    simp only [hb', Bool.false_eq_true, if_true, if_false, Bool.or_true]
    have h4' : (pcOf s).hq = false := h4
    simp only [h4', Bool.or_false, p2]
    cases (normB (dotsP (pathB src (pcOf s).pa))).2 <;> simp
end Go.Dn.Pl

/- Names of parts, byte by byte: plain facts. No program in sight. -/
namespace Go.Dn.Pl
set_option linter.unusedVariables false

/-- May a segment end here? -/
def endOK (b : UInt8) : Bool := !decide (b = 47) && !decide (b = 46)
/-- A name behind its first slash, byte by byte; 'p' is the byte ahead; the first k signs are skipped. -/
def passK : Nat → UInt8 → List UInt8 → Bool
  | _, p, [] => endOK p
  | k + 1, p, b :: r => passK k b r
  | 0, p, b :: r => if b = 47 then endOK p && passK 0 47 r else match toldB (b :: r) with
    | some v => !tellBad v && passK 2 b r
    | none => signC b.toNat && passK 0 b r
theorem toldB_seg (b : UInt8) (hb : b ≠ 47) (r h : List UInt8) (t : List (List UInt8)) (hs : segs r = h :: t) : toldB (b :: r) = toldB (b :: h) := by
  have hex : ∀ c : UInt8, 0 < digC c.toNat → c ≠ 47 := by
    intro c hc e
    subst e
    exact absurd hc (by decide)
  have cons : ∀ (c : UInt8) (r h : List UInt8) (t : List (List UInt8)), segs (c :: r) = h :: t → (c = 47 ∧ h = []) ∨ (c ≠ 47 ∧ ∃ h', h = c :: h' ∧ segs r = h' :: t) := by
    intro c r h t hs
    rw [segs] at hs
    by_cases hc : c = 47
    · rw [if_pos hc] at hs
      exact .inl ⟨hc, (List.cons.inj hs).1.symm⟩
    · rw [if_neg hc] at hs
      cases e : segs r with
      | nil => exact absurd e (segs_ne r)
      | cons x y =>
        rw [e] at hs
        obtain ⟨h1, h2⟩ := List.cons.inj hs
        exact .inr ⟨hc, x, h1.symm, by rw [h2]⟩
  cases r with
  | nil =>
    have : h = [] := by simp [segs] at hs; exact hs.1
    rw [this]
  | cons c r =>
    rcases cons c r h t hs with ⟨hc, rfl⟩ | ⟨hc, h', rfl, hs'⟩
    · cases r with
      | nil => rfl
      | cons d r =>
        show (if b = 37 ∧ 0 < digC c.toNat ∧ 0 < digC d.toNat then _ else none) = none
        rw [if_neg]
        rintro ⟨_, h2, _⟩
        exact hex c h2 hc
    · cases r with
      | nil =>
        have : h' = [] := by simp [segs] at hs'; exact hs'.1
        rw [this]
      | cons d r =>
        rcases cons d r h' t hs' with ⟨hd, rfl⟩ | ⟨hd, h'', rfl, _⟩
        · show (if b = 37 ∧ 0 < digC c.toNat ∧ 0 < digC d.toNat then _ else none) = none
          rw [if_neg]
          rintro ⟨_, _, h2⟩
          exact hex d h2 hd
        · rfl
theorem endOK_dig (c : UInt8) (h : 0 < digC c.toNat) : endOK c = true := by
  have := all256 (p := fun n => decide (digC n = 0) || endOK (UInt8.ofNat n)) (by decide +kernel) c.toNat (toNat_lt c)
  rw [decide_eq_false (by omega), Bool.false_or] at this
  rw [UInt8.ofNat_toNat] at this
  exact this
/-- No segment bears a slash. -/
theorem segs_no47 : ∀ (s x : List UInt8), x ∈ segs s → (47 : UInt8) ∉ x
  | [], x, h => by simp [segs] at h; subst h; simp
  | b :: r, x, h => by
    rw [segs] at h
    by_cases hb : b = 47
    · rw [if_pos hb] at h
      rcases List.mem_cons.1 h with rfl | h
      · simp
      · exact segs_no47 r x h
    · rw [if_neg hb] at h
      cases e : segs r with
      | nil => exact absurd e (segs_ne r)
      | cons y t =>
        rw [e] at h
        rcases List.mem_cons.1 h with rfl | h
        · have := segs_no47 r y (by rw [e]; exact List.mem_cons_self)
          simp only [List.mem_cons, not_or]
          exact ⟨fun e => hb e.symm, this⟩
        · exact segs_no47 r x (by rw [e]; exact List.mem_cons_of_mem _ h)
theorem segs_tail (b : UInt8) (hb : b ≠ 47) (r h : List UInt8) (t : List (List UInt8)) (hs : segs r = h :: t) : segs (b :: r) = (b :: h) :: t := by
  rw [segs, if_neg hb, hs]
theorem lastD_mem : ∀ (l : List UInt8) (c : UInt8), l.getLastD c ∈ c :: l
  | [], c => by simp
  | d :: l, c => by rw [List.getLastD_cons]; exact List.mem_cons_of_mem _ (lastD_mem l d)
theorem suf46 : ∀ (l : List UInt8) (c : UInt8), ([46] : List UInt8).isSuffixOf (c :: l) = decide (l.getLastD c = 46)
  | [], c => by
    rw [Bool.eq_iff_iff, List.isSuffixOf_iff_suffix, decide_eq_true_eq, List.suffix_cons_iff]
    simp [eq_comm]
  | d :: l, c => by
    rw [List.getLastD_cons, ← suf46 l d, Bool.eq_iff_iff, List.isSuffixOf_iff_suffix, List.isSuffixOf_iff_suffix, List.suffix_cons_iff]
    simp
/-- What a byte-by-byte pass sees of the first segment, with the byte ahead of it. -/
theorem passK_segs : ∀ (s : List UInt8) (k : Nat) (p : UInt8) (h : List UInt8) (t : List (List UInt8)), segs s = h :: t → (∀ i, i < k → i < s.length → ∃ c, s[i]? = some c ∧ c ≠ 47) → passK k p s = (segK k h && (endOK (h.getLastD p) && t.all segB))
  | [], k, p, h, t, hs, hk => by
    simp [segs] at hs
    obtain ⟨rfl, rfl⟩ := hs
    cases k <;> simp [passK, segK]
  | b :: r, k, p, h, t, hs, hk => by
    cases e : segs r with
    | nil => exact absurd e (segs_ne r)
    | cons h1 t1 =>
    cases k with
    | succ k =>
      obtain ⟨c, hc1, hc2⟩ := hk 0 (by omega) (by simp)
      have : c = b := by simpa using hc1.symm
      subst this
      rw [segs_tail c hc2 r h1 t1 e] at hs
      obtain ⟨rfl, rfl⟩ := List.cons.inj hs
      rw [passK, segK, passK_segs r k c h1 t1 e (fun i hi hl => by have := hk (i + 1) (by omega) (by simp; omega); simpa using this), List.getLastD_cons]
    | zero =>
      rw [passK]
      by_cases hb : b = 47
      · rw [segs, if_pos hb, e] at hs
        obtain ⟨rfl, rfl⟩ := List.cons.inj hs
        rw [if_pos hb, passK_segs r 0 47 h1 t1 e (fun i hi => by omega), List.all_cons]
        unfold segB
        cases h1 with
        | nil => simp [segK, endOK]
        | cons c l =>
          have h47 : l.getLastD c ≠ 47 := fun e2 => segs_no47 r (c :: l) (by rw [e]; exact List.mem_cons_self) (by rw [← e2]; exact lastD_mem l c)
          rw [List.getLastD_cons, suf46]
          unfold endOK
          rw [decide_eq_false h47]
          simp only [List.isEmpty_cons, Bool.not_false, Bool.true_and, List.getLastD_nil]
          cases segK 0 (c :: l) <;> cases decide (l.getLastD c = 46) <;> first | (simp [segK]; done) | (simp [segK]; rfl)
      · rw [segs_tail b hb r h1 t1 e] at hs
        obtain ⟨rfl, rfl⟩ := List.cons.inj hs
        rw [if_neg hb, segK, ← toldB_seg b hb r h1 t1 e]
        cases ht : toldB (b :: r) with
        | none =>
          simp only
          rw [passK_segs r 0 b h1 t1 e (fun i hi => by omega), Bool.and_assoc, List.getLastD_cons]
        | some v =>
          simp only
          have hk2 : ∀ i, i < 2 → i < r.length → ∃ c, r[i]? = some c ∧ c ≠ 47 := by
            intro i hi hl
            have hd : ∀ c : UInt8, 0 < digC c.toNat → c ≠ 47 := fun c hc e => by subst e; exact absurd hc (by decide)
            match r, ht with
            | c :: d :: r, ht =>
              have ht' : (if b = 37 ∧ 0 < digC c.toNat ∧ 0 < digC d.toNat then some (16 * (digC c.toNat - 1) + (digC d.toNat - 1)) else none) = some v := ht
              split at ht'
              · rename_i h3
                match i, hi with
                | 0, _ => exact ⟨c, rfl, hd c h3.2.1⟩
                | 1, _ => exact ⟨d, rfl, hd d h3.2.2⟩
              · cases ht'
          rw [passK_segs r 2 b h1 t1 e hk2, Bool.and_assoc, List.getLastD_cons]
end Go.Dn.Pl

/- Names of parts and references to them: plain facts. No program in sight. -/
namespace Go.Dn.Pl
set_option linter.unusedVariables false

theorem segB_first (h : List UInt8) (hn : (47 : UInt8) ∉ h) : (segK 0 h && endOK (h.getLastD 47)) = segB h := by
  unfold segB
  cases h with
  | nil => rfl
  | cons c l =>
    have h47 : l.getLastD c ≠ 47 := fun e2 => hn (by rw [← e2]; exact lastD_mem l c)
    rw [List.getLastD_cons, suf46]
    unfold endOK
    rw [decide_eq_false h47]
    simp only [List.isEmpty_cons, Bool.not_false, Bool.true_and]
    cases segK 0 (c :: l) <;> cases decide (l.getLastD c = 46) <;> rfl
theorem names_pass (r : List UInt8) : (segs r).all segB = passK 0 47 r := by
  cases e : segs r with
  | nil => exact absurd e (segs_ne r)
  | cons h t =>
    rw [passK_segs r 0 47 h t e (fun i hi => by omega), List.all_cons, ← segB_first h (segs_no47 r h (by rw [e]; exact List.mem_cons_self)), Bool.and_assoc]
theorem passK_end (p q : UInt8) (h : endOK p = endOK q) : ∀ s : List UInt8, passK 0 p s = passK 0 q s
  | [] => h
  | b :: r => by rw [passK, passK, h]
theorem told37 {b : UInt8} {r : List UInt8} {v : Nat} (h : toldB (b :: r) = some v) : ∃ c d r2, r = c :: d :: r2 ∧ b = 37 ∧ 0 < digC c.toNat ∧ 0 < digC d.toNat ∧ v = 16 * (digC c.toNat - 1) + (digC d.toNat - 1) := by
  match r, h with
  | c :: d :: r2, h =>
    have h' : (if b = 37 ∧ 0 < digC c.toNat ∧ 0 < digC d.toNat then some (16 * (digC c.toNat - 1) + (digC d.toNat - 1)) else none) = some v := h
    split at h'
    · rename_i h3
      cases h'
      exact ⟨c, d, r2, rfl, h3.1, h3.2.1, h3.2.2, rfl⟩
    · cases h'
theorem told_none {b : UInt8} (h : b ≠ 37) (r : List UInt8) : toldB (b :: r) = none := by
  cases e : toldB (b :: r) with
  | none => rfl
  | some v => obtain ⟨_, _, _, _, h2, _⟩ := told37 e; exact absurd h2 h
theorem sign37 {b : UInt8} (h : signC b.toNat = true) : b ≠ 37 := by
  intro e; subst e; exact absurd h (by decide)
theorem pct_told (v : Nat) (h : v < 256) : ∃ x y, pctB v = [37, x, y] ∧ 0 < digC x.toNat ∧ 0 < digC y.toNat ∧ ∀ z, toldB (37 :: x :: y :: z) = some v := by
  refine ⟨_, _, rfl, ?_⟩
  have := all256 (p := fun v => decide (0 < digC (greatL.getD (v / 16) 0).toNat) && (decide (0 < digC (greatL.getD (v % 16) 0).toNat) && decide (16 * (digC (greatL.getD (v / 16) 0).toNat - 1) + (digC (greatL.getD (v % 16) 0).toNat - 1) = v))) (by decide +kernel) v h
  simp only [Bool.and_eq_true, decide_eq_true_eq] at this
  obtain ⟨a, b, c⟩ := this
  refine ⟨a, b, fun z => ?_⟩
  show (if (37 : UInt8) = 37 ∧ 0 < digC (greatL.getD (v / 16) 0).toNat ∧ 0 < digC (greatL.getD (v % 16) 0).toNat then some (16 * (digC (greatL.getD (v / 16) 0).toNat - 1) + (digC (greatL.getD (v % 16) 0).toNat - 1)) else none) = some v
  rw [if_pos ⟨rfl, a, b⟩, c]
/-- What is a name stays one, as long as it was. -/
theorem norm_pass : ∀ (n : Nat) (s : List UInt8), s.length ≤ n → ∀ p, passK 0 p s = true → passK 0 p (normK 0 s) = true ∧ (normK 0 s).length = s.length
  | 0, [], _, p, h => ⟨h, rfl⟩
  | n + 1, [], _, p, h => ⟨h, rfl⟩
  | n + 1, b :: r, hl, p, h => by
    simp only [List.length_cons] at hl
    rw [passK] at h
    rw [normK]
    by_cases hb : b = 47
    · subst hb
      rw [if_pos rfl, Bool.and_eq_true] at h
      obtain ⟨i1, i2⟩ := norm_pass n r (by omega) 47 h.2
      rw [told_none (by decide)]
      simp only
      rw [show (signC (47 : UInt8).toNat || decide ((47 : UInt8).toNat = 47)) = true by decide, if_pos rfl]
      refine ⟨?_, by simp [i2]⟩
      show passK 0 p (47 :: normK 0 r) = true
      rw [passK, if_pos rfl, h.1, i1]; rfl
    · rw [if_neg hb] at h
      cases ht : toldB (b :: r) with
      | some v =>
        rw [ht] at h
        simp only [Bool.and_eq_true] at h
        obtain ⟨c, d, r2, rfl, rfl, hc, hd, _⟩ := told37 ht
        have hv := toldB_lt ht
        have hpl : plainC v = false := by
          have := h.1
          unfold tellBad at this
          cases e : plainC v with
          | false => rfl
          | true => rw [e] at this; simp at this
        obtain ⟨x, y, hx1, hx2, hx3, hx4⟩ := pct_told v hv
        simp only [hpl, Bool.false_eq_true, if_false, hx1]
        simp only [List.length_cons] at hl
        obtain ⟨i1, i2⟩ := norm_pass n r2 (by omega) d h.2
        refine ⟨?_, ?_⟩
        · show passK 0 p (37 :: x :: y :: normK 0 r2) = true
          rw [passK, if_neg (by decide), hx4]
          simp only
          rw [h.1, Bool.true_and]
          show passK 0 y (normK 0 r2) = true
          rw [passK_end y d (by rw [endOK_dig y hx3, endOK_dig d hd])]
          exact i1
        · show (37 :: x :: y :: normK 0 r2).length = _
          simp [i2]
      | none =>
        rw [ht] at h
        simp only [Bool.and_eq_true] at h
        obtain ⟨i1, i2⟩ := norm_pass n r (by omega) b h.2
        simp only [h.1, Bool.true_or, if_true]
        refine ⟨?_, by simp [i2]⟩
        show passK 0 p (b :: normK 0 r) = true
        rw [passK, if_neg hb, told_none (sign37 h.1)]
        simp only
        rw [h.1, i1]; rfl
theorem nameB_cons {s : List UInt8} (h : nameB s = true) : ∃ r, s = 47 :: r ∧ passK 0 47 r = true ∧ 1 ≤ r.length ∧ r.length ≤ 254 := by
  unfold nameB at h
  rw [Bool.and_eq_true, Bool.and_eq_true, Bool.and_eq_true, decide_eq_true_eq, decide_eq_true_eq] at h
  obtain ⟨⟨⟨a, b⟩, c⟩, d⟩ := h
  have e := prefix1 a
  rw [names_pass] at d
  refine ⟨s.drop 1, e, d, ?_, ?_⟩ <;> simp <;> omega
theorem nameB_mk {r : List UInt8} (h : passK 0 47 r = true) (h1 : 1 ≤ r.length) (h2 : r.length ≤ 254) : nameB (47 :: r) = true := by
  unfold nameB
  rw [show (47 :: r).drop 1 = r from rfl, names_pass, h, decide_eq_true (by simp; omega), decide_eq_true (by simp; omega)]; rfl
theorem norm_slash (r : List UInt8) : normK 0 (47 :: r) = 47 :: normK 0 r := by
  rw [normK, told_none (by decide)]
  rfl
/-- A name's text as a name may have it is a name. -/
theorem norm_name {a : List UInt8} (h : nameB a = true) : normB a = (normK 0 a, true) := by
  obtain ⟨r, rfl, h1, h2, h3⟩ := nameB_cons h
  obtain ⟨i1, i2⟩ := norm_pass r.length r (Nat.le_refl _) 47 h1
  unfold normB
  rw [norm_slash, if_pos (nameB_mk i1 (by omega) (by omega))]
/-! ### Dots -/
theorem dotFold_id : ∀ (l out : List (List UInt8)), (∀ x, x ∈ l → isDot x = false) → l.foldl dotStep out = out ++ l
  | [], out, _ => by simp
  | x :: l, out, h => by
    have hx := h x List.mem_cons_self
    unfold isDot at hx
    rw [Bool.or_eq_false_iff, decide_eq_false_iff_not, decide_eq_false_iff_not] at hx
    rw [List.foldl_cons, dotFold_id l _ (fun y hy => h y (List.mem_cons_of_mem _ hy))]
    unfold dotStep
    rw [if_neg hx.1, if_neg hx.2]; simp
theorem dotsL_id {l : List (List UInt8)} (h : ∀ x, x ∈ l → isDot x = false) (hl : l ≠ []) : dotsL l = l := by
  unfold dotsL
  rw [dotFold_id l [] h, List.nil_append]
  have : isDot (l.getLastD []) = false := by
    rw [List.getLastD_eq_getLast?, List.getLast?_eq_some_getLast hl]
    exact h _ (List.getLast_mem hl)
  rw [this]; simp
theorem segB_dot {x : List UInt8} (h : segB x = true) : isDot x = false := by
  cases e : isDot x with
  | false => rfl
  | true =>
    unfold isDot at e
    rw [Bool.or_eq_true, decide_eq_true_eq, decide_eq_true_eq] at e
    rcases e with rfl | rfl <;> exact absurd h (by decide)
theorem dotsP_name {a : List UInt8} (h : nameB a = true) : dotsP a = a := by
  obtain ⟨r, rfl, h1, h2, h3⟩ := nameB_cons h
  rw [← names_pass, List.all_eq_true] at h1
  unfold dotsP
  rw [show (47 :: r).drop 1 = r from rfl, dotsL_id (fun x hx => segB_dot (h1 x hx)) (segs_ne r), joinS_segs]
/-! ### The law IriWhole -/
theorem cutB_cons (c : Nat) (b : UInt8) (r : List UInt8) (h : (b.toNat == c) = false) : (cutB c (b :: r)).1 = b :: (cutB c r).1 := by
  unfold cutB
  rw [List.findIdx_cons, h]
  simp only [cond_false, List.length_cons]
  by_cases h2 : r.findIdx (fun b => b.toNat == c) < r.length
  · rw [if_pos h2, if_pos (by omega)]; rfl
  · rw [if_neg h2, if_neg (by omega)]
theorem pcOf_slash (r : List UInt8) : (pcOf (47 :: r)).hs = false ∧ ((pcOf (47 :: r)).ha = false → (pcOf (47 :: r)).pa.head? = some 47 ∧ ∀ q, [47, 47].isPrefixOf (47 :: r) = q → q = false) := by
  have c1 : cut1 (47 :: r) = ([], false, 47 :: r) := by
    unfold cut1
    have : aheadB [58, 47, 63, 35] (47 :: r) = ([], 47 :: r) := by
      unfold aheadB
      rw [List.findIdx_cons, show has (47 : UInt8).toNat [58, 47, 63, 35] = true from rfl]; rfl
    rw [this]; rfl
  unfold pcOf
  rw [c1]
  simp only
  refine ⟨trivial, fun h => ?_⟩
  unfold cut2 at h ⊢
  cases e : ([47, 47] : List UInt8).isPrefixOf (47 :: r) with
  | true => rw [e] at h; cases h
  | false =>
    simp only [Bool.false_eq_true, if_false]
    refine ⟨?_, fun q hq => hq.symm⟩
    unfold cut3
    simp only
    rw [cutB_cons 35 47 r rfl, cutB_cons 63 47 _ rfl]; rfl
theorem pathB_slash (base pa : List UInt8) (h : pa.head? = some 47) : pathB base pa = pa := by
  unfold pathB
  rw [if_neg (by rintro rfl; cases h), if_pos h]
theorem whole1 (a b r : List UInt8) : iriTarget (47 :: a) (47 :: r) = iriTarget (47 :: b) (47 :: r) := by
  have key : iriResolve (47 :: a) (47 :: r) = iriResolve (47 :: b) (47 :: r) := by
    unfold iriResolve iriCut
    cases iriRight (47 :: r) with
    | false => rfl
    | true =>
      simp only [if_true]
      obtain ⟨h1, h2⟩ := pcOf_slash r
      have p1 : ∀ x : List UInt8, ([47] : List UInt8).isPrefixOf (47 :: x) = true := fun x => rfl
      rw [h1, p1, p1]
      cases e : (pcOf (47 :: r)).ha with
      | true => rfl
      | false => rw [pathB_slash _ _ (h2 e).1, pathB_slash _ _ (h2 e).1]
  unfold iriTarget
  rw [key]
theorem cut_hash_f : iriCut [35, 102] = ({ fr := [102], hf := true }, true) := by rfl
theorem whole2 {a : List UInt8} (h : nameB a = true) : (normB a).2 = true ∧ iriTarget a [35, 102] = ((normB a).1, [102], 0) := by
  have hn := norm_name h
  refine ⟨by rw [hn], ?_⟩
  obtain ⟨r, rfl, _⟩ := nameB_cons h
  unfold iriTarget iriResolve
  rw [cut_hash_f]
  have : pathB (47 :: r) [] = 47 :: r := rfl
  simp only [if_true, show ([47] : List UInt8).isPrefixOf (47 :: r) = true from rfl, Bool.not_true, Bool.or_false, Bool.false_eq_true, if_false, this, dotsP_name h, hn]
end Go.Dn.Pl

/- Segments put together anew; paths without dots: plain facts. An own slice's last cell. -/
namespace Go.Dn.Pl
open M
set_option linter.unusedVariables false

/-- Segments, of which the first has begun. -/
def segsAcc (cur s : List UInt8) : List (List UInt8) := match segs s with
  | h :: t => (cur ++ h) :: t
  | [] => [cur]
theorem segsAcc_nil (s : List UInt8) : segsAcc [] s = segs s := by
  unfold segsAcc
  cases e : segs s with
  | nil => exact absurd e (segs_ne s)
  | cons h t => rfl
theorem segsAcc_slash (cur r : List UInt8) : segsAcc cur (47 :: r) = cur :: segs r := by
  unfold segsAcc
  rw [segs, if_pos rfl]
  simp
theorem segsAcc_cons (cur r : List UInt8) (b : UInt8) (hb : b ≠ 47) : segsAcc cur (b :: r) = segsAcc (cur ++ [b]) r := by
  unfold segsAcc
  rw [segs, if_neg hb]
  cases e : segs r with
  | nil => exact absurd e (segs_ne r)
  | cons h t => simp
theorem SlZ.last {H : Heap} {e : TypeId} {m n : Nat} {cs : List AV} {x buf : AV} (h : SlZ H e m n (cs ++ [x]) buf) : ∃ r row, (∀ k, ixp 1 buf (.int k (cs.length : Int)) = M.ret (.ptr (some (r, cs.length)))) ∧ H.get r = some (.row row e (.own 0)) ∧ row[cs.length]? = some x ∧ cs.length < row.length ∧ m ≤ r ∧ r < n ∧ ∀ y, SlZ (H.set r (.row (row.set cs.length y) e (.own 0))) e m n (cs ++ [y]) buf := by
  rcases h with ⟨_, h⟩ | ⟨r, kc, row, rfl, h2, h3, h4, h5, h6, h8, h9⟩
  · simp at h
  · rw [List.length_append, List.length_singleton] at h5 h6
    have hx : row[cs.length]? = some x := by
      have := congrArg (·[cs.length]?) h6
      simpa using this
    refine ⟨r, row, fun k => ?_, h3, hx, by omega, h8, h9, fun y => .inr ⟨r, kc, _, by simp, h2, get_set_same _ _ _, by simp [h4], by simpa using h5, ?_, h8, h9⟩⟩
    · rw [ixp_nat _ _ _ _ _ _ _ _ (by simp)]; simp
    · rw [List.length_append, List.length_singleton, List.take_set]
      rw [h6]
      simp
/-! ### Paths without dots -/
theorem dotFold_mem : ∀ (l out : List (List UInt8)) (x : List UInt8), x ∈ l.foldl dotStep out → x ∈ out ∨ (x ∈ l ∧ isDot x = false)
  | [], out, x, h => .inl h
  | y :: l, out, x, h => by
    rw [List.foldl_cons] at h
    rcases dotFold_mem l _ x h with h | ⟨h1, h2⟩
    · unfold dotStep at h
      split at h
      · exact .inl h
      · rename_i h3
        split at h
        · exact .inl (List.dropLast_subset out h)
        · rename_i h4
          rcases List.mem_append.1 h with h | h
          · exact .inl h
          · have : x = y := by simpa using h
            subst this
            exact .inr ⟨List.mem_cons_self, by unfold isDot; simp [h3, h4]⟩
    · exact .inr ⟨List.mem_cons_of_mem _ h1, h2⟩
theorem dotsL_mem {l : List (List UInt8)} {x : List UInt8} (h : x ∈ dotsL l) : (x = [] ∨ x ∈ l) ∧ isDot x = false := by
  unfold dotsL at h
  rcases List.mem_append.1 h with h | h
  · rcases dotFold_mem l [] x h with h | ⟨h1, h2⟩
    · cases h
    · exact ⟨.inr h1, h2⟩
  · split at h
    · have : x = [] := by simpa using h
      subst this
      exact ⟨.inl rfl, rfl⟩
    · cases h
theorem segs_app (x : List UInt8) (hx : (47 : UInt8) ∉ x) (s : List UInt8) : segs (x ++ 47 :: s) = x :: segs s := by
  induction x with
  | nil => rw [List.nil_append, segs, if_pos rfl]
  | cons b r ih =>
    simp only [List.mem_cons, not_or] at hx
    rw [List.cons_append, segs, if_neg (fun e => hx.1 e.symm), ih hx.2]
theorem segs_one (x : List UInt8) (hx : (47 : UInt8) ∉ x) : segs x = [x] := by
  induction x with
  | nil => rfl
  | cons b r ih =>
    simp only [List.mem_cons, not_or] at hx
    rw [segs, if_neg (fun e => hx.1 e.symm), ih hx.2]
theorem segs_join : ∀ l : List (List UInt8), (∀ x, x ∈ l → (47 : UInt8) ∉ x) → segs (joinS l) = if l = [] then [[]] else l
  | [], h => rfl
  | [x], h => by rw [joinS, segs_one x (h x (by simp))]; rfl
  | x :: y :: l, h => by
    rw [joinS, segs_app x (h x (by simp)), segs_join (y :: l) (fun z hz => h z (List.mem_cons_of_mem _ hz))]; simp
/-- The segments of a path that has been freed of its dots. -/
theorem segs_dotsP (q : List UInt8) : ∃ L : List (List UInt8), L ≠ [] ∧ segs (dotsP q) = [] :: L ∧ (∀ x, x ∈ L → isDot x = false) ∧ (dotsP q).drop 1 = joinS L ∧ segs ((dotsP q).drop 1) = L := by
  have hm : ∀ x, x ∈ dotsL (segs (q.drop 1)) → (47 : UInt8) ∉ x := fun x hx => by
    rcases (dotsL_mem hx).1 with rfl | h
    · simp
    · exact segs_no47 _ x h
  have hj := segs_join (dotsL (segs (q.drop 1))) hm
  unfold dotsP
  refine ⟨segs (joinS (dotsL (segs (q.drop 1)))), segs_ne _, by rw [segs, if_pos rfl], fun x hx => ?_, by rw [joinS_segs]; rfl, rfl⟩
  rw [hj] at hx
  split at hx
  · have : x = [] := by simpa using hx
    rw [this]; rfl
  · exact (dotsL_mem hx).2
theorem dotsP_twice (q : List UInt8) : dotsP (dotsP q) = dotsP q := by
  obtain ⟨L, h1, h2, h3, h4, h5⟩ := segs_dotsP q
  have : dotsP (dotsP q) = 47 :: joinS (dotsL (segs ((dotsP q).drop 1))) := rfl
  rw [this, h5, dotsL_id h3 h1, ← h4]
  rfl
theorem findIdx_none (c : Nat) (s : List UInt8) (h : has c s = false) : s.findIdx (fun b => b.toNat == c) = s.length := by
  rw [List.findIdx_eq_length]
  intro x hx
  unfold has at h
  rw [List.any_eq_false] at h
  simpa using h x hx
theorem cutB_has (c : Nat) (s : List UInt8) (h : has c s = false) : cutB c s = (s, [], false) := by
  unfold cutB
  rw [findIdx_none c s h, if_neg (by omega)]
/-- A path is a reference by itself. -/
theorem cut_path (x : List UInt8) (hr : iriRight (47 :: x) = true) (h1 : x.head? ≠ some 47) (h2 : has 63 (47 :: x) = false) (h3 : has 35 (47 :: x) = false) : iriCut (47 :: x) = ({ pa := 47 :: x }, true) := by
  unfold iriCut
  rw [hr]
  have c1 : cut1 (47 :: x) = ([], false, 47 :: x) := by
    unfold cut1
    have : aheadB [58, 47, 63, 35] (47 :: x) = ([], 47 :: x) := by
      unfold aheadB
      rw [List.findIdx_cons, show has (47 : UInt8).toNat [58, 47, 63, 35] = true from rfl]; rfl
    rw [this]; rfl
  have c2 : cut2 (47 :: x) = ([], false, 47 :: x) := by
    unfold cut2
    have : ([47, 47] : List UInt8).isPrefixOf (47 :: x) = false := by
      cases x with
      | nil => rfl
      | cons b r =>
        rw [List.isPrefixOf_cons_cons, List.isPrefixOf_cons_cons]
        have : ((47 : UInt8) == b) = false := by
          rw [Bool.eq_false_iff]; intro e; exact h1 (by simp at e; rw [← e]; rfl)
        rw [this]; rfl
    rw [this]; rfl
  have c3 : cut3 (47 :: x) = (47 :: x, [], false, [], false) := by
    unfold cut3
    rw [cutB_has 35 _ h3]
    simp only
    rw [cutB_has 63 _ h2]
  simp only [if_true]
  unfold pcOf
  rw [c1]
  simp only
  rw [c2]
  simp only
  rw [c3]
theorem resolve_path (q x : List UInt8) (hq : dotsP q = 47 :: x) (hr : iriRight (47 :: x) = true) (h1 : x.head? ≠ some 47) (h2 : has 63 (47 :: x) = false) (h3 : has 35 (47 :: x) = false) : iriResolve [47] (47 :: x) = ({ pa := 47 :: x }, 0) := by
  unfold iriResolve
  rw [cut_path x hr h1 h2 h3]
  simp only [if_true]
  have : pathB [47] (47 :: x) = 47 :: x := pathB_slash _ _ rfl
  rw [this, ← hq, dotsP_twice]
  rfl
/-- What a call leaves as it was. -/
theorem Lc.step {gs : List AObj} {m : Nat} {H0 : Heap} {i : Nat} {cs : List AV} {e : TypeId} {ro : List (Nat × AObj)} {H H1 : Heap} {n n1 : Nat} (h : Lc gs m H0 i cs e ro H n) (f1 : Fr n H n1 H1) : Lc gs m H0 i cs e ro H1 n1 :=
  ⟨h.ok.fr f1, h.fr.then f1, by rw [f1.keep i h.hi]; exact h.row, h.lo, by have := f1.le; have := h.hi; omega, fun p hp => (by
    obtain ⟨a, b, c⟩ := h.oth p hp
    exact ⟨by have := f1.le; omega, b, by rw [f1.keep _ a]; exact c⟩), h.hg⟩
theorem resolve_err {base s : List UInt8} (h : (iriResolve base s).2 ≠ 0) : (iriResolve base s).1 = {} := by
  unfold iriResolve at h ⊢
  split
  · rename_i h1
    rw [if_pos h1] at h
    split
    · rfl
    · rename_i h2
      rw [if_neg h2] at h
      exact absurd rfl h
  · rfl
theorem resolve_ok {base s : List UInt8} (h : (iriResolve base s).2 = 0) : ∃ q, (iriResolve base s).1.pa = dotsP q := by
  unfold iriResolve at h ⊢
  split
  · rename_i h1
    rw [if_pos h1] at h
    split
    · rename_i h2
      rw [if_pos h2] at h
      cases h
    · exact ⟨_, rfl⟩
  · rename_i h1
    rw [if_neg h1] at h
    cases h
end Go.Dn.Pl

/- The reference from one part to another: plain. No program in sight. -/
namespace Go.Dn.Pl
set_option linter.unusedVariables false

/-- What two lists begin with alike is left out; one of each is kept. -/
def relCut : List (List UInt8) → List (List UInt8) → List (List UInt8) × List (List UInt8)
  | a :: a2 :: f, b :: b2 :: t => if a = b then relCut (a2 :: f) (b2 :: t) else (a :: a2 :: f, b :: b2 :: t)
  | f, t => (f, t)
theorem relCut_len : ∀ f t : List (List UInt8), 1 ≤ f.length → 1 ≤ t.length → 1 ≤ (relCut f t).1.length ∧ (relCut f t).1.length ≤ f.length ∧ 1 ≤ (relCut f t).2.length ∧ (relCut f t).2.length ≤ t.length ∧ (relCut f t).2.flatten.length ≤ t.flatten.length
  | a :: a2 :: f, b :: b2 :: t, h1, h2 => by
    unfold relCut
    split
    · have := relCut_len (a2 :: f) (b2 :: t) (by simp) (by simp)
      simp only [List.length_cons, List.flatten_cons, List.length_append] at this ⊢
      omega
    · exact ⟨by simp, Nat.le_refl _, by simp, Nat.le_refl _, Nat.le_refl _⟩
  | [a], t, h1, h2 => by
    have : relCut [a] t = ([a], t) := by unfold relCut; rfl
    rw [this]; exact ⟨by simp, Nat.le_refl _, h2, Nat.le_refl _, Nat.le_refl _⟩
  | a :: a2 :: f, [b], h1, h2 => by
    have : relCut (a :: a2 :: f) [b] = (a :: a2 :: f, [b]) := by unfold relCut; rfl
    rw [this]; exact ⟨by simp, Nat.le_refl _, by simp, Nat.le_refl _, Nat.le_refl _⟩
/-- The way up. -/
def upsB (k : Nat) : List UInt8 := (List.replicate k [46, 46, 47]).flatten
/-- The text of a way: so many up, and then on. -/
def wayB (f t : List (List UInt8)) : List UInt8 := upsB (f.length - 1) ++ joinS t
/-- A reference that leads to a part. -/
def relB (source name : List UInt8) : List UInt8 :=
  if (decide (source = [47]) || nameB source) && nameB name then
    if has 58 (cutB 47 (wayB (relCut (segs (source.drop 1)) (segs (name.drop 1))).1 (relCut (segs (source.drop 1)) (segs (name.drop 1))).2)).1 then 46 :: 47 :: wayB (relCut (segs (source.drop 1)) (segs (name.drop 1))).1 (relCut (segs (source.drop 1)) (segs (name.drop 1))).2
    else wayB (relCut (segs (source.drop 1)) (segs (name.drop 1))).1 (relCut (segs (source.drop 1)) (segs (name.drop 1))).2
  else []
end Go.Dn.Pl

/- A reference from a part to a part leads there: plain facts. No program in sight. -/
namespace Go.Dn.Pl
set_option linter.unusedVariables false

theorem relCut_spec : ∀ F T : List (List UInt8), ∃ c, F = c ++ (relCut F T).1 ∧ T = c ++ (relCut F T).2
  | a :: a2 :: f, b :: b2 :: t => by
    rw [relCut]
    by_cases h : a = b
    · rw [if_pos h]
      obtain ⟨c, h1, h2⟩ := relCut_spec (a2 :: f) (b2 :: t)
      exact ⟨a :: c, by rw [List.cons_append, ← h1], by rw [List.cons_append, ← h2, h]⟩
    · rw [if_neg h]; exact ⟨[], rfl, rfl⟩
  | [], t => ⟨[], by unfold relCut; rfl, by unfold relCut; rfl⟩
  | [a], t => ⟨[], by unfold relCut; rfl, by unfold relCut; rfl⟩
  | a :: a2 :: f, [] => ⟨[], by unfold relCut; rfl, by unfold relCut; rfl⟩
  | a :: a2 :: f, [b] => ⟨[], by unfold relCut; rfl, by unfold relCut; rfl⟩
/-! ### The bytes of a name -/
/-- A byte that a reference's path may have. -/
def pathC (c : Nat) : Bool := !badR c && (!decide (c = 35) && !decide (c = 63))
theorem sign_path {c : Nat} (h : c < 256) (hs : signC c = true) : pathC c = true ∧ c ≠ 37 := by
  have := all256 (p := fun c => !signC c || (pathC c && !decide (c = 37))) (by decide +kernel) c h
  rw [hs] at this
  simpa using this
theorem dig_path {c : Nat} (h : c < 256) (hs : 0 < digC c) : pathC c = true ∧ c ≠ 37 ∧ hexB c = true := by
  have := all256 (p := fun c => decide (digC c = 0) || (pathC c && (!decide (c = 37) && hexB c))) (by decide +kernel) c h
  rw [decide_eq_false (by omega)] at this
  simpa [Bool.and_assoc] using this
theorem pass_right : ∀ (n : Nat) (s : List UInt8), s.length ≤ n → ∀ p, passK 0 p s = true → rightR s = true ∧ s.all fun b => pathC b.toNat
  | _, [], _, p, h => ⟨rfl, rfl⟩
  | n + 1, b :: r, hl, p, h => by
    simp only [List.length_cons] at hl
    rw [passK] at h
    have bad : ∀ c : UInt8, pathC c.toNat = true → badR c.toNat = false := fun c hc => by
      unfold pathC at hc
      cases e : badR c.toNat with
      | false => rfl
      | true => rw [e] at hc; simp at hc
    have n37 : ∀ c : UInt8, c.toNat ≠ 37 → decide (c.toNat = 37) = false := fun c hc => decide_eq_false hc
    by_cases hb : b = 47
    · subst hb
      rw [if_pos rfl, Bool.and_eq_true] at h
      obtain ⟨i1, i2⟩ := pass_right n r (by omega) 47 h.2
      rw [List.all_cons, i2]
      unfold rightR
      rw [i1]
      exact ⟨rfl, rfl⟩
    · rw [if_neg hb] at h
      cases ht : toldB (b :: r) with
      | some v =>
        rw [ht] at h
        simp only [Bool.and_eq_true] at h
        obtain ⟨c, d, r2, rfl, rfl, hc, hd, _⟩ := told37 ht
        simp only [List.length_cons] at hl
        obtain ⟨i1, i2⟩ := pass_right n r2 (by omega) d h.2
        obtain ⟨c1, c2, c3⟩ := dig_path (toNat_lt c) hc
        obtain ⟨d1, d2, d3⟩ := dig_path (toNat_lt d) hd
        refine ⟨?_, ?_⟩
        · unfold rightR
          unfold rightR
          unfold rightR
          rw [bad c c1, bad d d1, n37 c c2, n37 d d2, i1]
          have : pctOK (c :: d :: r2) = true := by
            show (hexB c.toNat && hexB d.toNat) = true
            rw [c3, d3]; rfl
          rw [this]
          rfl
        · rw [List.all_cons, List.all_cons, List.all_cons, i2, c1, d1]; decide
      | none =>
        rw [ht] at h
        simp only [Bool.and_eq_true] at h
        obtain ⟨i1, i2⟩ := pass_right n r (by omega) b h.2
        obtain ⟨c1, c2⟩ := sign_path (toNat_lt b) h.1
        refine ⟨?_, by rw [List.all_cons, i2, c1]; rfl⟩
        unfold rightR
        rw [bad b c1, n37 b c2, i1]; rfl
theorem path_has (s : List UInt8) (h : (s.all fun b => pathC b.toNat) = true) : has 35 s = false ∧ has 63 s = false := by
  rw [List.all_eq_true] at h
  constructor
  · unfold has
    rw [List.any_eq_false]
    intro x hx
    have := h x hx
    unfold pathC at this
    intro e
    rw [beq_iff_eq] at e
    rw [e] at this
    revert this; decide
  · unfold has
    rw [List.any_eq_false]
    intro x hx
    have := h x hx
    unfold pathC at this
    intro e
    rw [beq_iff_eq] at e
    rw [e] at this
    revert this; decide
theorem right_suffix : ∀ (x y : List UInt8), rightR (x ++ y) = true → rightR y = true
  | [], y, h => h
  | b :: x, y, h => by
    rw [List.cons_append] at h
    unfold rightR at h
    rw [Bool.and_eq_true] at h
    exact right_suffix x y h.2
theorem joinS_app : ∀ (c t : List (List UInt8)), t ≠ [] → ∃ x, joinS (c ++ t) = x ++ joinS t
  | [], t, h => ⟨[], rfl⟩
  | [a], b :: t, h => ⟨a ++ [47], by simp [joinS]⟩
  | a :: a2 :: c, t, h => by
    obtain ⟨x, hx⟩ := joinS_app (a2 :: c) t h
    refine ⟨a ++ 47 :: x, ?_⟩
    rw [List.cons_append, List.cons_append, joinS]
    rw [List.cons_append] at hx
    rw [hx]; simp
/-! ### The way is a reference -/
theorem no_scheme : ∀ r : List UInt8, has 58 (cutB 47 r).1 = false → ([58] : List UInt8).isPrefixOf (r.drop (r.findIdx fun b => has b.toNat [58, 47, 63, 35])) = false
  | [], h => rfl
  | b :: r, h => by
    rw [List.findIdx_cons]
    cases e : has b.toNat [58, 47, 63, 35] with
    | true =>
      simp only [cond_true, List.drop_zero]
      rw [List.isPrefixOf_cons_cons]
      have : ((58 : UInt8) == b) = false := by
        rw [Bool.eq_false_iff]
        intro e2
        have e2 : (58 : UInt8) = b := by simpa using e2
        subst e2
        rw [cutB_cons 47 58 r rfl] at h
        unfold has at h
        rw [List.any_cons] at h
        exact absurd h (by simp)
      rw [this]; rfl
    | false =>
      simp only [cond_false, List.drop_succ_cons]
      have h47 : (b.toNat == 47) = false := by
        rw [Bool.eq_false_iff]
        intro e2
        rw [beq_iff_eq] at e2
        rw [e2] at e
        revert e; decide
      rw [cutB_cons 47 b r h47] at h
      unfold has at h
      rw [List.any_cons, Bool.or_eq_false_iff] at h
      exact no_scheme r h.2
/-- A path that does not begin with a slash, as a reference. -/
theorem cut_rel (r : List UInt8) (hr : iriRight r = true) (h0 : r ≠ []) (h1 : r.head? ≠ some 47) (h2 : has 63 r = false) (h3 : has 35 r = false) (h4 : has 58 (cutB 47 r).1 = false) : iriCut r = ({ pa := r }, true) := by
  unfold iriCut
  rw [hr]
  have c1 : cut1 r = ([], false, r) := by
    unfold cut1
    have : ([58] : List UInt8).isPrefixOf (aheadB [58, 47, 63, 35] r).2 = false := no_scheme r h4
    rw [this]; rfl
  have c2 : cut2 r = ([], false, r) := by
    unfold cut2
    have : ([47, 47] : List UInt8).isPrefixOf r = false := by
      cases r with
      | nil => rfl
      | cons b r =>
        rw [List.isPrefixOf_cons_cons]
        have : ((47 : UInt8) == b) = false := by
          rw [Bool.eq_false_iff]; intro e; exact h1 (by have e : (47 : UInt8) = b := by simpa using e
                                                        rw [← e]; rfl)
        rw [this]; rfl
    rw [this]; rfl
  have c3 : cut3 r = (r, [], false, [], false) := by
    unfold cut3
    rw [cutB_has 35 _ h3]
    simp only
    rw [cutB_has 63 _ h2]
  simp only [if_true]
  unfold pcOf
  rw [c1]
  simp only
  rw [c2]
  simp only
  rw [c3]
/-! ### The way back -/
theorem lsUpto_at (s : List UInt8) (j : Nat) (h1 : 1 ≤ j) (h2 : s[j - 1]? = some 47) : ∀ k, j ≤ k → (∀ i, j ≤ i → i < k → s[i]? ≠ some 47) → lsUpto s k = j
  | 0, h, _ => by omega
  | k + 1, h, hn => by
    unfold lsUpto
    by_cases e : j = k + 1
    · subst e
      rw [if_pos (by simpa using h2)]
    · rw [if_neg (hn k (by omega) (by omega))]
      exact lsUpto_at s j h1 h2 k (by omega) fun i a b => hn i a (by omega)
theorem dirB_app (x l : List UInt8) (hl : (47 : UInt8) ∉ l) : dirB (x ++ 47 :: l) = x ++ [47] := by
  unfold dirB
  have : lsUpto (x ++ 47 :: l) (x ++ 47 :: l).length = x.length + 1 := by
    refine lsUpto_at _ (x.length + 1) (by omega) (by simp) _ (by simp) fun i h1 h2 e => ?_
    rw [List.getElem?_append_right (by omega)] at e
    obtain ⟨j, hj⟩ : ∃ j, i - x.length = j + 1 := ⟨i - x.length - 1, by omega⟩
    rw [hj, List.getElem?_cons_succ] at e
    exact hl (List.mem_of_getElem? e)
  rw [this, List.take_append]
  simp
  exact List.take_of_length_le (by omega)
/-- Segments, each with its slash. -/
def flatS (D : List (List UInt8)) : List UInt8 := (D.map fun x => x ++ [47]).flatten
theorem flatS_cons (x : List UInt8) (D : List (List UInt8)) : flatS (x :: D) = x ++ 47 :: flatS D := by simp [flatS]
theorem joinS_last : ∀ (D : List (List UInt8)) (l : List UInt8), joinS (D ++ [l]) = flatS D ++ l
  | [], l => rfl
  | [x], l => by simp [joinS, flatS]
  | x :: y :: D, l => by
    have := joinS_last (y :: D) l
    rw [List.cons_append, List.cons_append, joinS, flatS_cons]
    rw [List.cons_append] at this
    rw [this]; simp
theorem segs_flat : ∀ (D : List (List UInt8)), (∀ x, x ∈ D → (47 : UInt8) ∉ x) → ∀ y, segs (flatS D ++ y) = D ++ segs y
  | [], _, y => rfl
  | x :: D, h, y => by
    rw [flatS_cons, List.append_assoc, List.cons_append, segs_app x (h x (by simp)), segs_flat D (fun z hz => h z (List.mem_cons_of_mem _ hz)) y]; rfl
theorem dir_segs (s r : List UInt8) : segs ((dirB (47 :: s) ++ r).drop 1) = (segs s).dropLast ++ segs r := by
  have hne := segs_ne s
  have hs : s = flatS (segs s).dropLast ++ (segs s).getLast hne := by
    rw [← joinS_last, List.dropLast_concat_getLast hne, joinS_segs]
  have hl : (47 : UInt8) ∉ (segs s).getLast hne := segs_no47 s _ (List.getLast_mem hne)
  have hd : ∀ x, x ∈ (segs s).dropLast → (47 : UInt8) ∉ x := fun x hx => segs_no47 s x (List.dropLast_subset _ hx)
  have key : dirB (47 :: s) = 47 :: flatS (segs s).dropLast := by
    generalize (segs s).dropLast = D at hs
    generalize (segs s).getLast hne = l at hs hl
    subst hs
    rcases List.eq_nil_or_concat D with rfl | ⟨D, x, rfl⟩
    · have := dirB_app [] l hl
      simpa [flatS] using this
    · have e : flatS (D ++ [x]) = flatS D ++ x ++ [47] := by simp [flatS]
      have := dirB_app (47 :: (flatS D ++ x)) l hl
      rw [List.concat_eq_append, e]
      simpa using this
  rw [key, List.cons_append, List.drop_succ_cons, List.drop_zero, segs_flat _ hd]
theorem pops : ∀ (k : Nat) (out : List (List UInt8)), (List.replicate k ([46, 46] : List UInt8)).foldl dotStep out = out.take (out.length - k)
  | 0, out => by simp
  | k + 1, out => by
    rw [List.replicate_succ, List.foldl_cons, pops k]
    have : dotStep out [46, 46] = out.dropLast := by unfold dotStep; rw [if_neg (by decide), if_pos rfl]
    rw [this, List.dropLast_eq_take, List.take_take, List.length_take]
    congr 1
    omega
theorem segs_ups : ∀ (k : Nat) (y : List UInt8), segs (upsB k ++ y) = List.replicate k [46, 46] ++ segs y
  | 0, y => rfl
  | k + 1, y => by
    have : upsB (k + 1) ++ y = [46, 46] ++ 47 :: (upsB k ++ y) := by
      unfold upsB
      rw [List.replicate_succ, List.flatten_cons]; simp
    rw [this, segs_app [46, 46] (by decide), segs_ups k y, List.replicate_succ]; rfl
/-! ### The law IriBack -/
theorem nonempty_len : ∀ l : List (List UInt8), (∀ x, x ∈ l → x ≠ []) → 2 * l.length ≤ (joinS l).length + 1
  | [], _ => by simp [joinS]
  | [x], h => by
    have := List.length_pos_iff.2 (h x (by simp))
    simp [joinS]; omega
  | x :: y :: l, h => by
    have := List.length_pos_iff.2 (h x (by simp))
    have := nonempty_len (y :: l) fun z hz => h z (List.mem_cons_of_mem _ hz)
    rw [joinS]
    simp only [List.length_append, List.length_cons] at this ⊢
    omega
theorem segB_ne {x : List UInt8} (h : segB x = true) : x ≠ [] := by rintro rfl; cases h
/-- The folding of a way's segments. -/
theorem way_fold (c fd t : List (List UInt8)) (hc : ∀ x, x ∈ c ++ fd → isDot x = false) (ht : ∀ x, x ∈ t → isDot x = false) (hne : t ≠ []) (pre : List (List UInt8)) (hp : pre = [] ∨ pre = [[46]]) : dotsL ((c ++ fd) ++ (pre ++ (List.replicate fd.length [46, 46] ++ t))) = c ++ t := by
  unfold dotsL
  rw [List.foldl_append, dotFold_id (c ++ fd) [] hc, List.nil_append, List.foldl_append, List.foldl_append]
  have h1 : pre.foldl dotStep (c ++ fd) = c ++ fd := by
    rcases hp with rfl | rfl
    · rfl
    · show dotStep (c ++ fd) [46] = c ++ fd
      unfold dotStep; rw [if_pos rfl]
  rw [h1, pops, show (c ++ fd).take ((c ++ fd).length - fd.length) = c by rw [List.length_append, Nat.add_sub_cancel, List.take_left'] ; rfl, dotFold_id t c ht]
  have : isDot (((c ++ fd) ++ (pre ++ (List.replicate fd.length [46, 46] ++ t))).getLastD []) = false := by
    rw [List.getLastD_eq_getLast?, List.getLast?_append, List.getLast?_append, List.getLast?_append, List.getLast?_eq_some_getLast hne]
    exact ht _ (List.getLast_mem hne)
  rw [this]; simp
theorem name_parts {name : List UInt8} (h : nameB name = true) : ∃ s, name = 47 :: s ∧ (∀ x, x ∈ segs s → segB x = true) ∧ rightR s = true ∧ (s.all fun b => pathC b.toNat) = true ∧ 1 ≤ s.length ∧ s.length ≤ 254 := by
  obtain ⟨r, rfl, h1, h2, h3⟩ := nameB_cons h
  obtain ⟨a, b⟩ := pass_right r.length r (Nat.le_refl _) 47 h1
  rw [← names_pass, List.all_eq_true] at h1
  exact ⟨r, rfl, h1, a, b, h2, h3⟩
theorem head_seg {x : List UInt8} {t : List (List UInt8)} (h0 : x ≠ []) (h : (47 : UInt8) ∉ x) : (joinS (x :: t)).head? ≠ some 47 ∧ joinS (x :: t) ≠ [] := by
  cases x with
  | nil => exact absurd rfl h0
  | cons b x =>
    rw [joinS_cons]
    simp only [List.mem_cons, not_or] at h
    exact ⟨by simpa using fun e => h.1 e.symm, by simp⟩
/-- What the law says of a part, from which a reference leads to a part. -/
theorem back {source name : List UInt8} (hs : source = [47] ∨ nameB source = true) (hn : nameB name = true) :
    iriCut (relB source name) = ({ pa := relB source name }, true) ∧ relB source name ≠ [] ∧ (normB name).2 = true ∧ iriTarget source (relB source name) = ((normB name).1, [], 0) ∧ iriTarget source name = ((normB name).1, [], 0) := by
  obtain ⟨s, hs1, hF, hsl⟩ : ∃ s, source = 47 :: s ∧ (∀ x, x ∈ (segs s).dropLast → isDot x = false) ∧ 2 * (segs s).length ≤ 256 := by
    rcases hs with h | h
    · exact ⟨[], h, by simp [segs], by simp [segs]⟩
    · obtain ⟨s, h1, h2, _, _, _, h3⟩ := name_parts h
      refine ⟨s, h1, fun x hx => segB_dot (h2 x (List.dropLast_subset _ hx)), ?_⟩
      have := nonempty_len (segs s) fun x hx => segB_ne (h2 x hx)
      rw [joinS_segs] at this
      omega
  obtain ⟨u, hn1, hT, hr, hp, hu1, hu2⟩ := name_parts hn
  have hnorm := norm_name hn
  have hb : (decide (source = [47]) || nameB source) = true := by
    rcases hs with h | h
    · rw [decide_eq_true h]; rfl
    · rw [h]; simp
  obtain ⟨c, e1, e2⟩ := relCut_spec (segs s) (segs u)
  have hl := relCut_len (segs s) (segs u) (List.length_pos_iff.2 (segs_ne s)) (List.length_pos_iff.2 (segs_ne u))
  generalize hf : (relCut (segs s) (segs u)).1 = f at e1 hl
  generalize ht : (relCut (segs s) (segs u)).2 = t at e2 hl
  have hfne : f ≠ [] := List.length_pos_iff.1 (by omega)
  have htne : t ≠ [] := List.length_pos_iff.1 (by omega)
  have htm : ∀ x, x ∈ t → segB x = true := fun x hx => hT x (by rw [e2]; exact List.mem_append_right _ hx)
  have ht47 : ∀ x, x ∈ t → (47 : UInt8) ∉ x := fun x hx => segs_no47 u x (by rw [e2]; exact List.mem_append_right _ hx)
  -- the last part of the way, as it stands in the name
  obtain ⟨y, hy⟩ := joinS_app c t htne
  rw [← e2, joinS_segs] at hy
  have hjr : rightR (joinS t) = true := right_suffix y _ (by rw [← hy]; exact hr)
  have hjp : ((joinS t).all fun b => pathC b.toNat) = true := by
    rw [hy, List.all_append, Bool.and_eq_true] at hp
    exact hp.2
  have hjl : (joinS t).length ≤ 254 := by
    have := congrArg List.length hy
    rw [List.length_append] at this
    omega
  have upl : ∀ k, (upsB k).length = 3 * k := by
    intro k
    unfold upsB
    induction k with
    | zero => rfl
    | succ k ih => rw [List.replicate_succ, List.flatten_cons, List.length_append, ih]; simp; omega
  have upr : ∀ k, rightR (upsB k) = true ∧ ((upsB k).all fun b => pathC b.toNat) = true := by
    intro k
    unfold upsB
    induction k with
    | zero => exact ⟨rfl, rfl⟩
    | succ k ih =>
      rw [List.replicate_succ, List.flatten_cons]
      exact ⟨rightR_app _ _ (by decide) ih.1, by rw [List.all_append, ih.2]; decide⟩
  have hfl : f.length ≤ 128 := by omega
  have hwr : rightR (wayB f t) = true := rightR_app _ _ (upr _).1 hjr
  have hwp : ((wayB f t).all fun b => pathC b.toNat) = true := by unfold wayB; rw [List.all_append, (upr _).2, hjp]; rfl
  have hwl : (wayB f t).length ≤ 700 := by unfold wayB; rw [List.length_append, upl]; omega
  obtain ⟨t0, t1, htt⟩ : ∃ t0 t1, t = t0 :: t1 := by
    cases t with
    | nil => exact absurd rfl htne
    | cons a b => exact ⟨a, b, rfl⟩
  have hw0 : (wayB f t).head? ≠ some 47 ∧ wayB f t ≠ [] := by
    unfold wayB
    cases hk : f.length - 1 with
    | zero =>
      rw [show upsB 0 = [] from rfl, List.nil_append, htt]
      exact head_seg (segB_ne (htm t0 (by rw [htt]; simp))) (ht47 t0 (by rw [htt]; simp))
    | succ k =>
      unfold upsB
      rw [List.replicate_succ, List.flatten_cons]
      exact ⟨by simp, by simp⟩
  have hwsegs : segs (wayB f t) = List.replicate (f.length - 1) [46, 46] ++ t := by
    unfold wayB
    rw [segs_ups, segs_join t ht47, if_neg htne]
  -- the reference
  obtain ⟨pre, r, hr0, hr1, hr2, hr3, hr4, hr5, hr6, hr7, hr8⟩ : ∃ pre r, relB source name = r ∧ (pre = [] ∨ pre = [[46]]) ∧ rightR r = true ∧ (r.all fun b => pathC b.toNat) = true ∧ r.length ≤ 1000 ∧ r.head? ≠ some 47 ∧ r ≠ [] ∧ has 58 (cutB 47 r).1 = false ∧ segs r = pre ++ (List.replicate (f.length - 1) [46, 46] ++ t) := by
    have hrel : relB source name = if has 58 (cutB 47 (wayB f t)).1 then 46 :: 47 :: wayB f t else wayB f t := by
      unfold relB
      rw [hb, hn, hs1, hn1]
      simp only [List.drop_succ_cons, List.drop_zero, hf, ht]
      rfl
    cases h58 : has 58 (cutB 47 (wayB f t)).1 with
    | true =>
      rw [h58, if_pos rfl] at hrel
      refine ⟨[[46]], _, hrel, .inr rfl, rightR_app [46, 47] _ (by decide) hwr, ?_, by simp; omega, by simp, by simp, ?_, ?_⟩
      · rw [List.all_cons, List.all_cons, hwp]; decide
      · have : cutB 47 (46 :: 47 :: wayB f t) = ([46], wayB f t, true) := cutB_at 47 (wayB f t) [46] rfl
        rw [this]; rfl
      · have := segs_app [46] (by decide) (wayB f t)
        rw [List.singleton_append] at this
        rw [this, hwsegs]; rfl
    | false =>
      rw [h58, if_neg (by simp)] at hrel
      exact ⟨[], _, hrel, .inl rfl, hwr, hwp, by omega, hw0.1, hw0.2, h58, hwsegs⟩
  rw [hr0]
  obtain ⟨n35, n63⟩ := path_has r hr3
  have hir : iriRight r = true := by unfold iriRight; rw [hr2, decide_eq_true hr4]; rfl
  have hcut := cut_rel r hir hr6 hr5 n63 n35 hr7
  refine ⟨hcut, hr6, by rw [hnorm], ?_, ?_⟩
  · have hpath : pathB source r = dirB source ++ r := by unfold pathB; rw [if_neg hr6, if_neg hr5]
    have hdot : dotsP (dirB source ++ r) = name := by
      unfold dotsP
      rw [hs1, dir_segs, hr8, e1]
      have hdl : (c ++ f).dropLast = c ++ f.dropLast := List.dropLast_append_of_ne_nil hfne
      rw [hdl]
      have hl2 : f.length - 1 = f.dropLast.length := by simp
      rw [hl2, way_fold c f.dropLast t (by rw [← hdl, ← e1]; exact hF) (fun x hx => segB_dot (htm x hx)) htne pre hr1, ← e2, joinS_segs, hn1]
    unfold iriTarget iriResolve
    rw [hcut]
    have hz : (false || (false || !([47] : List UInt8).isPrefixOf source)) = false := by rw [hs1]; rfl
    simp only [if_true, hpath, hdot, hz, Bool.false_eq_true, if_false, hnorm, Bool.not_true, Bool.or_false]
  · have h47 : u.head? ≠ some 47 := by
      have hj := joinS_segs u
      cases e : segs u with
      | nil => exact absurd e (segs_ne u)
      | cons x y =>
        rw [e] at hj
        rw [← hj]
        exact (head_seg (segB_ne (hT x (by rw [e]; simp))) (segs_no47 u x (by rw [e]; simp))).1
    obtain ⟨m35, m63⟩ := path_has u hp
    have hnr : iriRight (47 :: u) = true := by
      unfold iriRight
      have h1 := rightR_app [47] u (by decide) hr
      rw [List.singleton_append] at h1
      rw [h1, decide_eq_true (by simp; omega)]; rfl
    have hc2 := cut_path u hnr h47 (by unfold has at m63 ⊢; rw [List.any_cons, m63]; rfl) (by unfold has at m35 ⊢; rw [List.any_cons, m35]; rfl)
    unfold iriTarget iriResolve
    have hd := dotsP_name hn
    rw [hn1] at hd hnorm ⊢
    rw [hc2]
    have hpath : pathB source (47 :: u) = 47 :: u := pathB_slash _ _ rfl
    have hz : (false || (false || !([47] : List UInt8).isPrefixOf source)) = false := by rw [hs1]; rfl
    simp only [if_true, hpath, hd, hz, Bool.false_eq_true, if_false, hnorm, Bool.not_true, Bool.or_false]
end Go.Dn.Pl
