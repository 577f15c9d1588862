/- Go's library: what begins, what ends, what is cut. -/
import Derived.Test.YtgljgjnhagidnaaGreatDoorTB
namespace Go.Proofs.YtgljgjnhagidnaaGreatDoor.Den
open Go Go.Dn Go.Dn.M Go.Dn.Pl
set_option maxRecDepth 100000
set_option linter.unusedVariables false
set_option linter.unusedSimpArgs false

theorem HasPrefix_eq (s p : List UInt8) : f14 (.str s) (.str p) = ret (.bool (p.isPrefixOf s)) := by
  unfold f14 f38
  by_cases h : p.length ≤ s.length
  · simp (disch := omega) [h, ← take_eq_prefix]
  · have : p.isPrefixOf s = false := by rw [Bool.eq_false_iff]; intro e; exact h (prefix_len e)
    simp [h, this]
theorem HasSuffix_eq (s p : List UInt8) (hs : s.length < 1000000000) : f73 (.str s) (.str p) = ret (.bool (p.isSuffixOf s)) := by
  unfold f73 f86
  by_cases h : p.length ≤ s.length
  · have e : ((s.length : Int) - p.length).toNat = s.length - p.length := by omega
    simp (disch := omega) [h, ← drop_eq_suffix _ _ h, e]
  · have : p.isSuffixOf s = false := by rw [Bool.eq_false_iff]; intro e; exact h (suffix_len e)
    simp [h, this]
theorem CutPrefix_eq (s p : List UInt8) : f34 (.str s) (.str p) = ret (.tuple [.str (if p.isPrefixOf s then s.drop p.length else s), .bool (p.isPrefixOf s)]) := by
  unfold f34 f64
  have e := HasPrefix_eq s p
  unfold f14 at e
  rw [bd_ret'] at e
  rw [e]
  cases h : p.isPrefixOf s with
  | false => simp
  | true =>
    have := prefix_len h
    simp (disch := omega)
/-- internal/bytealg.MaxLen holds a number. -/
def MaxIs (gs : List AObj) : Prop := ∃ e m, gs[0]? = some (.row [.int .i64 m] e .ro)
theorem Index_eq (gs : List AObj) (hm : MaxIs gs) (s t : List UInt8) (hs : s.length < 1000000000) : Cm gs (nIndex 0 (.str s) (.str t)) (.int .i64 (ixS t s 0)) := by
  intro H n ho
  obtain ⟨e, m, hm⟩ := hm
  have hlt := (List.getElem?_eq_some_iff.1 hm).1
  have hg : H.get 0 = some (.row [.int .i64 m] e .ro) := by rw [ho.glob _ hlt, hm]
  show Ev (bif Nat.blt s.length 4294967281 then bd (ld (.ptr (some (0, 0)))) _ else fail) H n _
  rw [bltN_eq]
  have : s.length < 4294967281 := by omega
  simp only [this, decide_true, cond_true]
  rw [Ev_ld _ _ _ _ hg 0 rfl]
  simp
  exact .refl ho.free (Nat.le_refl n)
theorem Cut_eq (gs : List AObj) (hm : MaxIs gs) (s : List UInt8) (c : UInt8) (hs : s.length < 1000000000) :
    Cm gs (f26 (.str s) (.str [c])) (.tuple [.str (cutB c.toNat s).1, .str (cutB c.toNat s).2.1, .bool (cutB c.toNat s).2.2]) := by
  unfold f26 f56
  rw [bd_bd]
  refine Cm.bd (Index_eq gs hm s [c] hs) ?_
  apply Cm.of_eq
  rw [ixS_one, ixF_eq]
  unfold cutB
  by_cases h : s.findIdx (fun b => b.toNat == c.toNat) < s.length
  · simp (disch := omega) [h]
  · simp [h]
theorem Contains_eq (gs : List AObj) (hm : MaxIs gs) (s : List UInt8) (c : UInt8) (hs : s.length < 1000000000) : Cm gs (f27 (.str s) (.str [c])) (.bool (has c.toNat s)) := by
  unfold f27 f57
  rw [bd_ret']
  refine Cm.bd (Index_eq gs hm s [c] hs) ?_
  apply Cm.of_eq
  rw [ixS_one]
  simp [ixF_ge, has]
end Go.Proofs.YtgljgjnhagidnaaGreatDoor.Den
