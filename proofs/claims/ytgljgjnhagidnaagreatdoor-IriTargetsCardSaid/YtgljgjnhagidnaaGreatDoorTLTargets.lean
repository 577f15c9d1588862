/- The law IriTargets. -/
import Derived.Test.YtgljgjnhagidnaaGreatDoorTR
import Derived.Test.YtgljgjnhagidnaaGreatDoorTAS
import Derived.Test.YtgljgjnhagidnaaGreatDoorTRR
import Derived.Test.YtgljgjnhagidnaaGreatDoorTU
namespace Go.Proofs.YtgljgjnhagidnaaGreatDoor.Den
open Go Go.Dn Go.Dn.M Go.Dn.Pl
set_option maxRecDepth 100000
set_option linter.unusedVariables false
set_option linter.unusedSimpArgs false

theorem of_eq (gs : List AObj) (p : Pc) : Cm gs (f9 (.agg p.av)) (.agg p.av) := by
  intro H n ho
  unfold f9
  refine Lc.start ho _ rfl fun l => ?_
  refine l.more _ _ rfl fun H1 l => ?_
  try simp only [fa_ptr, bd_ret]
  have hp := List.mem_cons_self (a := (n, AObj.row (cells (.agg p.av)) 24 (.own 0))) (l := [])
  refine l.ld' n 0 hp rfl ?_
  try simp only [fa_ptr, bd_ret]
  refine l.ld' n 1 hp rfl ?_
  try simp only [fa_ptr, bd_ret]
  refine l.ld' n 2 hp rfl ?_
  try simp only [fa_ptr, bd_ret]
  refine l.ld' n 3 hp rfl ?_
  try simp only [fa_ptr, bd_ret]
  refine l.ld' n 4 hp rfl ?_
  try simp only [fa_ptr, bd_ret]
  refine l.ld' n 5 hp rfl ?_
  try simp only [fa_ptr, bd_ret]
  refine l.ld' n 6 hp rfl ?_
  try simp only [fa_ptr, bd_ret]
  refine l.ld' n 7 hp rfl ?_
  try simp only [fa_ptr, bd_ret]
  refine l.ld' n 8 hp rfl ?_
  rw [show bu [(.str []), (.str []), (.str []), (.str []), (.str []), (.bool false), (.bool false), (.bool false), (.bool false)] [(0, 1, .str p.sc), (1, 1, .str p.au), (2, 1, .str p.pa), (3, 1, .str p.qu), (4, 1, .str p.fr), (5, 1, .bool p.hs), (6, 1, .bool p.ha), (7, 1, .bool p.hq), (8, 1, .bool p.hf)] = M.ret (.agg p.av) from rfl, bd_ret]
  refine l.sta 9 _ rfl rfl rfl fun H2 l => ?_
  refine l.lda 9 rfl ?_
  exact l.done
theorem beq_av (p : Pc) : beqA (.agg p.av) (.agg p.av) = true := by
  simp [beqA, Pc.av, beqAs, beq0, Pl.beqL_eq]
theorem eq_av (p q : Pc) : eqAs [.s, .s, .s, .s, .s, .b, .b, .b, .b] p.av p.av = some true := by
  simp [Pc.av, eqAs, eqF, Pl.beqL_eq]
theorem iriTargets_eq (m : Int) (base s : List UInt8) : Ev (f3 (apN 6) (.str base) (.str s)) (heapA (G0 m)) 3 fun v H' n' => v = .bool true := by
  unfold f3
  have ho : Ok (G0 m) (heapA (G0 m)) 3 := heapA_ok (G0 m)
  refine .bd ((alive0_ev m).mono fun v H1 n1 ⟨e1, f1⟩ => ?_)
  subst e1
  have ho1 := ho.fr f1
  simp only [un_not, Bool.not_true, bd_ret, cnd_false, lnS_str, bi_gtr, gd_bool, pk_bool, gd_tuple]
  by_cases h0 : (1000 : Int) < (base.length : Int)
  · simp [h0]
  simp only [h0, decide_false, bd_ret, if_true, Bool.false_eq_true, if_false, lnS_str, bi_gtr]
  by_cases h1 : (1200 : Int) < (s.length : Int)
  · simp [h1]
  simp only [h1, decide_false, cnd_false]
  have hb : base.length ≤ 10000000 := by omega
  refine (iriResolve_eq _ (G0_max m) 4 base s hb).call ho1 fun H2 n2 f2 => ?_
  simp only [ex_0, ex_1, bd_ret]
  refine Lc.start (ho1.fr f2) _ rfl fun l => ?_
  refine l.sta 9 _ rfl rfl rfl fun H3 l => ?_
  refine l.call (rResolve_eq _ base s hb) fun H4 n4 l => ?_
  simp only [ex_0, ex_1, bd_ret]
  refine l.more _ _ rfl fun H5 l => ?_
  refine l.sta 9 _ rfl rfl rfl fun H6 l => ?_
  refine l.call (iriTarget_eq _ (G0_max m) 4 base s hb) fun H7 n7 l => ?_
  simp only [ex_0, ex_1, ex_2, bd_ret]
  refine l.call (rTarget_eq _ base s hb) fun H8 n8 l => ?_
  simp only [ex_0, ex_1, ex_2, bd_ret, bi_eql, decide_true, gd_bool, if_true]
  refine l.lda' _ 9 List.mem_cons_self rfl ?_
  refine l.lda 9 rfl ?_
  refine l.call (of_eq _ _) fun H9 n9 l => ?_
  refine rck_self (beq_av _) (l.lda 9 rfl ?_)
  rw [beq_av, cond_true, show ∀ a b : List AV, bis [.s, .s, .s, .s, .s, .b, .b, .b, .b] .eql (.agg a) (.agg b) = asEq .eql (eqAs [.s, .s, .s, .s, .s, .b, .b, .b, .b] a b) from fun _ _ => rfl, eq_av _ {}, show asEq .eql (some true) = M.ret (.bool true) from rfl, bd_ret]
  simp only [bd_ret, gd_bool, pk_bool, if_true, bi_eql, bis_eql, decide_true]
  refine l.call (iriRelative_eq _ (G0_max m) base s) fun H10 n10 l => ?_
  refine l.call (rRelative_eq _ base s) fun H11 n11 l => ?_
  simp
end Go.Proofs.YtgljgjnhagidnaaGreatDoor.Den
