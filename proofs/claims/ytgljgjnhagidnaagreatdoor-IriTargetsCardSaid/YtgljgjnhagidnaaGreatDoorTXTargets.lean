/- etui/etuilaw16's law IriTargets answers true whatever texts it is given; its arguments read afterwards as before. Conditions: those of the given row and card. -/
import Derived.Test.YtgljgjnhagidnaaGreatDoorTW
import Derived.Test.YtgljgjnhagidnaaGreatDoorTLTargets
namespace Go.Proofs.YtgljgjnhagidnaaGreatDoor.Den
open Go Go.Dn Go.Dn.M Go.Dn.Pl Go.ChangeMaps Go.ChangeShapes Go.WideShapes Go.ChangeAt Go.RowKit
open Go.Proofs.YtgljgjnhagidnaaGreatDoor
set_option maxRecDepth 100000
set_option linter.unusedVariables false
set_option linter.unusedSimpArgs false

theorem walkIriTargets {W : World} (hs : W.ShapedOpen Tryz.prog) (s0 s1 : ByteArray) :
    Calls Tryz.prog 3 #[.string s0, .string s1] W fun e W' => e = .returned (.bool true) ∧ Below W.heap.size W W' := by
  obtain ⟨m, hm⟩ := maxLen_cell hs
  obtain ⟨v, H', n', h1, h2⟩ := iriTargets_eq m s0.data.toList s1.data.toList
  subst h2
  have hr : Glob 3 (rhoG W 3) := rhoG_glob W 3
  have hsim : Sim (rhoG W 3) (heapA (G0 m)) W := heapA_sim (globs hm)
  have hok := S3 (apN 6) (apN_ok 6) [.str s0.data.toList, .str s1.data.toList]
  rw [show ∀ (f : AV → AV → M AV) x0 x1, L2 f [x0, x1] = f x0 x1 from fun _ _ _ => rfl] at hok
  exact den_law hok Tryz.func3 (by kernel_rfl) (by kernel_rfl) h1 hsim (heapA_own (globs hm)) hr (.cons _ _ _ _ (.str s0) (.cons _ _ _ _ (.str s1) .nil))
theorem contractIriTargets (H : Type) (enc : TypeId × Value → H) (W : World) (base : Nat) (args : Array Value) (ds gs : List (DataW H)) (before : List MemPlace)
    (hval : ∀ (j : Nat) t v, Tryz.f3.params[j]? = some t → args[j]? = some v → Value.okWide Tryz.prog W .any base t v)
    (hW : DataW.Whole enc Tryz.prog Tryz.f3.params.toList Rows.iriTargetsSpec.vars false W args.toList ds gs before) (hs : W.ShapedOpen Tryz.prog) :
    Calls Tryz.prog 3 args W fun e W' => ∃ v, e = .returned v ∧ Rows.iriTargetsSpec.post enc Tryz.prog Tryz.f3 false true false false W args v W' := by
  have hW' := hW
  obtain ⟨p, q, hA0, hV, rfl, hfz, hnd⟩ := hW
  have hA : DataW.TrodAll enc Tryz.prog W 0 (fun _ => true) true Tryz.f3.params.toList args.toList ds p := hA0
  rw [Tryz.params3] at hA hval
  obtain ⟨v0, vs0, d0, ds0, p0, q0, hargs0, rfl, rfl, h0, r0⟩ := trodAll_cons hA
  obtain ⟨v1, vs1, d1, ds1, p1, q1, hargs1, rfl, rfl, h1, r1⟩ := trodAll_cons r0
  obtain ⟨rfl, rfl, rfl⟩ := trodAll_nil r1
  obtain rfl : args = #[v0, v1] := by cases args; simp_all
  obtain ⟨rfl, rfl⟩ := trodVars_none hV
  obtain ⟨s0, rfl, rfl, rfl, z0⟩ := open_string Tryz.underlying9 (hval 0 9 v0 rfl rfl) h0
  obtain ⟨s1, rfl, rfl, rfl, z1⟩ := open_string Tryz.underlying9 (hval 1 9 v1 rfl rfl) h1
  clear hA0
  simp only [List.append_nil] at hW'
  refine (walkIriTargets hs s0 s1).mono fun e W' ⟨he, hb⟩ => ?_
  subst he
  exact ⟨_, rfl, _, _, _, [], _, [], hW', trodAll_mk1 (shut_bool Tryz.underlying4 _), trodAll_mk2 (shut_string Tryz.underlying9 z0) (shut_string Tryz.underlying9 z1), rfl, hb.frame _, fun h => by cases h⟩
noncomputable def witIriTargets : Array Value := #[.string ⟨#[]⟩, .string ⟨#[]⟩]
theorem laid_metIriTargets (os : Os) : laidMet Tryz.prog Rows.iriTargetsRow.laid ((laidWorld os).forCall (fun _ _ => 0) ⟨#[], witIriTargets, []⟩).memory :=
  laidMet_of_run' 8 (by kernel_rfl) (by kernel_rfl)
theorem readsIriTargets (os : Os) {H : Type} (enc : TypeId × Value → H) : ∃ places, DataW.whole enc Tryz.prog ((laidWorld os).forCall (fun _ _ => 0) ⟨#[], witIriTargets, []⟩).memory Tryz.f3.params.toList Rows.iriTargetsSpec.vars false witIriTargets.toList 8 = some ([.lit (.string []), .lit (.string [])], [], places) :=
  ⟨[], by kernel_rfl⟩
theorem liftedIriTargets (os : Os) (started : os.Started) (H : Type) (enc : TypeId × Value → H) (F : Stop.Interp) :
    ReturnsInHanded {} Tryz.checked os 3 .any ((OpenSpec.ofChange Rows.iriTargetsSpec).preRow enc Tryz.prog Tryz.f3 Rows.iriTargetsRow.domain false Rows.iriTargetsRow.laid) (((OpenSpec.ofChange Rows.iriTargetsSpec).at F).post enc Tryz.prog Tryz.f3 false true false false) := by
  obtain ⟨places, hx⟩ := readsIriTargets os enc
  refine returnsInHanded_of_row (C := Tryz.checked) (s := OpenSpec.ofChange Rows.iriTargetsSpec) own started (by kernel_rfl) Tryz.func3
    (witness_row_at (enc := enc) (C := Tryz.checked) false (laidWorld os) witIriTargets rfl (by kernel_rfl) (by kernel_rfl) (by kernel_rfl)
      (OpenSpec.preRow_of_cond 8 hx (by kernel_rfl) (fun k hk => by cases hk) (by kernel_rfl) (laid_metIriTargets os))) ?_
  intro W base args ds gs before hval hW _ _ _ _ hs _
  exact contractIriTargets H enc W base args ds gs before hval hW hs
theorem saidIriTargets : Rows.IriTargetsSaid :=
  OpenClaim.holds_of_cond 3 Tryz.f3 rfl rfl rfl rfl rfl rfl rfl ⟨rfl, rfl, rfl, rfl, rfl⟩ rfl rfl rfl rfl rfl (by kernel_rfl) Tryz.func3 (by kernel_rfl)
    (of_decide_eq_true (by kernel_rfl)) (by unfold Func.isWrapper; first | (rw [if_pos (by decide +kernel)]; kernel_rfl) | (rw [if_neg (by decide +kernel)]; exact ⟨rfl, rfl⟩))
    (fun os started H enc _ F => by rw [OpenClaim.pre_eq_preRow]; exact liftedIriTargets os started H enc F)
theorem plainIriTargets (f : FuncId) (fn : Func) (hf : Tryz.pinned.checked.prog.funcNamed "etui/etuilaw16.IriTargets" = some f) (hfn : Tryz.pinned.checked.prog.funcs[f]? = some fn) :
    false = Tryz.pinned.checked.prog.looks [] ∧ ∀ (j : Nat) t, fn.params[j]? = some t → Tryz.pinned.checked.prog.wantsStandIn t = false := by
  obtain rfl : f = 3 := Option.some.inj ((show Tryz.prog.funcNamed "etui/etuilaw16.IriTargets" = some 3 by kernel_rfl).symm.trans hf) |>.symm
  obtain rfl : fn = Tryz.f3 := (Option.some.inj (Tryz.func3.symm.trans hfn)).symm
  refine ⟨by kernel_rfl, fun j t ht => ?_⟩
  rw [Tryz.params3] at ht
  have := Array.mem_of_getElem? ht
  obtain rfl : t = 9 := by simpa using this
  exact (show Tryz.prog.wantsStandIn 9 = false by kernel_rfl)
/-- The card of the law IriTargets. -/
theorem cardIriTargets : Rows.IriTargetsCardSaid :=
  Claim7.holds_tied_plain_at .later [] _ _ _ _ saidIriTargets (fun _ h => by cases h) (by kernel_rfl) (fun _ h => by cases h) iriTargets_row_tie rfl ⟨rfl, rfl⟩ (by kernel_rfl) rfl plainIriTargets (by kernel_rfl)
end Go.Proofs.YtgljgjnhagidnaaGreatDoor.Den
