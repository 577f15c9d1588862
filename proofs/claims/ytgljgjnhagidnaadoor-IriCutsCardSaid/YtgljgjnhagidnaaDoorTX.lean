/- etui's law IriCuts answers true whatever reference and pieces it is given; its arguments read afterwards as before. Conditions: those of the given row and card. -/
import Derived.Test.YtgljgjnhagidnaaDoorTW
namespace Go.Proofs.YtgljgjnhagidnaaDoor.Den
open Go Go.Dn Go.Dn.M Go.Dn.Pl Go.ChangeMaps Go.ChangeShapes Go.WideShapes Go.ChangeAt Go.RowKit
open Go.Proofs.YtgljgjnhagidnaaDoor
set_option maxRecDepth 100000
set_option linter.unusedVariables false
set_option linter.unusedSimpArgs false

/-- The pieces, as an argument. -/
theorem open_pieces {H : Type} {enc : TypeId × Value → H} {W : World} {base b0 : Nat} {sp : Nat → Bool} {held : Bool} {v : Value} {d : DataW H} {ps : List MemPlace} (hval : Value.okWide Tryd.prog W .any b0 23 v) (h : DataW.Trod enc Tryd.prog W base sp held 23 v d ps) :
    ∃ p : Pc, ∀ ρ : Rho, VRel ρ (.agg p.av) v := by
  obtain ⟨cs, rfl, hsz⟩ := okWide_struct Tryd.underlying23 hval
  obtain ⟨fuel, hf⟩ := h
  obtain ⟨xs, n, _, _, hl, hlen, hx⟩ := DataW.trod_struct Tryd.underlying23 hf
  have c9 : Tryd.prog.cellsOf 9 = 1 := by kernel_rfl
  have c4 : Tryd.prog.cellsOf 4 = 1 := by kernel_rfl
  have c23 : Tryd.prog.cellsOf 23 = 9 := by kernel_rfl
  rw [c23] at hsz
  have str : ∀ (i : Nat) (f : Field), f.type = 9 → f.offset = i → (∃ y, DataW.trod enc Tryd.prog W base sp held n f.type ((cs.toList.drop f.offset).take (Tryd.prog.cellsOf f.type)) = some y) → ∃ s : ByteArray, cs.toList[i]? = some (.string s) := by
    rintro i f h1 rfl ⟨y, h3⟩
    rw [h1, c9] at h3
    obtain ⟨s, h4, _⟩ := DataW.trod_string Tryd.underlying9 h3
    refine ⟨s, ?_⟩
    have := congrArg (·[0]?) h4
    simpa using this
  have boo : ∀ (i : Nat) (f : Field), f.type = 4 → f.offset = i → (∃ y, DataW.trod enc Tryd.prog W base sp held n f.type ((cs.toList.drop f.offset).take (Tryd.prog.cellsOf f.type)) = some y) → ∃ b : Bool, cs.toList[i]? = some (.bool b) := by
    rintro i f h1 rfl ⟨y, h3⟩
    rw [h1, c4] at h3
    obtain ⟨s, h4, _⟩ := DataW.trod_bool Tryd.underlying4 h3
    refine ⟨s, ?_⟩
    have := congrArg (·[0]?) h4
    simpa using this
  have hy : ∀ (i : Nat) (f : Field), _ → ∃ y, DataW.trod enc Tryd.prog W base sp held n f.type ((cs.toList.drop f.offset).take (Tryd.prog.cellsOf f.type)) = some y := fun i f hi => by
    have h1 := hx i f hi
    obtain ⟨y, hy⟩ : ∃ y, xs[i]? = some y := by
      have := (Array.getElem?_eq_some_iff.1 hi).1
      exact ⟨xs[i]'(by omega), List.getElem?_eq_getElem _⟩
    exact ⟨y, by rw [← hy]; exact h1⟩
  obtain ⟨s0, e0⟩ := str 0 _ rfl rfl (hy 0 _ rfl)
  obtain ⟨s1, e1⟩ := str 1 _ rfl rfl (hy 1 _ rfl)
  obtain ⟨s2, e2⟩ := str 2 _ rfl rfl (hy 2 _ rfl)
  obtain ⟨s3, e3⟩ := str 3 _ rfl rfl (hy 3 _ rfl)
  obtain ⟨s4, e4⟩ := str 4 _ rfl rfl (hy 4 _ rfl)
  obtain ⟨b5, e5⟩ := boo 5 _ rfl rfl (hy 5 _ rfl)
  obtain ⟨b6, e6⟩ := boo 6 _ rfl rfl (hy 6 _ rfl)
  obtain ⟨b7, e7⟩ := boo 7 _ rfl rfl (hy 7 _ rfl)
  obtain ⟨b8, e8⟩ := boo 8 _ rfl rfl (hy 8 _ rfl)
  have hc : cs.toList = [.string s0, .string s1, .string s2, .string s3, .string s4, .bool b5, .bool b6, .bool b7, .bool b8] := by
    apply List.ext_getElem?
    intro i
    match i with
    | 0 => rw [e0]; rfl
    | 1 => rw [e1]; rfl
    | 2 => rw [e2]; rfl
    | 3 => rw [e3]; rfl
    | 4 => rw [e4]; rfl
    | 5 => rw [e5]; rfl
    | 6 => rw [e6]; rfl
    | 7 => rw [e7]; rfl
    | 8 => rw [e8]; rfl
    | i + 9 => rw [List.getElem?_eq_none (by simp; omega)]; rfl
  refine ⟨⟨s0.data.toList, s1.data.toList, s2.data.toList, s3.data.toList, s4.data.toList, b5, b6, b7, b8⟩, fun ρ => .agg _ _ ?_⟩
  rw [hc]
  exact .cons _ _ _ _ (.str _) (.cons _ _ _ _ (.str _) (.cons _ _ _ _ (.str _) (.cons _ _ _ _ (.str _) (.cons _ _ _ _ (.str _) (.cons _ _ _ _ (.bool _) (.cons _ _ _ _ (.bool _) (.cons _ _ _ _ (.bool _) (.cons _ _ _ _ (.bool _) .nil))))))))
theorem walk1 {W : World} (hs : W.ShapedOpen Tryd.prog) (s : ByteArray) (v1 : Value) (p : Pc) (hv : ∀ ρ, VRel ρ (.agg p.av) v1) :
    Calls Tryd.prog 3 #[.string s, v1] W fun e W' => e = .returned (.bool true) ∧ Below W.heap.size W W' := by
  obtain ⟨m, hm⟩ := maxLen_cell hs
  obtain ⟨v, H', n', h1, h2⟩ := iriCuts_eq m s.data.toList p
  subst h2
  have hr : Glob 3 (rhoG W 3) := rhoG_glob W 3
  have hsim : Sim (rhoG W 3) (heapA (G0 m)) W := heapA_sim (globs hm)
  have hok := S3 (apN 6) (apN_ok 6) [.str s.data.toList, .agg p.av]
  rw [show ∀ (f : AV → AV → M AV) a b, L2 f [a, b] = f a b from fun _ _ _ => rfl] at hok
  exact den_law hok Tryd.func3 (by kernel_rfl) (by kernel_rfl) h1 hsim (heapA_own (globs hm)) hr (.cons _ _ _ _ (.str s) (.cons _ _ _ _ (hv _) .nil))
theorem contract1 (H : Type) (enc : TypeId × Value → H) (W : World) (base : Nat) (args : Array Value) (ds gs : List (DataW H)) (before : List MemPlace)
    (hval : ∀ (j : Nat) t v, Tryd.f3.params[j]? = some t → args[j]? = some v → Value.okWide Tryd.prog W .any base t v)
    (hW : DataW.Whole enc Tryd.prog Tryd.f3.params.toList Rows.iriCutsSpec.vars false W args.toList ds gs before) (hs : W.ShapedOpen Tryd.prog) :
    Calls Tryd.prog 3 args W fun e W' => ∃ v, e = .returned v ∧ Rows.iriCutsSpec.post enc Tryd.prog Tryd.f3 false true false false W args v W' := by
  have hW' := hW
  obtain ⟨p, q, hA0, hV, rfl, hfz, hnd⟩ := hW
  have hA : DataW.TrodAll enc Tryd.prog W 0 (fun _ => true) true Tryd.f3.params.toList args.toList ds p := hA0
  rw [Tryd.params3] at hA hval
  obtain ⟨v0, v1, d0, d1, p0, p1, rfl, rfl, rfl, h0, h1⟩ := trodAll_two hA
  obtain ⟨rfl, rfl⟩ := trodVars_none hV
  obtain ⟨pc, hpc⟩ := open_pieces (hval 1 23 v1 rfl rfl) h1
  have hlt : ∀ x ∈ p0 ++ p1, x.block < W.heap.size := fun x hx => by simpa using hW'.lt x (List.mem_append_left _ hx)
  obtain ⟨s, rfl, _, _, _⟩ := open_string Tryd.underlying9 (hval 0 9 v0 rfl rfl) h0
  refine (walk1 hs s v1 pc hpc).mono fun e W' ⟨he, hb⟩ => ?_
  subst he
  have a0 := Below.trod laidOut (by kernel_rfl) (of_decide_eq_true (by kernel_rfl)) h0 hb (fun x hx => hlt x (List.mem_append.2 (.inl hx)))
  have a1 := Below.trod laidOut (by kernel_rfl) (of_decide_eq_true (by kernel_rfl)) h1 hb (fun x hx => hlt x (List.mem_append.2 (.inr hx)))
  exact ⟨_, rfl, _, _, _, [], _, [], hW', trodAll_mk1 (shut_bool Tryd.underlying4 _), trodAll_mk2 a0 a1, rfl, hb.frame _, fun h => by cases h⟩
noncomputable def wit1 : Array Value := #[.string ⟨#[]⟩, .agg #[.string ⟨#[]⟩, .string ⟨#[]⟩, .string ⟨#[]⟩, .string ⟨#[]⟩, .string ⟨#[]⟩, .bool false, .bool false, .bool false, .bool false]]
theorem laid_met1 (os : Os) : laidMet Tryd.prog Rows.iriCutsRow.laid ((laidWorld os).forCall (fun _ _ => 0) ⟨#[], wit1, []⟩).memory :=
  laidMet_of_run' 8 (by kernel_rfl) (by kernel_rfl)
theorem reads1 (os : Os) {H : Type} (enc : TypeId × Value → H) : ∃ places, DataW.whole enc Tryd.prog ((laidWorld os).forCall (fun _ _ => 0) ⟨#[], wit1, []⟩).memory Tryd.f3.params.toList Rows.iriCutsSpec.vars false wit1.toList 8 = some ([.lit (.string []), .agg [.lit (.string []), .lit (.string []), .lit (.string []), .lit (.string []), .lit (.string []), .lit (.bool false), .lit (.bool false), .lit (.bool false), .lit (.bool false)]], [], places) :=
  ⟨[], by kernel_rfl⟩
theorem lifted1 (os : Os) (started : os.Started) (H : Type) (enc : TypeId × Value → H) (F : Stop.Interp) :
    ReturnsInHanded {} Tryd.checked os 3 .any ((OpenSpec.ofChange Rows.iriCutsSpec).preRow enc Tryd.prog Tryd.f3 Rows.iriCutsRow.domain false Rows.iriCutsRow.laid) (((OpenSpec.ofChange Rows.iriCutsSpec).at F).post enc Tryd.prog Tryd.f3 false true false false) := by
  obtain ⟨places, hx⟩ := reads1 os enc
  refine returnsInHanded_of_row (C := Tryd.checked) (s := OpenSpec.ofChange Rows.iriCutsSpec) own started (by kernel_rfl) Tryd.func3
    (witness_row_at (enc := enc) (C := Tryd.checked) false (laidWorld os) wit1 rfl (by kernel_rfl) (by kernel_rfl) (by kernel_rfl)
      (OpenSpec.preRow_of_cond 8 hx (by kernel_rfl) (fun k hk => by cases hk) (by kernel_rfl) (laid_met1 os))) ?_
  intro W base args ds gs before hval hW _ _ _ _ hs _
  exact contract1 H enc W base args ds gs before hval hW hs
theorem said1 : Rows.IriCutsSaid :=
  OpenClaim.holds_of_cond 3 Tryd.f3 rfl rfl rfl rfl rfl rfl rfl ⟨rfl, rfl, rfl, rfl, rfl⟩ rfl rfl rfl rfl rfl (by kernel_rfl) Tryd.func3 (by kernel_rfl)
    (of_decide_eq_true (by kernel_rfl)) (by unfold Func.isWrapper; first | (rw [if_pos (by decide +kernel)]; kernel_rfl) | (rw [if_neg (by decide +kernel)]; exact ⟨rfl, rfl⟩))
    (fun os started H enc _ F => by rw [OpenClaim.pre_eq_preRow]; exact lifted1 os started H enc F)
theorem plain1 (f : FuncId) (fn : Func) (hf : Tryd.pinned.checked.prog.funcNamed "etui/etuilaw16.IriCuts" = some f) (hfn : Tryd.pinned.checked.prog.funcs[f]? = some fn) :
    false = Tryd.pinned.checked.prog.looks [] ∧ ∀ (j : Nat) t, fn.params[j]? = some t → Tryd.pinned.checked.prog.wantsStandIn t = false := by
  obtain rfl : f = 3 := Option.some.inj ((show Tryd.prog.funcNamed "etui/etuilaw16.IriCuts" = some 3 by kernel_rfl).symm.trans hf) |>.symm
  obtain rfl : fn = Tryd.f3 := (Option.some.inj (Tryd.func3.symm.trans hfn)).symm
  refine ⟨by kernel_rfl, fun j t ht => ?_⟩
  rw [Tryd.params3] at ht
  have := Array.mem_of_getElem? ht
  simp at this
  rcases this with rfl | rfl
  · exact (show Tryd.prog.wantsStandIn 9 = false by kernel_rfl)
  · exact (show Tryd.prog.wantsStandIn 23 = false by kernel_rfl)
/-- The card of the law IriCuts. -/
theorem card1 : Rows.IriCutsCardSaid :=
  Claim7.holds_tied_plain_at .later [] _ _ _ _ said1 (fun _ h => by cases h) (by kernel_rfl) (fun _ h => by cases h) iriCuts_row_tie rfl ⟨rfl, rfl⟩ (by kernel_rfl) rfl plain1 (by kernel_rfl)
end Go.Proofs.YtgljgjnhagidnaaDoor.Den
