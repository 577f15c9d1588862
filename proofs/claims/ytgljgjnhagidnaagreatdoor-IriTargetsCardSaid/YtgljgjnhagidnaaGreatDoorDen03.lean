/- Soundness, 16: the machine's steps; a region's operations; code. -/
import Derived.Test.YtgljgjnhagidnaaGreatDoorDen02
import Derived.Orders
namespace Go.Dn
open M Go.RowKit
set_option linter.unusedSimpArgs false
set_option linter.unusedVariables false

def evalT (τ : Array Value) : Operand → Value
  | .tmp t => τ.getD t undef
  | .const v => v
  | .global g => .pointer (some ⟨g, 0, none⟩)
  | .func f => .func (.func f) #[] #[]
/-- A frame that runs. -/
def on (b : Frame) (τ : Array Value) (todo : List Item) : Frame := { b with tmps := τ, todo := todo, mode := .run }
theorem eval_on (b : Frame) (τ : Array Value) (todo : List Item) : (on b τ todo).eval = evalT τ := by
  funext x; cases x <;> rfl
def putT (τ : Array Value) (d : Option Tmp) (v : Value) : Array Value :=
  match d with
  | some d => τ.setIfInBounds d v
  | none => τ

section steps
variable {P : Program} {b : Frame} {τ : Array Value} {k : List Item} {cs : List Frame} {w : World}
theorem on_skip : step P (lone (on b τ (.code .skip :: k)) cs w) = .next (lone (on b τ k) cs w) :=
  step_lone_go (by simp [stepG, stepG.exec, on])
theorem on_label {l : Nat} : step P (lone (on b τ (.code (.label l) :: k)) cs w) = .next (lone (on b τ k) cs w) :=
  step_lone_go (by simp [stepG, stepG.exec, on])
theorem on_inBlock {id : Nat} : step P (lone (on b τ (.inBlock id :: k)) cs w) = .next (lone (on b τ k) cs w) :=
  step_lone_go (by simp [stepG, stepG.exec, on])
theorem on_inScope {c : Code} : step P (lone (on b τ (.inScope c :: k)) cs w) = .next (lone (on b τ k) cs w) :=
  step_lone_go (by simp [stepG, stepG.exec, on])
theorem on_seq {x y : Code} : step P (lone (on b τ (.code (.seq x y) :: k)) cs w) = .next (lone (on b τ (.code x :: .code y :: k)) cs w) :=
  step_lone_go (by simp [stepG, stepG.exec, on])
theorem on_cond {c : Operand} {x y : Code} {t : Bool} (h : evalT τ c = .bool t) :
    step P (lone (on b τ (.code (.cond c x y) :: k)) cs w) = .next (lone (on b τ (.code (if t then x else y) :: k)) cs w) :=
  step_lone_go (by
    have := congrFun (eval_on b τ (.code (.cond c x y) :: k)) c
    simp only [on] at this
    simp [stepG, stepG.exec, on, this, h])
theorem on_block {id : Nat} {c : Code} : step P (lone (on b τ (.code (.block id c) :: k)) cs w) = .next (lone (on b τ (.code c :: .inBlock id :: k)) cs w) :=
  step_lone_go (by simp [stepG, stepG.exec, on])
theorem on_scope {c : Code} : step P (lone (on b τ (.code (.scope c) :: k)) cs w) = .next (lone (on b τ (.code c :: .inScope c :: k)) cs w) :=
  step_lone_go (by simp [stepG, stepG.exec, on])
theorem on_loop {c : Code} : step P (lone (on b τ (.code (.loop c) :: k)) cs w) = .next (lone (on b τ (.code c :: .inLoop c :: k)) cs w) :=
  step_lone_go (by simp [stepG, stepG.exec, on])
theorem on_inLoop {c : Code} : step P (lone (on b τ (.inLoop c :: k)) cs w) = .next (lone (on b τ (.code c :: .inLoop c :: k)) cs w) :=
  step_lone_go (by simp [stepG, stepG.exec, on])
theorem on_exit {id : Nat} {k' : List Item} (h : exitTo id k = some k') : step P (lone (on b τ (.code (.exit id) :: k)) cs w) = .next (lone (on b τ k') cs w) :=
  step_lone_go (by simp [stepG, stepG.exec, on, h])
theorem on_region {id : Nat} {ops : Array Oper} : step P (lone (on b τ (.code (.region id ops false) :: k)) cs w) = .next (lone (on b τ (.inRegion ops (List.range ops.size) :: k)) cs w) :=
  step_lone_go (by simp [stepG, stepG.exec, on])
theorem on_region_end {ops : Array Oper} : step P (lone (on b τ (.inRegion ops [] :: k)) cs w) = .next (lone (on b τ k) cs w) :=
  step_lone_go (by simp [stepG, stepG.exec, on])
theorem finish_on (ops : Array Oper) (i : Nat) (rest : List Nat) (v : Value) : (on b τ (.inRegion ops (i :: rest) :: k)).finish v = on b (putT τ ((ops[i]?).bind (·.dst)) v) (.inRegion ops rest :: k) := by
  cases h : (ops[i]?).bind (·.dst) <;> simp [Frame.finish, on, putT, h]
theorem on_op_skip {ops : Array Oper} {i : Nat} {rest : List Nat} (h : ((ops[i]?).map (Region.wanted · (yielded ops τ))).getD false = false) :
    step P (lone (on b τ (.inRegion ops (i :: rest) :: k)) cs w) = .next (lone (on b (putT τ ((ops[i]?).bind (·.dst)) undef) (.inRegion ops rest :: k)) cs w) := by
  rw [← finish_on]
  exact step_lone_go (by
    have h' := h
    simp only [on] at *
    simp [stepG, stepG.exec, h'])
theorem on_stepG {ops : Array Oper} {i : Nat} {rest : List Nat} {o : Oper} (ho : ops[i]? = some o) (hw : Region.wanted o (yielded ops τ) = true) (hd : ∀ c, o.op ≠ .defer c) :
    stepG P true { frame := on b τ (.inRegion ops (i :: rest) :: k), callers := cs, status := .running, dying := none } w =
      stepG.apply P true (on b τ (.inRegion ops (i :: rest) :: k)) cs none (execOp (evalT τ) o) w := by
  have he := eval_on b τ (.inRegion ops (i :: rest) :: k)
  simp only [on] at he
  cases hr : b.roundOf with
  | none =>
    simp only [hr] at he
    simp [stepG, stepG.exec, stepG.oper, Frame.oper?, on, ho, hw, he, hr]
  | some l =>
    simp only [hr] at he
    cases hop : o.op with
    | defer c => exact absurd hop (hd c)
    | _ => simp [stepG, stepG.exec, stepG.oper, Frame.oper?, on, ho, hw, he, hr, hop]
/-- One operation. -/
theorem on_op {ops : Array Oper} {i : Nat} {rest : List Nat} {o : Oper} {R : Value → World → Prop} (ho : ops[i]? = some o) (hw : Region.wanted o (yielded ops τ) = true) (hd : ∀ c, o.op ≠ .defer c) (h : Does P (execOp (evalT τ) o) w R) :
    ∃ v w', R v w' ∧ Steps P (lone (on b τ (.inRegion ops (i :: rest) :: k)) cs w) (lone (on b (putT τ o.dst v) (.inRegion ops rest :: k)) cs w') := by
  have hg := on_stepG (P := P) (b := b) (k := k) (cs := cs) (w := w) (rest := rest) ho hw hd
  have hfin : ∀ v, (on b τ (.inRegion ops (i :: rest) :: k)).finish v = on b (putT τ o.dst v) (.inRegion ops rest :: k) := by
    intro v; rw [finish_on, ho]; rfl
  unfold Does at h
  split at h
  · rename_i v w' hr
    refine ⟨v, w', h, .one (step_lone_go ?_)⟩
    rw [hg, ← hfin]; simp [stepG.apply, hr]
  · rename_i w' hr
    refine ⟨undef, w', h, .one (step_lone_go ?_)⟩
    rw [hg, ← hfin]; simp [stepG.apply, hr]
  · rename_i f args w' hr
    obtain ⟨e, w'', fr, ⟨v, rfl, hR⟩, hsteps, _, hleave⟩ := h (on b τ (.inRegion ops (i :: rest) :: k) :: cs)
    have henter : step P (lone (on b τ (.inRegion ops (i :: rest) :: k)) cs w) = .next (lone (Frame.enter P f args .normal) (on b τ (.inRegion ops (i :: rest) :: k) :: cs) w') :=
      step_lone_go (by rw [hg]; simp [stepG.apply, hr, on])
    refine ⟨v, w'', hR, .head henter (hsteps.trans (.one ?_))⟩
    rw [← hfin]; exact step_leave_returned hleave
  · rename_i l f τ' a b' w' hr
    obtain ⟨v, w'', hR, hsteps⟩ := h (on b τ (.inRegion ops (i :: rest) :: k)) cs
    have henter : step P (lone (on b τ (.inRegion ops (i :: rest) :: k)) cs w) = .next (lone (Frame.round l f τ' a b' .normal) (on b τ (.inRegion ops (i :: rest) :: k) :: cs) w') :=
      step_lone_go (by rw [hg]; simp [stepG.apply, hr])
    refine ⟨v, w'', hR, .head henter ?_⟩
    rw [← hfin]; exact hsteps
  · exact h.elim
end steps

/-- Temporaries. -/
structure TRel (G nt : Nat) (ρ : Rho) (t : Tmps) (τ : Array Value) : Prop where
  size : τ.size = nt
  tmp : ∀ i, VRel ρ (t i) (τ.getD i undef)
  glob : Glob G ρ
theorem TRel.mono {G nt : Nat} {ρ ρ' : Rho} {t : Tmps} {τ : Array Value} (h : TRel G nt ρ t τ) (e : Ext ρ ρ') : TRel G nt ρ' t τ :=
  ⟨h.size, fun i => (h.tmp i).mono e, fun g hg => by obtain ⟨x, a, b⟩ := h.glob g hg; exact ⟨x, e g x a, b⟩⟩
theorem TRel.ev {G nt : Nat} {ρ : Rho} {t : Tmps} {τ : Array Value} (h : TRel G nt ρ t τ) (x : Operand) : VRel ρ (ev G t x) (evalT τ x) := by
  cases x with
  | tmp i => exact h.tmp i
  | const v => exact cv_rel ρ v
  | global g =>
    unfold Dn.ev
    by_cases hg : g < G
    · obtain ⟨y, a, b, c⟩ := h.glob g hg
      have := VRel.ptr (ρ := ρ) g 0 y a
      rw [b, c] at this
      simp only [blt_eq, hg, decide_true, cond_true]
      exact this
    · simp only [blt_eq, hg, decide_false, cond_false]
      exact .bad _
  | func f => exact .func _ _ _ _ _ .nil .nil
theorem TRel.set {G nt : Nat} {ρ : Rho} {t : Tmps} {τ : Array Value} (h : TRel G nt ρ t τ) {d : Nat} (hd : d < nt) {a : AV} {v : Value} (ha : VRel ρ a v) : TRel G nt ρ (tset t d a) (τ.setIfInBounds d v) := by
  refine ⟨by rw [Array.size_setIfInBounds]; exact h.size, fun i => ?_, h.glob⟩
  unfold tset
  rw [beq_eq]
  have hs := h.size
  by_cases e : i = d
  · subst e
    simp only [decide_true, cond_true, Array.getD_eq_getD_getElem?, Array.getElem?_setIfInBounds, if_true]
    rw [if_pos (by omega)]
    exact ha
  · simp only [e, decide_false, cond_false, Array.getD_eq_getD_getElem?, Array.getElem?_setIfInBounds]
    rw [if_neg (fun x => e x.symm)]
    have := h.tmp i
    rw [Array.getD_eq_getD_getElem?] at this
    exact this
theorem dput_some {nt G : Nat} {t : Tmps} {d : Option Tmp} {v : AV} {K : Tmps → M AV} {H : Heap} {n : Nat} {r : AV × Heap × Nat} (h : dput nt t d v K H n = some r) {ρ : Rho} {τ : Array Value} {v' : Value} (ht : TRel G nt ρ t τ) (hv : VRel ρ v v') :
    ∃ t', K t' H n = some r ∧ TRel G nt ρ t' (putT τ d v') := by
  unfold dput at h
  cases d with
  | none => exact ⟨t, h, ht⟩
  | some d =>
    obtain ⟨h1, h2⟩ := cond_some h
    rw [blt_eq, decide_eq_true_eq] at h1
    exact ⟨_, h2, ht.set h1 hv⟩
/-- The indices and the operations of a region. -/
inductive Idx (ops : Array Oper) : List Nat → List Oper → Prop
  | nil : Idx ops [] []
  | cons (i : Nat) (is : List Nat) (o : Oper) (r : List Oper) : ops[i]? = some o → Idx ops is r → Idx ops (i :: is) (o :: r)
theorem Idx.range (ops : Array Oper) : ∀ (l : List Oper) (k : Nat), (∀ j, l[j]? = ops[k + j]?) → Idx ops (List.range' k l.length) l
  | [], k, h => .nil
  | o :: l, k, h => by
    refine .cons k _ o l (by simpa using (h 0).symm) (Idx.range ops l (k + 1) fun j => ?_)
    have := h (j + 1)
    rw [List.getElem?_cons_succ] at this
    rw [this]; congr 1; omega
theorem Idx.all (ops : Array Oper) : Idx ops (List.range ops.size) ops.toList := by
  have := Idx.range ops ops.toList 0 (fun j => by simp)
  rw [Array.length_toList, ← List.range_eq_range'] at this
  exact this
theorem quick_some {o : Op} {x : Operand} (h : quick o = some x) : o = .move x ∨ o = .assign x := by
  unfold quick at h
  split at h
  · cases h; exact .inl rfl
  · cases h; exact .inr rfl
  · cases h
theorem dop_defer {E : Env} {c : Call} {t : Tmps} {H : Heap} {n : Nat} {r : AV × Heap × Nat} (h : dop E (.defer c) t H n = some r) : False := fail_some (α := AV) (H := H) (n := n) h
theorem gd_some {g : AV} {want : Bool} {m : M AV} {H H' : Heap} {n n' : Nat} {v : AV} (h : gd g want m H n = some (v, H', n')) : (g = .bool want ∧ m H n = some (v, H', n')) ∨ (v = .tuple [] ∧ H' = H ∧ n' = n ∧ (g = .bool (!want) ∨ ∃ l, g = .tuple l)) := by
  unfold gd at h
  split at h
  · rename_i p
    cases want <;> cases p
    · exact .inl ⟨rfl, h⟩
    · obtain ⟨rfl, rfl, rfl⟩ := ret_some h; exact .inr ⟨rfl, rfl, rfl, .inl rfl⟩
    · obtain ⟨rfl, rfl, rfl⟩ := ret_some h; exact .inr ⟨rfl, rfl, rfl, .inl rfl⟩
    · exact .inl ⟨rfl, h⟩
  · obtain ⟨rfl, rfl, rfl⟩ := ret_some h; exact .inr ⟨rfl, rfl, rfl, .inr ⟨_, rfl⟩⟩
  · exact (fail_some h).elim
theorem yielded_at {G nt : Nat} {ρ : Rho} {t : Tmps} {τ : Array Value} {ops : Array Oper} {j d : Nat} (ht : TRel G nt ρ t τ) (hj : dstAt ops.toList j = some d) (hd : d < nt) : yielded ops τ j = (match τ.getD d undef with | .bool b => some b | _ => none) := by
  unfold dstAt at hj
  rw [Array.getElem?_toList] at hj
  unfold yielded
  rw [hj]
  have hs := ht.size
  simp only [Option.bind_some, Array.getD_eq_getD_getElem?]
  rw [Array.getElem?_eq_getElem (by omega)]
  generalize τ[d]'(by omega) = u
  cases u <;> rfl
/-- What a state reaches: the steps, and what goes on from there. -/
structure Goes (G nt : Nat) (ρ : Rho) (H : Heap) (w : World) (ρ1 : Rho) (t1 : Tmps) (τ1 : Array Value) (H1 : Heap) (w1 : World) : Prop where
  stp : Stp ρ H w ρ1 H1 w1
  tmps : TRel G nt ρ1 t1 τ1
theorem dops_sound {E : Env} (hE : EnvOK E) {nt : Nat} {ops : Array Oper} {K : Tmps → M AV} {b : Frame} {k : List Item} {cs : List Frame} {res : AV × Heap × Nat} : ∀ (rest : List Oper) (is : List Nat) (t : Tmps) (τ : Array Value) (H : Heap) (n : Nat) (ρ : Rho) (w : World), Idx ops is rest → TRel E.ng nt ρ t τ → Sim ρ H w →
    dops E nt ops.toList rest t K H n = some res → ∃ t1 τ1 H1 n1 ρ1 w1, Goes E.ng nt ρ H w ρ1 t1 τ1 H1 w1 ∧ K t1 H1 n1 = some res ∧ Steps E.P (lone (on b τ (.inRegion ops is :: k)) cs w) (lone (on b τ1 (.inRegion ops [] :: k)) cs w1)
  | [], is, t, τ, H, n, ρ, w, hi, ht, hs, h => by
    cases hi
    exact ⟨t, τ, H, n, ρ, w, ⟨.refl hs, ht⟩, h, .refl _ _⟩
  | o :: rest, is, t, τ, H, n, ρ, w, hi, ht, hs, h => by
    cases hi with
    | cons i is _ _ ho hir =>
    have next : ∀ (v : AV) (v' : Value) (H' : Heap) (n' : Nat) (ρ' : Rho) (w' : World), Stp ρ H w ρ' H' w' → VRel ρ' v v' → dput nt t o.dst v (fun t' => dops E nt ops.toList rest t' K) H' n' = some res →
        Steps E.P (lone (on b τ (.inRegion ops (i :: is) :: k)) cs w) (lone (on b (putT τ o.dst v') (.inRegion ops is :: k)) cs w') →
        ∃ t1 τ1 H1 n1 ρ1 w1, Goes E.ng nt ρ H w ρ1 t1 τ1 H1 w1 ∧ K t1 H1 n1 = some res ∧ Steps E.P (lone (on b τ (.inRegion ops (i :: is) :: k)) cs w) (lone (on b τ1 (.inRegion ops [] :: k)) cs w1) := by
      intro v v' H' n' ρ' w' q1 q2 q3 q4
      obtain ⟨t', q5, q6⟩ := dput_some q3 (ht.mono q1.ext) q2
      obtain ⟨t1, τ1, H1, n1, ρ1, w1, g, g2, g3⟩ := dops_sound hE rest is t' _ H' n' ρ' w' hir q6 q1.sim q5
      exact ⟨t1, τ1, H1, n1, ρ1, w1, ⟨q1.trans g.stp, g.tmps⟩, g2, q4.trans g3⟩
    unfold dops at h
    cases hg : o.guard with
    | none =>
      simp only [hg] at h
      have hw : Region.wanted o (yielded ops τ) = true := by simp [Region.wanted, hg]
      cases hq : quick o.op with
      | some x =>
        simp only [hq] at h
        have hex : execOp (evalT τ) o = pure (.value (evalT τ x)) := by
          rcases quick_some hq with e | e <;> simp only [execOp, e]
        have hd : ∀ c, o.op ≠ .defer c := by
          intro c e
          rcases quick_some hq with e2 | e2 <;> rw [e] at e2 <;> cases e2
        obtain ⟨v', w', ⟨rfl, rfl⟩, s1⟩ := on_op (P := E.P) (b := b) (k := k) (cs := cs) (w := w) (rest := is) (R := fun v w' => v = evalT τ x ∧ w' = w) ho hw hd (by rw [hex]; exact ⟨rfl, rfl⟩)
        exact next (ev E.ng t x) _ H n ρ _ (.refl hs) (ht.ev x) h s1
      | none =>
        simp only [hq] at h
        obtain ⟨v, H', n', h1, h2⟩ := bd_some h
        have hd : ∀ c, o.op ≠ .defer c := fun c e => by rw [e] at h1; exact dop_defer h1
        obtain ⟨v', w', ⟨ρ', q1, q2⟩, s1⟩ := on_op (P := E.P) (b := b) (k := k) (cs := cs) (w := w) (rest := is) ho hw hd (dop_sound hE (fun x => ht.ev x) (fun _ => rfl) hs ht.glob h1)
        exact next v v' H' n' ρ' w' q1 q2 h2 s1
    | some p =>
      obtain ⟨j, want⟩ := p
      simp only [hg] at h
      cases hj : dstAt ops.toList j with
      | none => simp only [hj] at h; exact (fail_some h).elim
      | some d =>
        simp only [hj] at h
        obtain ⟨h1, h2⟩ := cond_some h
        rw [blt_eq, decide_eq_true_eq] at h1
        obtain ⟨v, H', n', h3, h4⟩ := bd_some h2
        have hy := yielded_at ht hj h1
        have htd := ht.tmp d
        rcases gd_some h3 with ⟨e1, e2⟩ | ⟨rfl, rfl, rfl, e3⟩
        · have hw : Region.wanted o (yielded ops τ) = true := by
            rw [e1] at htd
            generalize τ.getD d undef = u at htd hy
            cases htd
            simp [Region.wanted, hg, hy]
          have hd : ∀ c, o.op ≠ .defer c := fun c e => by rw [e] at e2; exact dop_defer e2
          obtain ⟨v', w', ⟨ρ', q1, q2⟩, s1⟩ := on_op (P := E.P) (b := b) (k := k) (cs := cs) (w := w) (rest := is) ho hw hd (dop_sound hE (fun x => ht.ev x) (fun _ => rfl) hs ht.glob e2)
          exact next v v' H' n' ρ' w' q1 q2 h4 s1
        · have hw : Region.wanted o (yielded ops τ) = false := by
            rcases e3 with e3 | ⟨l, e3⟩
            · rw [e3] at htd
              generalize τ.getD d undef = u at htd hy
              cases htd
              simp [Region.wanted, hg, hy]
            · rw [e3] at htd
              generalize τ.getD d undef = u at htd hy
              cases htd
              simp [Region.wanted, hg, hy]
          have s1 := on_op_skip (P := E.P) (b := b) (k := k) (cs := cs) (w := w) (rest := is) (ops := ops) (i := i) (τ := τ) (by simp [ho, hw])
          rw [ho] at s1
          exact next (.tuple []) undef H' n' ρ w (.refl hs) (.tuple _ _ .nil) h4 (.one s1)
end Go.Dn

/- Soundness, behind 16: regions whose order is drawn: what looks at no memory, what only reads. -/
namespace Go.Dn
open M Go.RowKit
set_option linter.unusedSimpArgs false
set_option linter.unusedVariables false

def IsPure (m : M AV) : Prop := ∃ o, m = ofO o
def IsRead (m : M AV) : Prop := ∃ f : Heap → Option AV, m = fun H n => match f H with
  | some v => some (v, H, n)
  | none => none
theorem IsPure.ret (a : AV) : IsPure (ret a) := ⟨some a, rfl⟩
theorem IsPure.fail : IsPure fail := ⟨none, rfl⟩
theorem IsPure.ofO (o : Option AV) : IsPure (ofO o) := ⟨o, rfl⟩
theorem IsPure.cond {b : Bool} {m k : M AV} (h : IsPure m) (h' : IsPure k) : IsPure (bif b then m else k) := by cases b <;> assumption
theorem IsPure.wh {α : Type} {o : Option α} {f : α → M AV} (h : ∀ a, IsPure (f a)) : IsPure (wh o f) := by
  cases o with
  | none => exact .fail
  | some a => exact h a
theorem IsPure.read {m : M AV} (h : IsPure m) : IsRead m := by
  obtain ⟨o, rfl⟩ := h
  exact ⟨fun _ => o, by funext H n; cases o <;> rfl⟩
theorem IsRead.cond {b : Bool} {m k : M AV} (h : IsRead m) (h' : IsRead k) : IsRead (bif b then m else k) := by cases b <;> assumption
theorem ofO_bd (o : Option (List AV)) (f : List AV → AV) : bd (ofO o) (fun cs => M.ret (f cs)) = ofO (o.map f) := by
  cases o <;> rfl
theorem pure_asEq (op : BinOp) (o : Option Bool) : IsPure (asEq op o) := by
  unfold asEq; split <;> first | exact .ret _ | exact .fail
theorem pure_bi (op : BinOp) (x y : AV) : IsPure (bi op x y) := by
  unfold bi
  split
  · split <;> exact .ofO _
  · exact .ofO _
  · exact .fail
theorem pure_dbin (P : Program) (op : BinOp) (ty : TypeId) (x y : AV) : IsPure (dbin P op ty x y) := by
  unfold dbin
  split
  · exact .wh fun ks => by unfold bis; split <;> first | exact pure_asEq _ _ | exact .fail
  · exact pure_bi _ _ _
  · exact pure_bi _ _ _
  · exact pure_asEq _ _
  · exact .cond .fail (pure_asEq _ _)
  · exact pure_asEq _ _
  · exact pure_asEq _ _
  · exact pure_asEq _ _
  · exact pure_asEq _ _
  · exact .fail
theorem pure_un (op : UnOp) (x : AV) : IsPure (un op x) := by unfold un; split <;> first | exact .ret _ | exact .fail
theorem pure_pk (c a b : AV) : IsPure (pk c a b) := by unfold pk; split <;> first | exact .ret _ | exact .fail
theorem pure_nck (x : AV) : IsPure (nck x) := by unfold nck; split <;> first | exact .ret _ | exact .fail
theorem pure_ex (x : AV) (i : Nat) : IsPure (ex x i) := by unfold ex; split <;> first | exact .ofO _ | exact .fail
theorem pure_ci (k : IntKind) (x : AV) : IsPure (ci k x) := by unfold ci; split <;> first | exact .ret _ | exact .fail
theorem pure_sid (x : AV) : IsPure (sid x) := by unfold sid; split <;> first | exact .ret _ | exact .fail
theorem pure_i2s (x : AV) : IsPure (i2s x) := by unfold i2s; split <;> first | exact .ret _ | exact .fail
theorem pure_ixs (x i : AV) : IsPure (ixs x i) := by
  unfold ixs; split
  · split <;> first | exact .ret _ | exact .fail
  · exact .fail
theorem pure_ixa (l : Nat) (x i : AV) : IsPure (ixa l x i) := by
  unfold ixa; split
  · exact .cond (.ofO _) .fail
  · exact .fail
theorem pure_ixp (z : Nat) (x i : AV) : IsPure (ixp z x i) := by
  unfold ixp; split
  · exact .cond (.ret _) .fail
  · exact .fail
theorem pure_ixpa (z l : Nat) (x i : AV) : IsPure (ixpa z l x i) := by
  unfold ixpa; split
  · exact .cond (.ret _) .fail
  · exact .fail
theorem pure_fa (x : AV) (o : Nat) : IsPure (fa x o) := by unfold fa; split <;> first | exact .ret _ | exact .fail
theorem pure_fi (x : AV) (o : Nat) : IsPure (fi x o) := by unfold fi; split <;> first | exact .ofO _ | exact .fail
theorem pure_fia (x : AV) (o z : Nat) : IsPure (fia x o z) := by
  unfold fia; split
  · exact .cond (.ret _) .fail
  · exact .fail
theorem pure_ss (x : AV) (lo hi : Option AV) : IsPure (ss x lo hi) := by
  unfold ss; split
  · split <;> first | exact .ret _ | exact .fail
  · exact .fail
theorem pure_sls (z : Nat) (x : AV) (lo hi : Option AV) : IsPure (sls z x lo hi) := by
  unfold sls; split
  · split <;> first | exact .ret _ | exact .fail
  · split
    · exact .cond (.ret _) .fail
    · exact .fail
  · exact .fail
theorem pure_mx2 (x y : AV) : IsPure (mx2 x y) := by
  unfold mx2; split
  · exact .cond (.ret _) .fail
  · exact .fail
theorem pure_mn2 (x y : AV) : IsPure (mn2 x y) := by
  unfold mn2; split
  · exact .cond (.ret _) .fail
  · exact .fail
theorem pure_lnS (x : AV) : IsPure (lnS x) := by unfold lnS; split <;> first | exact .ret _ | exact .fail
theorem pure_lnL (x : AV) : IsPure (lnL x) := by unfold lnL; split <;> first | exact .ret _ | exact .fail
theorem read_get {i : Nat} (f : AObj → M AV) (h : ∀ ob, IsPure (f ob)) : IsRead (bd (getO i) f) := by
  refine ⟨fun H => match H.get i with
    | some ob => match f ob H 0 with
      | some (v, _, _) => some v
      | none => none
    | none => none, ?_⟩
  funext H n
  unfold bd getO
  cases e : H.get i with
  | none => simp only [e]
  | some ob =>
    obtain ⟨o, ho⟩ := h ob
    simp only [e, ho]
    cases o <;> rfl
theorem read_ld (x : AV) : IsRead (ld x) := by
  unfold ld; split
  · exact read_get _ fun ob => by split <;> first | exact .ofO _ | exact .fail
  · exact IsPure.fail.read
theorem rd_bd (i o z : Nat) (f : List AV → M AV) (h : ∀ cs, IsPure (f cs)) : IsRead (bd (rd i o z) f) := by
  have : bd (rd i o z) f = bd (getO i) fun ob => match ob with
    | .row cs _ _ => bif Nat.ble (o + z) cs.length then f ((cs.drop o).take z) else fail
    | _ => fail := by
    funext H n
    unfold bd rd bd getO
    cases H.get i with
    | none => rfl
    | some ob =>
      cases ob with
      | row cs e rw' => cases e1 : Nat.ble (o + z) cs.length <;> simp [e1, M.ret, fail]
      | _ => rfl
  rw [this]
  exact read_get _ fun ob => by
    split
    · exact .cond (h _) .fail
    · exact .fail
theorem read_lda (z : Nat) (x : AV) : IsRead (lda z x) := by
  unfold lda; split
  · exact rd_bd _ _ _ _ fun _ => .ret _
  · exact IsPure.fail.read
theorem read_b2s (x : AV) : IsRead (b2s x) := by
  unfold b2s; split
  · exact (IsPure.ret _).read
  · refine .cond (IsPure.ret _).read (rd_bd _ _ _ _ fun cs => ?_)
    cases e : bytesOf? cs with
    | none => exact ⟨none, rfl⟩
    | some l => exact ⟨some (.str l), rfl⟩
  · exact IsPure.fail.read
theorem read_lnM (x : AV) : IsRead (lnM x) := by
  unfold lnM; split
  · exact (IsPure.ret _).read
  · exact read_get _ fun ob => by split <;> first | exact .ret _ | exact .fail
  · exact IsPure.fail.read
theorem two_pure {f : AV → AV → M AV} (h : ∀ x y, IsPure (f x y)) (xs : List AV) : IsPure (two f xs) := by
  unfold two; split
  · exact h _ _
  · exact .fail
theorem IsPure.bd' {m : M AV} {f : AV → M AV} (h : IsPure m) (h' : ∀ a, IsPure (f a)) : IsPure (bd m f) := by
  obtain ⟨o, rfl⟩ := h
  cases o with
  | none => exact ⟨none, rfl⟩
  | some a =>
    obtain ⟨o', e⟩ := h' a
    exact ⟨o', e⟩
theorem fold2_pure {f : AV → AV → M AV} (h : ∀ x y, IsPure (f x y)) : ∀ (l : List AV) (x : AV), IsPure (fold2 f x l)
  | [], x => .ret x
  | y :: l, x => .bd' (h x y) fun v => fold2_pure h l v
theorem many_pure {f : AV → AV → M AV} (h : ∀ x y, IsPure (f x y)) (xs : List AV) : IsPure (many f xs) := by
  unfold many; split
  · exact fold2_pure h _ _
  · exact .fail
theorem kind_zero {E : Env} {op : Op} (h : opKind E.P op = 0) (t : Tmps) : IsPure (dop E op t) := by
  cases op with
  | move x => exact .ret _
  | assign x => exact .ret _
  | pick c a b => exact pure_pk _ _ _
  | build ty ps => exact .cond (.wh fun z => .wh fun l => by unfold bu; rw [ofO_bd]; exact .ofO _) .fail
  | binOp op ty x y c => exact pure_dbin _ _ _ _ _
  | unOp op ty x => exact pure_un _ _
  | nilCheck x => exact pure_nck _
  | makeFunc fn a b => cases fn <;> first | exact .ret _ | exact .fail
  | slice ty x lo hi mx =>
    cases mx with
    | some _ => exact .fail
    | none =>
      simp only [dop]
      cases e : tyU E.P ty <;> simp only [e] <;> first | exact .fail | exact pure_ss _ _ _ | exact .cond (pure_sls _ _ _ _) .fail
  | fieldAddr ty x i =>
    simp only [dop]
    cases e : tyU E.P ty <;> simp only [e] <;> first | exact .fail | exact .wh fun f => .cond .fail (pure_fa _ _)
  | field ty x i =>
    simp only [dop]
    cases e : tyU E.P ty <;> simp only [e] <;> first | exact .fail | exact .wh fun f => .cond (.cond (pure_fia _ _ _) (pure_fi _ _)) .fail
  | indexAddr ty x i =>
    simp only [dop]
    cases e : tyU E.P ty <;> simp only [e] <;> first | exact .fail | exact .cond (pure_ixp _ _ _) .fail | exact .cond (pure_ixpa _ _ _ _) .fail
  | index ty x i =>
    simp only [dop]
    cases e : tyU E.P ty <;> simp only [e] <;> first | exact .fail | exact pure_ixs _ _ | exact .cond (.cond .fail (pure_ixa _ _ _)) .fail
  | extract x i => exact pure_ex _ _
  | convert s d x =>
    simp only [dop, dconv]
    simp only [opKind] at h
    cases e : tyU E.P s with
    | int k =>
      simp only [e]
      cases e2 : tyU E.P d <;> simp only [e2] <;> first | exact .fail | exact pure_ci _ _ | exact pure_i2s _
    | string =>
      simp only [e] at h ⊢
      cases e2 : tyU E.P d <;> simp only [e2] at h ⊢ <;> first | exact pure_sid _ | cases h
    | slice el => simp only [e] at h; cases h
    | _ => simp only [e] at h; cases h
  | call c =>
    simp only [opKind] at h
    simp only [dop, dcallee]
    cases e : c.callee with
    | builtin b =>
      simp only [e] at h ⊢
      cases b with
      | max => exact many_pure pure_mx2 _
      | min => exact many_pure pure_mn2 _
      | unsafeSliceData =>
        simp only [dbuiltin]
        unfold one
        split
        · unfold usd
          split <;> first | exact .ret _ | exact .cond .fail (.ret _) | exact .fail
        · exact .fail
      | cap =>
        simp only [dbuiltin]
        unfold dcap
        split
        · split <;> first | exact .fail | (unfold cpN; split <;> first | exact .ret _ | exact .fail)
        · exact .fail
      | len =>
        simp only [dbuiltin] at h ⊢
        cases e2 : c.argTypes.toList with
        | nil => simp only [e2] at h; cases h
        | cons ty r =>
          cases r with
          | cons _ _ => simp only [e2] at h; cases h
          | nil =>
            simp only [e2] at h
            unfold dlen
            split
            · rename_i t0 x0 e3 e4
              cases e3
              cases e5 : tyU E.P ty <;> simp only [e5] at h ⊢ <;> first | exact pure_lnS _ | exact pure_lnL _ | cases h
            · exact .fail
      | _ => cases h
    | value x => simp only [e] at h; cases h
    | invoke a b => simp only [e] at h; cases h
  | _ => cases h
theorem kind_one {E : Env} {op : Op} (h : opKind E.P op = 1) (t : Tmps) : IsRead (dop E op t) := by
  cases op with
  | load ty a => exact .cond (.cond (read_lda _ _) (read_ld _)) IsPure.fail.read
  | convert s d x =>
    simp only [dop, dconv]
    simp only [opKind] at h
    cases e : tyU E.P s with
    | slice el =>
      simp only [e]
      cases e2 : tyU E.P d with
      | string =>
        simp only [e2]
        cases e3 : tyU E.P el with
        | int k => cases k <;> simp only [e3] <;> first | exact IsPure.fail.read | exact read_b2s _
        | _ => simp only [e3]; exact IsPure.fail.read
      | _ => simp only [e2]; exact IsPure.fail.read
    | int k => simp only [e] at h; cases h
    | string => simp only [e] at h; cases e2 : tyU E.P d <;> simp only [e2] at h <;> cases h
    | _ => simp only [e] at h; cases h
  | call c =>
    simp only [opKind] at h
    simp only [dop, dcallee]
    cases e : c.callee with
    | builtin b =>
      simp only [e] at h ⊢
      cases b with
      | len =>
        simp only [dbuiltin] at h ⊢
        unfold dlen
        split
        · rename_i ty x0 e3 e4
          simp only [e3] at h
          cases e5 : tyU E.P ty <;> simp only [e5] at h ⊢ <;> first | exact IsPure.fail.read | exact read_lnM _ | cases h
        · exact IsPure.fail.read
      | _ => cases h
    | value x => simp only [e] at h; cases h
    | invoke a b => simp only [e] at h; cases h
  | _ => cases h
end Go.Dn

/- Soundness, behind 16: a region whose order is drawn comes to the same in every order. -/
namespace Go.Dn
open M Go.RowKit
set_option linter.unusedSimpArgs false
set_option linter.unusedVariables false

theorem evs_congr {G : Nat} {t t' : Tmps} {l : List Operand} (h : ∀ x ∈ l, ev G t x = ev G t' x) : l.map (ev G t) = l.map (ev G t') := List.map_congr_left h
theorem evo_congr {G : Nat} {t t' : Tmps} {o : Option Operand} (h : ∀ x ∈ o.toArray.toList, ev G t x = ev G t' x) : evo G t o = evo G t' o := by
  cases o with
  | none => rfl
  | some x => simp only [evo]; rw [h x (by simp)]
theorem partsA_congr {f : Nat → Option (Nat × Nat)} {G : Nat} {t t' : Tmps} : ∀ {ps : List (Nat × Operand)}, (∀ x ∈ ps.map (·.2), ev G t x = ev G t' x) → partsA f G t ps = partsA f G t' ps
  | [], _ => rfl
  | (i, x) :: ps, h => by
    unfold partsA
    rw [partsA_congr (ps := ps) (fun y hy => h y (by simp only [List.map_cons]; exact List.mem_cons_of_mem _ hy)), h x (by simp)]
theorem dop_congr {E : Env} {t t' : Tmps} (op : Op) (h : ∀ x ∈ op.operands.toList, ev E.ng t x = ev E.ng t' x) : dop E op t = dop E op t' := by
  cases op with
  | build ty ps => simp only [dop]; rw [partsA_congr (fun x hx => h x (by simpa [Op.operands] using hx))]
  | buildSlice ty n ps =>
    simp only [dop]
    cases tyU E.P ty <;> first | rfl | (simp only []; rw [partsA_congr (fun x hx => h x (by simpa [Op.operands] using hx))])
  | makeFunc fn a b =>
    simp only [dop]
    rw [evs_congr (l := a.toList) (fun x hx => h x (by simp [Op.operands]; exact .inl (by simpa using hx))), evs_congr (l := b.toList) (fun x hx => h x (by simp [Op.operands]; exact .inr (by simpa using hx)))]
  | slice ty x lo hi mx =>
    simp only [dop]
    rw [h x (by simp [Op.operands]), evo_congr (o := lo) (fun y hy => h y (by simp [Op.operands] at hy ⊢; simp [hy])), evo_congr (o := hi) (fun y hy => h y (by simp [Op.operands] at hy ⊢; simp [hy]))]
  | call c =>
    have ha := evs_congr (l := c.args.toList) (fun x hx => h x (by simp [Op.operands, Call.operands]; exact .inr (by simpa using hx)))
    simp only [dop, dcallee]
    cases hc : c.callee with
    | builtin b => simp only [hc, ha]
    | invoke a b => simp only [hc]
    | value x =>
      have hx := h x (by simp [Op.operands, Call.operands, hc])
      cases x <;> simp only [hc, ha, hx]
  | next it b =>
    have hx := h it (by simp [Op.operands])
    cases b <;> simp only [dop, hx]
  | pick c a b => simp only [dop]; rw [h c (by simp [Op.operands]), h a (by simp [Op.operands]), h b (by simp [Op.operands])]
  | alloc e => rfl
  | move x => simp only [dop]; rw [h x (by simp [Op.operands])]
  | assign x => simp only [dop]; rw [h x (by simp [Op.operands])]
  | box e x => simp only [dop]; rw [h x (by simp [Op.operands])]
  | load ty x => simp only [dop]; rw [h x (by simp [Op.operands])]
  | nilCheck x => simp only [dop]; rw [h x (by simp [Op.operands])]
  | unOp op ty x => simp only [dop]; rw [h x (by simp [Op.operands])]
  | convert s d x => simp only [dop]; rw [h x (by simp [Op.operands])]
  | fieldAddr ty x i => simp only [dop]; rw [h x (by simp [Op.operands])]
  | field ty x i => simp only [dop]; rw [h x (by simp [Op.operands])]
  | range ty x => simp only [dop]; rw [h x (by simp [Op.operands])]
  | extract x i => simp only [dop]; rw [h x (by simp [Op.operands])]
  | store ty a v => simp only [dop]; rw [h a (by simp [Op.operands]), h v (by simp [Op.operands])]
  | binOp op ty a v c => simp only [dop]; rw [h a (by simp [Op.operands]), h v (by simp [Op.operands])]
  | makeSlice ty a v => simp only [dop]; rw [h a (by simp [Op.operands]), h v (by simp [Op.operands])]
  | indexAddr ty a v => simp only [dop]; rw [h a (by simp [Op.operands]), h v (by simp [Op.operands])]
  | index ty a v => simp only [dop]; rw [h a (by simp [Op.operands]), h v (by simp [Op.operands])]
  | _ => rfl
theorem tmpsOf_mem : ∀ {l : List Operand} {i : Nat}, Operand.tmp i ∈ l → i ∈ tmpsOf l
  | x :: l, i, h => by
    rcases List.mem_cons.1 h with rfl | h2
    · exact List.mem_cons_self
    · clear h
      cases x with
      | tmp j => exact List.mem_cons_of_mem _ (tmpsOf_mem (l := l) h2)
      | const v => exact tmpsOf_mem (l := l) h2
      | global v => exact tmpsOf_mem (l := l) h2
      | func v => exact tmpsOf_mem (l := l) h2
theorem ev_congr {G : Nat} {t t' : Tmps} {x : Operand} (h : ∀ i, x = .tmp i → t i = t' i) : ev G t x = ev G t' x := by
  cases x with
  | tmp i => exact h i rfl
  | _ => rfl
theorem gop_congr {E : Env} {nt : Nat} {all : List Oper} {o : Oper} {t t' : Tmps} (h : ∀ d ∈ sees all o, t d = t' d) : gop E nt all o t = gop E nt all o t' := by
  have hop : (∀ i ∈ tmpsOf o.op.operands.toList, t i = t' i) → dop E o.op t = dop E o.op t' := fun hh => dop_congr o.op fun x hx => ev_congr fun i e => hh i (by subst e; exact tmpsOf_mem hx)
  unfold gop
  unfold sees at h
  cases hg : o.guard with
  | none =>
    simp only [hg] at h ⊢
    cases hq : quick o.op with
    | some x =>
      simp only
      rw [ev_congr (x := x) (t := t) (t' := t') fun i e => h i (by
        rcases quick_some hq with e2 | e2 <;> rw [e2, e] <;> simp [Op.operands, tmpsOf])]
    | none => simp only; rw [hop h]
  | some p =>
    obtain ⟨j, want⟩ := p
    simp only [hg] at h ⊢
    cases hj : dstAt all j with
    | none => rfl
    | some d =>
      simp only [hj] at h ⊢
      rw [hop (fun i hi => h i (List.mem_cons_of_mem _ hi)), h d List.mem_cons_self]
theorem gop_pure {E : Env} {nt : Nat} {all : List Oper} {o : Oper} (h : opKind E.P o.op = 0) (t : Tmps) : IsPure (gop E nt all o t) := by
  unfold gop
  split
  · split
    · exact .ret _
    · exact kind_zero h t
  · split
    · refine .cond ?_ .fail
      unfold gd
      split
      · exact .cond (kind_zero h t) (.ret _)
      · exact .ret _
      · exact .fail
    · exact .fail
theorem gop_read {E : Env} {nt : Nat} {all : List Oper} {o : Oper} (h : opKind E.P o.op = 1) (t : Tmps) : IsRead (gop E nt all o t) := by
  unfold gop
  split
  · split
    · exact (IsPure.ret _).read
    · exact kind_one h t
  · split
    · refine .cond ?_ IsPure.fail.read
      unfold gd
      split
      · exact .cond (kind_one h t) (IsPure.ret _).read
      · exact (IsPure.ret _).read
      · exact IsPure.fail.read
    · exact IsPure.fail.read
def putA (t : Tmps) (d : Option Tmp) (v : AV) : Tmps :=
  match d with
  | some d => tset t d v
  | none => t
def dstOK (nt : Nat) (d : Option Tmp) : Prop := ∀ e, d = some e → e < nt
theorem dput_iff {nt : Nat} {t : Tmps} {d : Option Tmp} {v : AV} {K : Tmps → M AV} {H : Heap} {n : Nat} {r : AV × Heap × Nat} : dput nt t d v K H n = some r ↔ dstOK nt d ∧ K (putA t d v) H n = some r := by
  unfold dput dstOK putA
  cases d with
  | none => simp
  | some d =>
    simp only [blt_eq]
    by_cases h : d < nt
    · simp [h]
    · simp [h, fail]
theorem bd_iff {α β : Type} {m : M α} {f : α → M β} {H : Heap} {n : Nat} {r : β × Heap × Nat} : bd m f H n = some r ↔ ∃ a H1 n1, m H n = some (a, H1, n1) ∧ f a H1 n1 = some r := by
  refine ⟨bd_some, ?_⟩
  rintro ⟨a, H1, n1, h1, h2⟩
  unfold bd
  rw [h1]; exact h2
theorem beq0_eq {a b : AV} (h : beq0 a b = true) : a = b := by
  unfold beq0 at h
  split at h <;> simp_all [beq_eq, beqL_eq, eqI_eq]
  exact eqK_eq h.1
theorem beqAs_eq : ∀ {a b : List AV}, beqAs a b = true → a = b
  | [], [], _ => rfl
  | a :: x, b :: y, h => by
    have h : (beq0 a b && beqAs x y) = true := h
    rw [Bool.and_eq_true] at h
    rw [beq0_eq h.1, beqAs_eq h.2]
  | [], _ :: _, h => by cases h
  | _ :: _, [], h => by cases h
theorem beqA_eq {a b : AV} (h : beqA a b = true) : a = b := by
  unfold beqA at h
  split at h
  · rw [beqAs_eq h]
  · rw [beqAs_eq h]
  · rw [Bool.and_eq_true, Bool.and_eq_true] at h
    rw [Nat.eq_of_beq_eq_true h.1, beqAs_eq h.2.1, beqAs_eq h.2.2]
  · exact beq0_eq h
theorem IsRead.same {m : M AV} (h : IsRead m) {H H' : Heap} {n n' : Nat} {v : AV} (e : m H n = some (v, H', n')) : H' = H ∧ n' = n := by
  obtain ⟨f, rfl⟩ := h
  simp only at e
  split at e
  · simp only [Option.some.injEq, Prod.mk.injEq] at e; exact ⟨e.2.1.symm, e.2.2.symm⟩
  · cases e
abbrev Pd := Nat × M AV × AV
def RckOK (ms : List Nat) (i : Nat) (pd : List Pd) (H : Heap) (n : Nat) : Prop := ∀ e ∈ pd, bef ms e.1 i = false → e.2.1 H n = some (e.2.2, H, n) ∧ beqA e.2.2 e.2.2 = true
theorem again_iff {α : Type} {ms : List Nat} {i : Nat} {k : M α} {H : Heap} {n : Nat} {r : α × Heap × Nat} : ∀ {pd : List Pd}, (∀ e ∈ pd, IsRead e.2.1) → (again ms i pd k H n = some r ↔ RckOK ms i pd H n ∧ k H n = some r)
  | [], _ => ⟨fun h => ⟨fun e he => (by cases he), h⟩, fun h => h.2⟩
  | (j, m, v) :: l, hr => by
    have ih := again_iff (ms := ms) (i := i) (k := k) (H := H) (n := n) (r := r) (pd := l) (fun e he => hr e (List.mem_cons_of_mem _ he))
    unfold again
    cases hb : bef ms j i with
    | true =>
      simp only [cond_true]
      rw [ih]
      constructor
      · rintro ⟨h1, h2⟩
        refine ⟨fun e he hbe => ?_, h2⟩
        rcases List.mem_cons.1 he with rfl | he
        · simp only at hbe; rw [hb] at hbe; cases hbe
        · exact h1 e he hbe
      · rintro ⟨h1, h2⟩
        exact ⟨fun e he => h1 e (List.mem_cons_of_mem _ he), h2⟩
    | false =>
      simp only [cond_false]
      unfold rck
      rw [bd_iff]
      constructor
      · rintro ⟨u, H1, n1, h1, h2⟩
        obtain ⟨rfl, rfl⟩ := (hr (j, m, v) List.mem_cons_self).same h1
        obtain ⟨h3, h4⟩ := cond_some h2
        have := beqA_eq h3
        subst this
        obtain ⟨h5, h6⟩ := ih.1 h4
        refine ⟨fun e he hbe => ?_, h6⟩
        rcases List.mem_cons.1 he with rfl | he
        · exact ⟨h1, h3⟩
        · exact h5 e he hbe
      · rintro ⟨h1, h2⟩
        obtain ⟨h3, h4⟩ := h1 (j, m, v) List.mem_cons_self hb
        refine ⟨v, H, n, h3, ?_⟩
        simp only at h4
        simp only [h4, cond_true]
        exact ih.2 ⟨fun e he => h1 e (List.mem_cons_of_mem _ he), h2⟩
def pnd (E : Env) (nt : Nat) (all : List Oper) (i : Nat) (o : Oper) (t : Tmps) (v : AV) (pd : List Pd) : List Pd := if opKind E.P o.op = 1 then (i, gop E nt all o t, v) :: pd else pd
theorem pnd_read {E : Env} {nt : Nat} {all : List Oper} {i : Nat} {o : Oper} {t : Tmps} {v : AV} {pd : List Pd} (h : ∀ e ∈ pd, IsRead e.2.1) : ∀ e ∈ pnd E nt all i o t v pd, IsRead e.2.1 := by
  unfold pnd
  split
  · rename_i hk
    intro e he
    rcases List.mem_cons.1 he with rfl | he
    · exact gop_read hk t
    · exact h e he
  · exact h
theorem dseq_iff {E : Env} {nt : Nat} {all : List Oper} {ms : List Nat} {i : Nat} {r : List Nat} {t : Tmps} {pd : List Pd} {K : Tmps → M AV} {H : Heap} {n : Nat} {res : AV × Heap × Nat} (hr : ∀ e ∈ pd, IsRead e.2.1) :
    dseq E nt all ms (i :: r) t pd K H n = some res ↔ ∃ o v H1 n1, all[i]? = some o ∧ gop E nt all o t H n = some (v, H1, n1) ∧ dstOK nt o.dst ∧ (2 ≤ opKind E.P o.op → RckOK ms i pd H1 n1) ∧ dseq E nt all ms r (putA t o.dst v) (pnd E nt all i o t v pd) K H1 n1 = some res := by
  have h0 : dseq E nt all ms (i :: r) t pd K = match all[i]? with
    | none => fail
    | some o => bd (gop E nt all o t) fun v =>
      match opKind E.P o.op with
      | 0 => dput nt t o.dst v fun t' => dseq E nt all ms r t' pd K
      | 1 => dput nt t o.dst v fun t' => dseq E nt all ms r t' ((i, gop E nt all o t, v) :: pd) K
      | _ => again ms i pd (dput nt t o.dst v fun t' => dseq E nt all ms r t' pd K) := rfl
  rw [h0]
  cases ho : all[i]? with
  | none =>
    simp only [fail]
    constructor
    · intro h; cases h
    · rintro ⟨o, v, H1, n1, h, _⟩; cases h
  | some o =>
    simp only
    rw [bd_iff]
    have hk : opKind E.P o.op = 0 ∨ opKind E.P o.op = 1 ∨ 2 ≤ opKind E.P o.op := by omega
    constructor
    · rintro ⟨v, H1, n1, h1, h2⟩
      refine ⟨o, v, H1, n1, rfl, h1, ?_⟩
      rcases hk with hk | hk | hk
      · simp only [hk] at h2
        obtain ⟨h3, h4⟩ := dput_iff.1 h2
        exact ⟨h3, fun h => by omega, by unfold pnd; rw [if_neg (by omega)]; exact h4⟩
      · simp only [hk] at h2
        obtain ⟨h3, h4⟩ := dput_iff.1 h2
        exact ⟨h3, fun h => by omega, by unfold pnd; rw [if_pos hk]; exact h4⟩
      · obtain ⟨m, hm⟩ : ∃ m, opKind E.P o.op = m + 2 := ⟨opKind E.P o.op - 2, by omega⟩
        simp only [hm] at h2
        obtain ⟨h5, h6⟩ := (again_iff hr).1 h2
        obtain ⟨h3, h4⟩ := dput_iff.1 h6
        exact ⟨h3, fun _ => h5, by unfold pnd; rw [if_neg (by omega)]; exact h4⟩
    · rintro ⟨o', v, H1, n1, ho', h1, h2, h3, h4⟩
      cases ho'
      refine ⟨v, H1, n1, h1, ?_⟩
      unfold pnd at h4
      rcases hk with hk | hk | hk
      · simp only [hk]
        rw [if_neg (by omega)] at h4
        exact dput_iff.2 ⟨h2, h4⟩
      · simp only [hk]
        rw [if_pos hk] at h4
        exact dput_iff.2 ⟨h2, h4⟩
      · rw [if_neg (by omega)] at h4
        obtain ⟨m, hm⟩ : ∃ m, opKind E.P o.op = m + 2 := ⟨opKind E.P o.op - 2, by omega⟩
        simp only [hm]
        exact (again_iff hr).2 ⟨h3 hk, dput_iff.2 ⟨h2, h4⟩⟩
theorem dseq_less {E : Env} {nt : Nat} {all : List Oper} {ms : List Nat} {K : Tmps → M AV} {res : AV × Heap × Nat} : ∀ (σ : List Nat) (t : Tmps) (pd pd' : List Pd) (H : Heap) (n : Nat), (∀ e ∈ pd, IsRead e.2.1) → (∀ e ∈ pd', e ∈ pd) →
    dseq E nt all ms σ t pd K H n = some res → dseq E nt all ms σ t pd' K H n = some res
  | [], t, pd, pd', H, n, hr, hs, h => h
  | i :: r, t, pd, pd', H, n, hr, hs, h => by
    obtain ⟨o, v, H1, n1, h1, h2, h3, h4, h5⟩ := (dseq_iff hr).1 h
    refine (dseq_iff (fun e he => hr e (hs e he))).2 ⟨o, v, H1, n1, h1, h2, h3, fun hk e he => h4 hk e (hs e he), dseq_less r _ _ _ H1 n1 (pnd_read hr) ?_ h5⟩
    intro e he
    unfold pnd at he ⊢
    split
    · rename_i hk
      rw [if_pos hk] at he
      rcases List.mem_cons.1 he with rfl | he
      · exact List.mem_cons_self
      · exact List.mem_cons_of_mem _ (hs e he)
    · rename_i hk
      rw [if_neg hk] at he
      exact hs e he
end Go.Dn

/- Soundness, behind 16: regions whose order is drawn: any order. -/
namespace Go.Dn
open M Go.RowKit
set_option linter.unusedSimpArgs false
set_option linter.unusedVariables false

theorem putA_at {t : Tmps} {d : Option Tmp} {v : AV} {i : Nat} (h : ∀ e, d = some e → e ≠ i) : putA t d v i = t i := by
  unfold putA
  cases d with
  | none => rfl
  | some e =>
    simp only [tset, beq_eq]
    rw [decide_eq_false (fun x => h e rfl x.symm)]; rfl
theorem putA_comm {t : Tmps} {d e : Option Tmp} {v u : AV} (h : ∀ a b, d = some a → e = some b → a ≠ b) : putA (putA t d v) e u = putA (putA t e u) d v := by
  cases d with
  | none => rfl
  | some a =>
    cases e with
    | none => rfl
    | some b =>
      have hab := h a b rfl rfl
      funext i
      simp only [putA, tset, beq_eq]
      by_cases h1 : i = a
      · subst h1
        rw [decide_eq_false hab]; simp
      · rw [decide_eq_false h1]; rfl
theorem hasN_mem {l : List Nat} {i : Nat} : hasN l i = true ↔ i ∈ l := by
  unfold hasN
  rw [List.any_eq_true]
  constructor
  · rintro ⟨x, h1, h2⟩
    rw [beq_eq, decide_eq_true_eq] at h2
    subst h2; exact h1
  · intro h; exact ⟨i, h, by rw [beq_eq]; simp⟩
theorem apartO_spec {all : List Oper} {x y : Oper} (h : apartO all x y = true) :
    (∀ d, x.dst = some d → d ∉ sees all y) ∧ (∀ a b, x.dst = some a → y.dst = some b → a ≠ b) ∧ (∀ d, y.dst = some d → d ∉ sees all x) := by
  unfold apartO at h
  rw [Bool.and_eq_true] at h
  obtain ⟨h1, h2⟩ := h
  refine ⟨fun d hd => ?_, fun a b ha hb => ?_, fun d hd => ?_⟩
  · simp only [hd, Bool.and_eq_true] at h1
    intro hm
    have := hasN_mem.2 hm
    simp [this] at h1
  · simp only [ha, hb, Bool.and_eq_true] at h1
    intro e
    subst e
    simp [beq_eq] at h1
  · simp only [hd] at h2
    intro hm
    have := hasN_mem.2 hm
    simp [this] at h2
variable {E : Env} {nt : Nat} {all : List Oper} {ms : List Nat} {K : Tmps → M AV} {res : AV × Heap × Nat}
theorem dseq_swap {c x : Nat} {oc ox : Oper} {r : List Nat} {t : Tmps} {pd : List Pd} {H : Heap} {n : Nat} (hr : ∀ e ∈ pd, IsRead e.2.1) (hc : all[c]? = some oc) (hx : all[x]? = some ox) (ha : apartO all oc ox = true)
    (hk : opKind E.P oc.op < 2 ∨ opKind E.P ox.op = 0) (hb : bef ms c x = false) (h : dseq E nt all ms (c :: x :: r) t pd K H n = some res) : dseq E nt all ms (x :: c :: r) t pd K H n = some res := by
  obtain ⟨a1, a2, a3⟩ := apartO_spec ha
  obtain ⟨o1, vc, H1, n1, h1, h2, h3, h4, h5⟩ := (dseq_iff hr).1 h
  rw [hc] at h1; cases h1
  obtain ⟨o2, vx, H2, n2, g1, g2, g3, g4, g5⟩ := (dseq_iff (pnd_read hr)).1 h5
  rw [hx] at g1; cases g1
  have ex : gop E nt all ox (putA t oc.dst vc) = gop E nt all ox t := gop_congr fun d hd => putA_at fun e he hed => a1 e he (by subst hed; exact hd)
  have ec : gop E nt all oc (putA t ox.dst vx) = gop E nt all oc t := gop_congr fun d hd => putA_at fun e he hed => a3 e he (by subst hed; exact hd)
  have et : putA (putA t oc.dst vc) ox.dst vx = putA (putA t ox.dst vx) oc.dst vc := putA_comm a2
  rw [ex] at g2
  rw [et] at g5
  have hk3 : opKind E.P oc.op = 0 ∨ opKind E.P oc.op = 1 ∨ (2 ≤ opKind E.P oc.op ∧ opKind E.P ox.op = 0) := by omega
  rcases hk3 with k | k | ⟨k, kx⟩
  · obtain ⟨o, ho⟩ := gop_pure (E := E) (nt := nt) (all := all) k t
    rw [ho] at h2
    obtain ⟨rfl, rfl, rfl⟩ := ofO_some h2
    have epc : ∀ t' v' pd', pnd E nt all c oc t' v' pd' = pd' := fun _ _ _ => by unfold pnd; rw [if_neg (by omega)]
    rw [epc] at g4 g5
    refine (dseq_iff hr).2 ⟨ox, vx, H2, n2, hx, g2, g3, g4, (dseq_iff (pnd_read hr)).2 ⟨oc, vc, H2, n2, hc, by rw [ec, ho]; rfl, h3, fun hh => by omega, ?_⟩⟩
    rw [epc]
    have : pnd E nt all x ox t vx pd = pnd E nt all x ox (putA t oc.dst vc) vx pd := by unfold pnd; rw [ex]
    rw [this]; exact g5
  · have hrd := gop_read (E := E) (nt := nt) (all := all) k t
    obtain ⟨rfl, rfl⟩ := hrd.same h2
    have epc : ∀ t' v' pd', pnd E nt all c oc t' v' pd' = (c, gop E nt all oc t', v') :: pd' := fun _ _ _ => by unfold pnd; rw [if_pos k]
    rw [epc] at g4 g5
    have hvc : gop E nt all oc (putA t ox.dst vx) H2 n2 = some (vc, H2, n2) := by
      rw [ec]
      have kx : opKind E.P ox.op = 0 ∨ opKind E.P ox.op = 1 ∨ 2 ≤ opKind E.P ox.op := by omega
      rcases kx with kx | kx | kx
      · obtain ⟨rfl, rfl⟩ := (gop_pure (E := E) (nt := nt) (all := all) kx t).read.same g2; exact h2
      · obtain ⟨rfl, rfl⟩ := (gop_read (E := E) (nt := nt) (all := all) kx t).same g2; exact h2
      · exact (g4 kx (c, gop E nt all oc t, vc) List.mem_cons_self hb).1
    refine (dseq_iff hr).2 ⟨ox, vx, H2, n2, hx, g2, g3, fun hh e he => g4 hh e (List.mem_cons_of_mem _ he), (dseq_iff (pnd_read hr)).2 ⟨oc, vc, H2, n2, hc, hvc, h3, fun hh => by omega, ?_⟩⟩
    refine dseq_less r _ _ _ H2 n2 ?_ ?_ g5
    · exact pnd_read (fun e he => by
        rcases List.mem_cons.1 he with rfl | he
        · exact hrd
        · exact hr e he)
    · rw [epc, ec]
      intro e he
      unfold pnd at he ⊢
      rw [ex]
      split
      · rename_i hh
        rw [if_pos hh] at he
        rcases List.mem_cons.1 he with rfl | he
        · exact List.mem_cons_of_mem _ List.mem_cons_self
        · rcases List.mem_cons.1 he with rfl | he
          · exact List.mem_cons_self
          · exact List.mem_cons_of_mem _ (List.mem_cons_of_mem _ he)
      · rename_i hh
        rw [if_neg hh] at he
        exact he
  · obtain ⟨o, ho⟩ := gop_pure (E := E) (nt := nt) (all := all) kx t
    rw [ho] at g2
    obtain ⟨rfl, rfl, rfl⟩ := ofO_some g2
    have epc : ∀ t' v' pd', pnd E nt all c oc t' v' pd' = pd' := fun _ _ _ => by unfold pnd; rw [if_neg (by omega)]
    have epx : ∀ t' v' pd', pnd E nt all x ox t' v' pd' = pd' := fun _ _ _ => by unfold pnd; rw [if_neg (by omega)]
    rw [epc, epx] at g5
    refine (dseq_iff hr).2 ⟨ox, vx, H, n, hx, by rw [ho]; rfl, g3, fun hh => by omega, ?_⟩
    rw [epx]
    refine (dseq_iff hr).2 ⟨oc, vc, _, _, hc, by rw [ec]; exact h2, h3, h4, ?_⟩
    rw [epc]; exact g5
theorem dseq_bubble {c : Nat} {oc : Oper} (hc : all[c]? = some oc) : ∀ (xs ys : List Nat) (t : Tmps) (pd : List Pd) (H : Heap) (n : Nat), (∀ e ∈ pd, IsRead e.2.1) →
    (∀ x ∈ xs, bef ms c x = false ∧ ∃ ox, all[x]? = some ox ∧ apartO all oc ox = true ∧ (opKind E.P oc.op < 2 ∨ opKind E.P ox.op = 0)) →
    dseq E nt all ms (c :: (xs ++ ys)) t pd K H n = some res → dseq E nt all ms (xs ++ c :: ys) t pd K H n = some res
  | [], ys, t, pd, H, n, hr, hx, h => h
  | x :: xs, ys, t, pd, H, n, hr, hx, h => by
    obtain ⟨b, ox, h1, h2, h3⟩ := hx x List.mem_cons_self
    have hs := dseq_swap hr hc h1 h2 h3 b h
    obtain ⟨o, v, H1, n1, q1, q2, q3, q4, q5⟩ := (dseq_iff hr).1 hs
    exact (dseq_iff hr).2 ⟨o, v, H1, n1, q1, q2, q3, q4, dseq_bubble hc xs ys _ _ H1 n1 (pnd_read hr) (fun y hy => hx y (List.mem_cons_of_mem _ hy)) q5⟩
theorem pairsOK_cons {f : Nat → Nat → Bool} {a : Nat} {r : List Nat} (h : pairsOK f (a :: r) = true) : (∀ b ∈ r, f a b = true) ∧ pairsOK f r = true := by
  unfold pairsOK at h
  rw [Bool.and_eq_true] at h
  exact ⟨fun b hb => List.all_eq_true.1 h.1 b hb, h.2⟩
/-- Any order that keeps what is bound. -/
theorem dseq_any : ∀ (ord σ : List Nat) (t : Tmps) (pd : List Pd) (H : Heap) (n : Nat), (∀ e ∈ pd, IsRead e.2.1) → pairsOK (swapOK E.P all ms) ord = true → σ.Perm ord → σ.Pairwise (fun a b => bef ms b a = false) →
    dseq E nt all ms ord t pd K H n = some res → dseq E nt all ms σ t pd K H n = some res
  | [], σ, t, pd, H, n, hr, hp, hσ, hl, h => by
    rw [List.Perm.eq_nil hσ]; exact h
  | c :: ord, σ, t, pd, H, n, hr, hp, hσ, hl, h => by
    obtain ⟨hp1, hp2⟩ := pairsOK_cons hp
    obtain ⟨xs, ys, rfl⟩ := List.append_of_mem (hσ.mem_iff.2 List.mem_cons_self)
    have hσ' : (xs ++ ys).Perm ord := List.Perm.cons_inv (List.perm_middle.symm.trans hσ)
    obtain ⟨o, v, H1, n1, q1, q2, q3, q4, q5⟩ := (dseq_iff hr).1 h
    rw [List.pairwise_append] at hl
    obtain ⟨l1, l2, l3⟩ := hl
    have l4 := List.pairwise_cons.1 l2
    have ih := dseq_any ord (xs ++ ys) _ _ H1 n1 (pnd_read hr) hp2 hσ' (List.pairwise_append.2 ⟨l1, l4.2, fun a ha b hb => l3 a ha b (List.mem_cons_of_mem _ hb)⟩) q5
    refine dseq_bubble q1 xs ys t pd H n hr ?_ ((dseq_iff hr).2 ⟨o, v, H1, n1, q1, q2, q3, q4, ih⟩)
    intro x hx
    have hb := l3 x hx c List.mem_cons_self
    refine ⟨hb, ?_⟩
    have hs := hp1 x (hσ'.mem_iff.1 (List.mem_append_left _ hx))
    unfold swapOK at hs
    rw [hb, Bool.false_or, q1] at hs
    cases e : all[x]? with
    | none => simp [e] at hs
    | some ox =>
      simp only [e, Bool.and_eq_true, Bool.or_eq_true] at hs
      refine ⟨ox, rfl, hs.1, ?_⟩
      rcases hs.2 with h6 | h6
      · rw [blt_eq, decide_eq_true_eq] at h6; exact .inl h6
      · rw [beq_eq, decide_eq_true_eq] at h6; exact .inr h6
/-- The order's run is the plain run of its operations. -/
theorem dops_iff {o : Oper} {r : List Oper} {t : Tmps} {H : Heap} {n : Nat} (h : ∃ v H1 n1, gop E nt all o t H n = some (v, H1, n1) ∧ dstOK nt o.dst ∧ dops E nt all r (putA t o.dst v) K H1 n1 = some res) : dops E nt all (o :: r) t K H n = some res := by
  obtain ⟨v, H1, n1, h1, h2, h3⟩ := h
  unfold dops
  unfold gop at h1
  cases hg : o.guard with
  | none =>
    simp only [hg] at h1 ⊢
    cases hq : quick o.op with
    | some x =>
      simp only [hq] at h1 ⊢
      obtain ⟨rfl, rfl, rfl⟩ := ret_some h1
      exact dput_iff.2 ⟨h2, h3⟩
    | none =>
      simp only [hq] at h1 ⊢
      exact bd_iff.2 ⟨v, H1, n1, h1, dput_iff.2 ⟨h2, h3⟩⟩
  | some p =>
    obtain ⟨j, want⟩ := p
    simp only [hg] at h1 ⊢
    cases hj : dstAt all j with
    | none => simp only [hj] at h1; exact (fail_some h1).elim
    | some d =>
      simp only [hj] at h1 ⊢
      obtain ⟨h4, h5⟩ := cond_some h1
      simp only [h4, cond_true]
      exact bd_iff.2 ⟨v, H1, n1, h5, dput_iff.2 ⟨h2, h3⟩⟩
theorem dseq_dops {ops : Array Oper} (hall : all = ops.toList) : ∀ (σ : List Nat) (t : Tmps) (pd : List Pd) (H : Heap) (n : Nat), (∀ e ∈ pd, IsRead e.2.1) → dseq E nt all ms σ t pd K H n = some res →
    ∃ r, Idx ops σ r ∧ dops E nt all r t K H n = some res
  | [], t, pd, H, n, hr, h => ⟨[], .nil, h⟩
  | i :: σ, t, pd, H, n, hr, h => by
    obtain ⟨o, v, H1, n1, h1, h2, h3, h4, h5⟩ := (dseq_iff hr).1 h
    obtain ⟨r, h6, h7⟩ := dseq_dops hall σ _ _ H1 n1 (pnd_read hr) h5
    exact ⟨o :: r, .cons i σ o r (by rw [hall] at h1; simpa using h1) h6, dops_iff ⟨v, H1, n1, h2, h3, h7⟩⟩

/-! ### The orders that the model draws -/
theorem edgesOK_at : ∀ (l : List Oper) (k : Nat), edgesOK k l = true → ∀ (i : Nat) (o : Oper), l[i]? = some o → ∀ e ∈ o.after.toList, Region.binds .any e = true → e.on < k + i
  | [], k, h, i, o, ho => by simp at ho
  | x :: l, k, h, i, o, ho => by
    unfold edgesOK at h
    rw [Bool.and_eq_true] at h
    cases i with
    | zero =>
      simp at ho; subst ho
      intro e he hb
      have := List.all_eq_true.1 h.1 e he
      rw [hb, cond_true, blt_eq, decide_eq_true_eq] at this
      omega
    | succ i =>
      simp at ho
      intro e he hb
      have := edgesOK_at l (k + 1) h.2 i o ho e he hb
      omega
theorem binds_any {md : Region.Mode} {e : Edge} (h : Region.binds .any e = true) : Region.binds md e = true := by
  unfold Region.binds at *
  cases hg : e.ground <;> simp [hg] at h ⊢
theorem masksL_keep : ∀ (l : List Oper) (ms : List Nat) (j : Nat), j < ms.length → (masksL l ms).getD j 0 = ms.getD j 0
  | [], ms, j, h => rfl
  | o :: l, ms, j, h => by
    show (masksL l (ms ++ [maskOf ms o.after.toList])).getD j 0 = _
    rw [masksL_keep l _ j (by simp; omega)]
    simp only [List.getD_eq_getElem?_getD]
    rw [List.getElem?_append_left h]
theorem masksL_at : ∀ (l : List Oper) (ms : List Nat) (i : Nat) (o : Oper), l[i]? = some o → ∃ pre : List Nat, pre.length = ms.length + i ∧ (∀ j, j < ms.length + i → pre.getD j 0 = (masksL l ms).getD j 0) ∧ (masksL l ms).getD (ms.length + i) 0 = maskOf pre o.after.toList
  | [], ms, i, o, h => by simp at h
  | x :: l, ms, i, o, h => by
    cases i with
    | zero =>
      simp at h; subst h
      refine ⟨ms, rfl, fun j hj => (masksL_keep (x :: l) ms j hj).symm, ?_⟩
      show (masksL l (ms ++ [maskOf ms x.after.toList])).getD ms.length 0 = _
      rw [masksL_keep l _ _ (by simp)]
      simp [List.getD_eq_getElem?_getD]
    | succ i =>
      simp at h
      obtain ⟨pre, h1, h2, h3⟩ := masksL_at l (ms ++ [maskOf ms x.after.toList]) i o h
      simp only [List.length_append, List.length_cons, List.length_nil] at h1 h2 h3
      refine ⟨pre, by omega, fun j hj => h2 j (by omega), ?_⟩
      rw [show ms.length + (i + 1) = ms.length + (0 + 1) + i from by omega]
      exact h3
theorem maskOf_bit {pre : List Nat} {a : Nat} : ∀ {es : List Edge}, Nat.testBit (maskOf pre es) a = true → ∃ e ∈ es, Region.binds .any e = true ∧ (e.on = a ∨ Nat.testBit (pre.getD e.on 0) a = true)
  | [], h => by simp [maskOf] at h
  | e :: es, h => by
    unfold maskOf at h
    cases hb : Region.binds .any e with
    | true =>
      rw [hb] at h
      simp only [cond_true, Nat.testBit_or, Nat.testBit_two_pow, Bool.or_eq_true, decide_eq_true_eq] at h
      rcases h with (h | h) | h
      · exact ⟨e, List.mem_cons_self, hb, .inl h⟩
      · exact ⟨e, List.mem_cons_self, hb, .inr h⟩
      · obtain ⟨e', h1, h2, h3⟩ := maskOf_bit h
        exact ⟨e', List.mem_cons_of_mem _ h1, h2, h3⟩
    | false =>
      rw [hb] at h
      simp only [cond_false] at h
      obtain ⟨e', h1, h2, h3⟩ := maskOf_bit h
      exact ⟨e', List.mem_cons_of_mem _ h1, h2, h3⟩
/-- What a set holds that holds, with each index, what is bound ahead of it. -/
theorem bef_in {l : List Oper} (he : edgesOK 0 l = true) (S : Nat → Prop) (hS : ∀ i, S i → ∀ o, l[i]? = some o → ∀ e ∈ o.after.toList, Region.binds .any e = true → S e.on) :
    ∀ (i : Nat) (o : Oper), l[i]? = some o → (∀ e ∈ o.after.toList, Region.binds .any e = true → S e.on) → ∀ a, bef (masksL l []) a i = true → S a := by
  intro i
  induction i using Nat.strongRecOn with
  | ind i ih =>
    intro o ho hp a ha
    unfold bef at ha
    obtain ⟨pre, h1, h2, h3⟩ := masksL_at l [] i o ho
    simp only [List.length_nil, Nat.zero_add] at h1 h2 h3
    rw [h3] at ha
    obtain ⟨e, e1, e2, e3⟩ := maskOf_bit ha
    have hlt := edgesOK_at l 0 he i o ho e e1 e2
    rw [Nat.zero_add] at hlt
    rcases e3 with e3 | e3
    · subst e3; exact hp e e1 e2
    · rw [h2 _ hlt] at e3
      have hl : e.on < l.length := Nat.lt_trans hlt (List.getElem?_eq_some_iff.1 ho).1
      exact ih e.on hlt l[e.on] (List.getElem?_eq_getElem hl) (hS e.on (hp e e1 e2) _ (List.getElem?_eq_getElem hl)) a e3
end Go.Dn

/- Soundness, behind 16: regions whose order is drawn: the machine. -/
namespace Go.Dn
open M Go.RowKit
set_option linter.unusedSimpArgs false
set_option linter.unusedVariables false

theorem filter_le {p q : Nat → Bool} : ∀ l : List Nat, (∀ x ∈ l, q x = true → p x = true) → (l.filter q).length ≤ (l.filter p).length
  | [], _ => Nat.le_refl _
  | x :: l, h => by
    have ih := filter_le (p := p) (q := q) l fun y hy => h y (List.mem_cons_of_mem _ hy)
    have hx := h x List.mem_cons_self
    simp only [List.filter_cons]
    cases hq : q x with
    | true => rw [hx hq]; simp; omega
    | false => cases p x <;> simp <;> omega
theorem filter_lt {p q : Nat → Bool} : ∀ l : List Nat, (∀ x ∈ l, q x = true → p x = true) → (∃ x ∈ l, p x = true ∧ q x = false) → (l.filter q).length < (l.filter p).length
  | [], _, h => by obtain ⟨x, hx, _⟩ := h; cases hx
  | x :: l, h, he => by
    obtain ⟨y, hy, h1, h2⟩ := he
    simp only [List.filter_cons]
    rcases List.mem_cons.1 hy with rfl | hy
    · have := filter_le (p := p) (q := q) l fun z hz => h z (List.mem_cons_of_mem _ hz)
      simp [h1, h2]; omega
    · have ih := filter_lt (p := p) (q := q) l (fun z hz => h z (List.mem_cons_of_mem _ hz)) ⟨y, hy, h1, h2⟩
      have hx := h x List.mem_cons_self
      cases hq : q x with
      | true => rw [hx hq]; simp; omega
      | false => cases p x <;> simp <;> omega
def open' (n : Nat) (listed : Array Bool) : List Nat := (List.range n).filter fun i => !listed.getD i true
theorem getD_set {listed : Array Bool} {i j : Nat} (hi : i < listed.size) : (listed.setIfInBounds i true).getD j true = if j = i then true else listed.getD j true := by
  simp only [Array.getD_eq_getD_getElem?, Array.getElem?_setIfInBounds]
  by_cases h : i = j
  · subst h; simp [hi]
  · rw [if_neg h, if_neg (fun e => h e.symm)]
theorem getD_tf {listed : Array Bool} {j : Nat} (h : j < listed.size) : listed.getD j false = listed.getD j true := by
  simp [Array.getD_eq_getD_getElem?, h]
theorem linearise_go {ops : Array Oper} (he : edgesOK 0 ops.toList = true) : ∀ (fuel t : Nat) (listed : Array Bool), listed.size = ops.size → (open' ops.size listed).length ≤ fuel →
    (∀ i, i < ops.size → listed.getD i true = true → ∀ o, ops[i]? = some o → ∀ e ∈ o.after.toList, Region.binds .any e = true → listed.getD e.on true = true) →
    (Region.linearise.go .any ops fuel t listed []).Nodup ∧ (∀ a, a ∈ Region.linearise.go .any ops fuel t listed [] ↔ a ∈ open' ops.size listed) ∧ (Region.linearise.go .any ops fuel t listed []).Pairwise (fun a b => bef (masksL ops.toList []) b a = false) := by
  intro fuel
  induction fuel with
  | zero =>
    intro t listed hs hl hd
    have : open' ops.size listed = [] := List.eq_nil_of_length_eq_zero (by omega)
    rw [this]
    simp [Region.linearise.go]
  | succ fuel ih =>
    intro t listed hs hl hd
    simp only [Region.linearise.go]
    change (match (Region.ready .any ops listed)[t % (Region.ready .any ops listed).length]? with
      | some i => Region.linearise.go .any ops fuel (t / (Region.ready .any ops listed).length) (listed.setIfInBounds i true) [i]
      | none => [].reverse).Nodup ∧ (∀ a, a ∈ (match (Region.ready .any ops listed)[t % (Region.ready .any ops listed).length]? with
      | some i => Region.linearise.go .any ops fuel (t / (Region.ready .any ops listed).length) (listed.setIfInBounds i true) [i]
      | none => [].reverse) ↔ a ∈ open' ops.size listed) ∧ (match (Region.ready .any ops listed)[t % (Region.ready .any ops listed).length]? with
      | some i => Region.linearise.go .any ops fuel (t / (Region.ready .any ops listed).length) (listed.setIfInBounds i true) [i]
      | none => [].reverse).Pairwise _
    have hmem : ∀ i, i ∈ Region.ready .any ops listed ↔ i < ops.size ∧ listed.getD i true = false ∧ ∃ o, ops[i]? = some o ∧ ∀ e ∈ o.after.toList, Region.binds .any e = true → listed.getD e.on false = true := by
      intro i
      unfold Region.ready
      rw [List.mem_filter, List.mem_range]
      constructor
      · rintro ⟨h1, h2⟩
        rw [Bool.and_eq_true] at h2
        cases ho : ops[i]? with
        | none => simp [ho] at h2
        | some o =>
          refine ⟨h1, by simpa using h2.1, o, rfl, fun e hm hb => ?_⟩
          have h3 := h2.2
          simp only [ho, Option.map_some, Option.getD_some] at h3
          have := Array.all_eq_true_iff_forall_mem.1 h3 e (by simpa using hm)
          simpa [hb] using this
      · rintro ⟨h1, h2, o, ho, h3⟩
        refine ⟨h1, ?_⟩
        rw [Bool.and_eq_true]
        refine ⟨by simp [h2], ?_⟩
        simp only [ho, Option.map_some, Option.getD_some]
        refine Array.all_eq_true_iff_forall_mem.2 fun e hm => ?_
        cases hb : Region.binds .any e with
        | false => simp
        | true => simpa using h3 e (by simpa using hm) hb
    cases hi : (Region.ready .any ops listed)[t % (Region.ready .any ops listed).length]? with
    | none =>
      have hnil : Region.ready .any ops listed = [] := by
        cases hr : Region.ready .any ops listed with
        | nil => rfl
        | cons x xs =>
          rw [hr] at hi
          have hlt : t % (x :: xs).length < (x :: xs).length := Nat.mod_lt _ (by simp)
          rw [List.getElem?_eq_none_iff] at hi
          omega
      have hall : ∀ i, i < ops.size → listed.getD i true = true := by
        intro i
        induction i using Nat.strongRecOn with
        | ind i ihi =>
          intro hlt
          cases hv : listed.getD i true with
          | true => rfl
          | false =>
            have : i ∈ Region.ready .any ops listed := by
              rw [hmem]
              refine ⟨hlt, hv, ops[i], Array.getElem?_eq_getElem hlt, fun e hm hb => ?_⟩
              have := edgesOK_at ops.toList 0 he i ops[i] (by simp [hlt]) e hm hb
              rw [Nat.zero_add] at this
              rw [getD_tf (by omega)]
              exact ihi e.on this (by omega)
            rw [hnil] at this
            cases this
      refine ⟨by simp, fun a => ?_, by simp⟩
      simp only [List.reverse_nil, List.not_mem_nil, false_iff]
      unfold open'
      rw [List.mem_filter, List.mem_range]
      rintro ⟨h1, h2⟩
      rw [hall a h1] at h2
      cases h2
    | some i =>
      obtain ⟨h1, h2, o, h3, h4⟩ := (hmem i).1 (List.mem_of_getElem? hi)
      simp only
      rw [linearise_go_acc, List.reverse_singleton, List.singleton_append]
      have hset : ∀ j, (listed.setIfInBounds i true).getD j true = if j = i then true else listed.getD j true := fun j => getD_set (by omega)
      have hmo : ∀ a, a ∈ open' ops.size (listed.setIfInBounds i true) ↔ a ∈ open' ops.size listed ∧ a ≠ i := by
        intro a
        unfold open'
        rw [List.mem_filter, List.mem_filter, hset]
        by_cases ha : a = i <;> simp [ha]
      have hio : i ∈ open' ops.size listed := by
        unfold open'
        rw [List.mem_filter, List.mem_range]
        exact ⟨h1, by rw [h2]; rfl⟩
      have hlen : (open' ops.size (listed.setIfInBounds i true)).length < (open' ops.size listed).length := by
        unfold open'
        refine filter_lt _ (fun x hx hq => ?_) ⟨i, List.mem_range.2 h1, by rw [h2]; rfl, by rw [hset]; simp⟩
        rw [hset] at hq
        by_cases e : x = i
        · simp [e] at hq
        · simpa [e] using hq
      have hpre : ∀ e ∈ o.after.toList, Region.binds .any e = true → listed.getD e.on true = true := fun e hm hb => by
        have := h4 e hm hb
        have hlt := edgesOK_at ops.toList 0 he i o (by simpa using h3) e hm hb
        rw [getD_tf (by omega)] at this
        exact this
      obtain ⟨r1, r2, r3⟩ := ih (t / (Region.ready .any ops listed).length) (listed.setIfInBounds i true) (by simp [hs]) (by omega) (by
        intro j hj hlj oj hoj e hm hb
        rw [hset] at hlj ⊢
        by_cases e1 : e.on = i
        · rw [if_pos e1]
        · rw [if_neg e1]
          by_cases e2 : j = i
          · subst e2
            rw [h3] at hoj; cases hoj
            exact hpre e hm hb
          · rw [if_neg e2] at hlj
            exact hd j hj hlj oj hoj e hm hb)
      refine ⟨List.nodup_cons.2 ⟨fun hm => ((hmo i).1 ((r2 i).1 hm)).2 rfl, r1⟩, fun a => ?_, List.pairwise_cons.2 ⟨fun b hb => ?_, r3⟩⟩
      · rw [List.mem_cons, r2, hmo]
        constructor
        · rintro (rfl | h)
          · exact hio
          · exact h.1
        · intro h
          by_cases e : a = i
          · exact .inl e
          · exact .inr ⟨h, e⟩
      · cases hbf : bef (masksL ops.toList []) b i with
        | false => rfl
        | true =>
          exfalso
          have hbo := (hmo b).1 ((r2 b).1 hb)
          have hin := bef_in he (fun j => j < ops.size → listed.getD j true = true) (fun j hj oj hoj e hm hbd hlt => by
            have hjl : j < ops.size := by
              have := (List.getElem?_eq_some_iff.1 hoj).1
              simpa using this
            exact hd j hjl (hj hjl) oj (by simpa using hoj) e hm hbd) i o (by simpa using h3) (fun e hm hbd _ => hpre e hm hbd) b hbf
          have hbm := hbo.1
          unfold open' at hbm
          rw [List.mem_filter, List.mem_range] at hbm
          have := hin hbm.1
          rw [this] at hbm
          cases hbm.2
theorem schedule_any {ops : Array Oper} (he : edgesOK 0 ops.toList = true) (t : Nat) : (Region.schedule true ops t).Perm (List.range ops.size) ∧ (Region.schedule true ops t).Pairwise (fun a b => bef (masksL ops.toList []) b a = false) := by
  have key : ∀ t, (Region.linearise .any ops t).Perm (List.range ops.size) ∧ (Region.linearise .any ops t).Pairwise (fun a b => bef (masksL ops.toList []) b a = false) := by
    intro t
    have hf : ∀ i, i < ops.size → (Array.replicate ops.size false).getD i true = false := fun i hi => by simp [Array.getD_eq_getD_getElem?, hi]
    obtain ⟨r1, r2, r3⟩ := linearise_go he ops.size t (Array.replicate ops.size false) (by simp) (by unfold open'; exact Nat.le_trans (List.length_filter_le _ _) (by simp)) (fun i hi hl => by rw [hf i hi] at hl; cases hl)
    refine ⟨(List.perm_ext_iff_of_nodup r1 List.nodup_range).2 fun a => ?_, r3⟩
    show a ∈ Region.linearise.go .any ops ops.size t (Array.replicate ops.size false) [] ↔ _
    rw [r2]
    unfold open'
    rw [List.mem_filter]
    constructor
    · exact fun h => h.1
    · exact fun h => ⟨h, by rw [hf a (List.mem_range.1 h)]; rfl⟩
  unfold Region.schedule
  rw [Bool.true_or, if_pos rfl]
  exact key _
theorem ddraw_sound {E : Env} {nt : Nat} {ops : Array Oper} {ord : List Nat} {t : Tmps} {K : Tmps → M AV} {H : Heap} {n : Nat} {res : AV × Heap × Nat} (h : ddraw E nt ops.toList ord t K H n = some res) (tp : Nat) :
    ∃ r, Idx ops (Region.schedule (E.P.follows .mixedOrders) ops tp) r ∧ dops E nt ops.toList r t K H n = some res := by
  unfold ddraw at h
  obtain ⟨h1, h2⟩ := cond_some h
  unfold drawOK at h1
  rw [Bool.and_eq_true, Bool.and_eq_true, Bool.and_eq_true] at h1
  obtain ⟨⟨h0, h3⟩, h4, h5⟩ := h1
  rw [h0]
  have hp := List.isPerm_iff.1 h4
  rw [Array.length_toList] at hp
  obtain ⟨s1, s2⟩ := schedule_any h3 tp
  have := dseq_any ord (Region.schedule true ops tp) t [] H n (fun e he => by cases he) h5 (s1.trans hp.symm) s2 h2
  exact dseq_dops rfl _ t [] H n (fun e he => by cases he) this
theorem on_region_draw {P : Program} {b : Frame} {τ : Array Value} {k : List Item} {cs : List Frame} {w : World} {id : Nat} {ops : Array Oper} :
    step P (lone (on b τ (.code (.region id ops true) :: k)) cs w) = .next (lone (on b τ (.inRegion ops (Region.schedule (P.follows .mixedOrders) ops (w.tape w.drawn (.order b.fn id))) :: k)) cs { w with drawn := w.drawn + 1 }) :=
  step_lone_go (by simp [stepG, stepG.exec, on, choose, Sem.run, Question.forced, Question.cut])
end Go.Dn

/- Soundness, 17: code. -/
namespace Go.Dn
open M Go.RowKit
set_option linter.unusedSimpArgs false
set_option linter.unusedVariables false

/-- Where code comes out. -/
def Lands (P : Program) (m : Machine) (b : Frame) (k : List Item) (cs : List Frame) : Ex → Array Value → World → Prop
  | .normal, τ, w => Steps P m (lone (on b τ k) cs w)
  | .ret, τ, w => ∃ kk, Steps P m (lone (on b τ (.code .ret :: kk)) cs w)
  | .exit i, τ, w => ∃ kk, Steps P m (lone (on b τ (.code (.exit i) :: kk)) cs w) ∧ exitTo i kk = exitTo i k
theorem Lands.of_steps {P : Program} {m m' : Machine} {b : Frame} {k : List Item} {cs : List Frame} {e : Ex} {τ : Array Value} {w : World} (h : Steps P m m') (h' : Lands P m' b k cs e τ w) : Lands P m b k cs e τ w := by
  cases e with
  | normal => exact h.trans h'
  | ret => obtain ⟨kk, s⟩ := h'; exact ⟨kk, h.trans s⟩
  | exit i => obtain ⟨kk, s, e⟩ := h'; exact ⟨kk, h.trans s, e⟩
theorem exitTo_code (i : Nat) (c : Code) (k : List Item) : exitTo i (.code c :: k) = exitTo i k := rfl
theorem exitTo_inLoop (i : Nat) (c : Code) (k : List Item) : exitTo i (.inLoop c :: k) = exitTo i k := rfl
theorem exitTo_inScope (i : Nat) (c : Code) (k : List Item) : exitTo i (.inScope c :: k) = exitTo i k := rfl
theorem exitTo_inBlock (i j : Nat) (k : List Item) : exitTo i (.inBlock j :: k) = if j == i then some k else exitTo i k := rfl
theorem loop_fuel {f : Tmps → (Tmps → M AV) → M AV} {t : Tmps} {H : Heap} {n : Nat} {r : AV × Heap × Nat} : ∀ j, loopM f j t H n = some r → ∃ i, j = i + 1 ∧ f t (loopM f i) H n = some r
  | 0, h => (fail_some (α := AV) (H := H) (n := n) h).elim
  | i + 1, h => ⟨i, rfl, h⟩
/-! ### Loops over functions: marks among the deferred calls -/
def mkD (r : Nat) : Deferred := { target := .collected r, args := #[] }
def bdf (b : Frame) (ms : List Nat) : Frame := { b with defers := ms.map mkD ++ b.defers }
theorem bdf_nil (b : Frame) : bdf b [] = b := rfl
theorem bdf_bdf (b : Frame) (m1 m2 : List Nat) : bdf (bdf b m1) m2 = bdf b (m2 ++ m1) := by simp [bdf]
structure Mks (w w1 : World) (ms : List Nat) : Prop where
  nd : ms.Nodup
  new : ∀ r, r ∈ ms → w.heap.size ≤ r
  obj : ∀ r, r ∈ ms → w1.heap[r]? = some (.deferred (some []))
theorem Mks.nil (w w1 : World) : Mks w w1 [] := ⟨.nil, fun r h => (by cases h), fun r h => (by cases h)⟩
theorem mark_free {ρ : Rho} {H : Heap} {w : World} {r : Nat} {d : Option (List Deferred)} (hs : Sim ρ H w) (h : w.heap[r]? = some (.deferred d)) {i : Nat} {o : AObj} {g : G} (hi : H.get i = some o) (hl : o.live = true) (hg : ρ i = some g) : g.b ≠ r := by
  intro e
  obtain ⟨g', a, b⟩ := hs.obj i o hi hl
  rw [hg] at a; cases a
  subst e
  cases o with
  | row cs t rw => obtain ⟨c, e', fz, h1, _⟩ := b; rw [h] at h1; cases h1
  | map es => obtain ⟨c, k, h1, _⟩ := b; rw [h] at h1; cases h1
  | iter s p => obtain ⟨bs, h1, _⟩ := b; rw [h] at h1; cases h1
  | loop fn nt lv ts ps a b st pd => obtain ⟨L, h1, _⟩ := b; rw [h] at h1; cases h1
  | gone => cases hl
theorem mark_keep {ρ ρ' : Rho} {H H' : Heap} {w w' : World} {r : Nat} {d : Option (List Deferred)} (hs : Sim ρ H w) (h : w.heap[r]? = some (.deferred d)) (k : Stp ρ H w ρ' H' w') : w'.heap[r]? = some (.deferred d) := by
  rw [k.keep r (Array.getElem?_eq_some_iff.1 h).1 fun i o g a b c => mark_free hs h a (AObj.live_of_own b) c]
  exact h
theorem Mks.trans {ρ1 ρ2 : Rho} {H1 H2 : Heap} {w w1 w2 : World} {m1 m2 : List Nat} (hw : w.heap.size ≤ w1.heap.size) (hs : Sim ρ1 H1 w1) (k : Stp ρ1 H1 w1 ρ2 H2 w2) (a : Mks w w1 m1) (b : Mks w1 w2 m2) : Mks w w2 (m2 ++ m1) where
  nd := by
    rw [List.nodup_append]
    refine ⟨b.nd, a.nd, fun x hx y hy e => ?_⟩
    subst e
    have h1 := b.new _ hx
    have h2 := (Array.getElem?_eq_some_iff.1 (a.obj _ hy)).1
    omega
  new := fun r hr => by
    rcases List.mem_append.1 hr with h | h
    · have := b.new r h; omega
    · exact a.new r h
  obj := fun r hr => by
    rcases List.mem_append.1 hr with h | h
    · exact b.obj r h
    · exact mark_keep hs (a.obj r h) k
/-- The round that a frame runs. -/
def RndOK (ρ : Rho) (b : Frame) (o : Option Nat) : Prop :=
  match o with
  | none => b.roundOf = none
  | some i => ∃ g, ρ i = some g ∧ b.roundOf = some g.b
theorem RndOK.mono {ρ ρ' : Rho} {b : Frame} {o : Option Nat} (h : RndOK ρ b o) (e : Ext ρ ρ') : RndOK ρ' b o := by
  cases o with
  | none => exact h
  | some i => obtain ⟨g, a, c⟩ := h; exact ⟨g, e i g a, c⟩
/-- A block more, of which nothing is told. -/
theorem Stp.junk {ρ : Rho} {H : Heap} {w : World} (h : Sim ρ H w) (ob : Obj) : Stp ρ H w ρ H (w.alloc ob) where
  ext := Ext.refl ρ
  sim := ⟨fun i o a b => by
    obtain ⟨g, x, y⟩ := h.obj i o a b
    exact ⟨g, x, y.heap (Below.heap_alloc w ob g.b (y.lt b))⟩, h.sep, h.dom⟩
  os := rfl
  tape := rfl
  output := rfl
  size := by simp
  keep := fun b hb _ => Below.heap_alloc w ob b hb
  owns := fun i o g a b c _ => ⟨i, o, g, a, b, c, rfl⟩
theorem rTs_rel {ρ : Rho} {G nt : Nat} {t : Tmps} {τ : Array Value} (ht : TRel G nt ρ t τ) : ∀ (lv : List Nat) (k : Nat), VRel ρ (rTs lv (lv.map t) k) (τ.getD k (.tuple #[]))
  | [], k => .bad _
  | a :: r, k => by
    unfold rTs
    rw [List.map_cons]
    simp only [beq_eq]
    by_cases e : k = a
    · subst e; simp only [decide_true, cond_true]; exact ht.tmp k
    · simp only [e, decide_false, cond_false]; exact rTs_rel ht r k
/-- The frame goes on behind what an operation's meaning comes to. -/
theorem on_apply {P : Program} {fr : Frame} {cs : List Frame} {w0 w : World} {fr0 : Frame} {s : Sem Next} {R : Value → World → Prop} (hk : ∀ d b r v k, fr.todo ≠ .call d b r v :: k)
    (hg : (stepG P true { frame := fr0, callers := cs, status := .running, dying := none } w0).bare = (stepG.apply P true fr cs none s w).bare) (h : Does P s w R) :
    ∃ v w', R v w' ∧ Steps P (lone fr0 cs w0) (lone (fr.finish v) cs w') := by
  have hkind : (match fr.todo with | .call _ true _ _ :: _ => CallKind.wrapped | _ => CallKind.normal) = CallKind.normal := by
    split
    · rename_i e; exact absurd e (hk _ _ _ _ _)
    · rfl
  unfold Does at h
  split at h
  · rename_i v w' hr
    refine ⟨v, w', h, .one (step_lone_go ?_)⟩
    rw [hg]; simp [stepG.apply, hr]
  · rename_i w' hr
    refine ⟨undef, w', h, .one (step_lone_go ?_)⟩
    rw [hg]; simp [stepG.apply, hr]
  · rename_i f args w' hr
    obtain ⟨e, w'', fr', ⟨v, rfl, hR⟩, hsteps, _, hleave⟩ := h (fr :: cs)
    have henter : step P (lone fr0 cs w0) = .next (lone (Frame.enter P f args .normal) (fr :: cs) w') :=
      step_lone_go (by rw [hg]; simp [stepG.apply, hr]; exact congrArg (Frame.enter P f args) hkind)
    exact ⟨v, w'', hR, .head henter (hsteps.trans (.one (step_leave_returned hleave)))⟩
  · rename_i l f τ' a b' w' hr
    obtain ⟨v, w'', hR, hsteps⟩ := h fr cs
    have henter : step P (lone fr0 cs w0) = .next (lone (Frame.round l f τ' a b' .normal) (fr :: cs) w') :=
      step_lone_go (by rw [hg]; simp [stepG.apply, hr])
    exact ⟨v, w'', hR, .head henter hsteps⟩
  · exact h.elim

theorem newObj_run {P : Program} {w : World} (o : Obj) : (newObj o).run P w = .ok w.heap.size (w.alloc o) := rfl
/-- The abstract loop object of a round is there. -/
theorem lpThere_some {o : Option Nat} {H H' : Heap} {n n' : Nat} {u : Unit} (h : lpThere o H n = some (u, H', n')) : H' = H ∧ n' = n ∧ ∀ i, o = some i → ∃ fn nt lv ts ps a b st pd, H.get i = some (.loop fn nt lv ts ps a b st pd) := by
  cases o with
  | none => obtain ⟨_, rfl, rfl⟩ := ret_some h; exact ⟨rfl, rfl, fun i e => by cases e⟩
  | some j =>
    obtain ⟨ob, H1, n1, h1, h2⟩ := bd_some h
    obtain ⟨h3, rfl, rfl⟩ := getO_some h1
    split at h2
    · rename_i fn nt lv ts ps a b st pd
      obtain ⟨_, rfl, rfl⟩ := ret_some h2
      exact ⟨rfl, rfl, fun i e => by cases e; exact ⟨_, _, _, _, _, _, _, _, _, h3⟩⟩
    · exact (fail_some h2).elim
theorem endLp_some {i : Nat} {H H' : Heap} {n n' : Nat} {j : Option Code} (h : endLp i H n = some (j, H', n')) : n' = n ∧ ∃ fn nt lv ts ps a b st, H.get i = some (.loop fn nt lv ts ps a b st j) ∧ st ≠ 1 ∧ H' = H.set i (.loop fn nt lv ts ps a b 3 j) := by
  obtain ⟨ob, H1, n1, h1, h2⟩ := bd_some h
  obtain ⟨h3, rfl, rfl⟩ := getO_some h1
  split at h2
  · rename_i fn nt lv ts ps a b st pd
    obtain ⟨h4, h5⟩ := ncond_some h2
    obtain ⟨u, H2, n2, h6, h7⟩ := bd_some h5
    obtain ⟨rfl, rfl⟩ := setO_some h6
    obtain ⟨rfl, rfl, rfl⟩ := ret_some h7
    exact ⟨rfl, fn, nt, lv, ts, ps, a, b, st, h3, Nat.ne_of_beq_eq_false h4, rfl⟩
  · exact (fail_some h2).elim
/-- A loop's object is written. -/
theorem Stp.loop {ρ : Rho} {H : Heap} {w : World} (hs : Sim ρ H w) {i : Nat} {fn nt : Nat} {lv : List Nat} {ts : List AV} {ps : List Nat} {a b : Code} {st : Nat} {pd : Option Code} {g : G} (hi : H.get i = some (.loop fn nt lv ts ps a b st pd)) (hg : ρ i = some g) :
    ∃ L, w.heap[g.b]? = some (.loop L) ∧ L.fn = fn ∧ (∀ k, VRel ρ (rTs lv ts k) (L.tmps.getD k (.tuple #[]))) ∧ L.tmps.size = nt ∧ L.params.toList = ps ∧ L.assign = a ∧ L.body = b ∧ L.pending = pd ∧ stN L.state = st ∧
      ∀ s2 p2, Stp ρ H w ρ (H.set i (.loop fn nt lv ts ps a b (stN s2) p2)) { w with heap := w.heap.setIfInBounds g.b (.loop { L with state := s2, pending := p2 }) } := by
  obtain ⟨g', e, L, h1, h2, h3, h4, h5, h6, h7, h8, h9⟩ := hs.obj i _ hi rfl
  rw [hg] at e; cases e
  refine ⟨L, h1, h2, h3, h4, h5, h6, h7, h8, h9, fun s2 p2 => ?_⟩
  refine Stp.put hs hi rfl hg (by simp) rfl rfl rfl (fun d hd => ?_) ⟨{ L with state := s2, pending := p2 }, ?_, h2, h3, h4, h5, h6, h7, rfl, rfl⟩
  · rw [Array.getElem?_setIfInBounds, if_neg (fun e => hd e.symm)]
  · have := (Array.getElem?_eq_some_iff.1 h1).1
    simp [Array.getElem?_setIfInBounds, this]
theorem exAt_some {l : List Nat} {F : Nat → M AV} {i : Nat} {H : Heap} {n : Nat} {r : AV × Heap × Nat} (h : exAt (l.map fun i => (i, F i)) i H n = some r) : F i H n = some r := by
  induction l with
  | nil => exact (fail_some (α := AV) (H := H) (n := n) h).elim
  | cons a l ih =>
    rw [List.map_cons] at h
    unfold exAt at h
    cases e : Nat.beq i a with
    | true => rw [e] at h; rw [Nat.eq_of_beq_eq_true e]; exact h
    | false => rw [e] at h; exact ih h
theorem rj_some {j : Option Code} {k kr : M AV} {rt : Bool} {l : List Nat} {F : Nat → M AV} {H : Heap} {n : Nat} {r : AV × Heap × Nat} (h : rj j k (kOpt rt kr) (l.map fun i => (i, F i)) H n = some r) :
    (j = none ∧ k H n = some r) ∨ (j = some .ret ∧ kr H n = some r) ∨ ∃ i, j = some (.exit i) ∧ F i H n = some r := by
  unfold rj at h
  split at h
  · exact .inl ⟨rfl, h⟩
  · unfold kOpt at h; exact .inr (.inl ⟨rfl, (cond_some h).2⟩)
  · exact .inr (.inr ⟨_, rfl, exAt_some h⟩)
  · exact (fail_some (α := AV) (H := H) (n := n) h).elim
theorem enterLoop_run {P : Program} {w w' : World} {fn : FuncId} {τ : Array Value} {ps : Array Tmp} {a b : Code} {o : Option Nat} {l : Nat} {m : List Deferred} (h : (Instr.enterLoop fn τ ps a b o).run P w = .ok (l, m) w') {fr : Frame} {cs : List Frame} {f : Operand} {k : List Item}
    (h1 : fr.fn = fn) (h2 : fr.tmps = τ) (h3 : fr.roundOf = o) (h4 : fr.mode = .run) (h5 : fr.todo = .code (.rangeFunc f ps a b) :: k) :
    (stepG P true { frame := fr, callers := cs, status := .running, dying := none } w).bare =
      (stepG.apply P true { fr with todo := .inRangeFunc l :: k, defers := m ++ fr.defers } cs none
        (do let d ← resolve fr.eval { callee := .value f, args := #[.const (.func (.yield l) #[] #[])], argTypes := #[] } 0; invoke d.target d.args) w').bare := by
  subst h1 h2 h3
  have he : ({ fr with todo := .inRangeFunc l :: k, defers := m ++ fr.defers, mode := .run } : Frame).eval = fr.eval := by funext x; cases x <;> rfl
  simp only [stepG, h4, stepG.exec, h5]
  simp [h, he]

theorem dcode_sound {E : Env} (hE : EnvOK E) {nt : Nat} {cs : List Frame} {res : AV × Heap × Nat} (c : Code) : ∀ (b : Frame) (k : List Item) (K : KT) (t : Tmps) (τ : Array Value) (H : Heap) (n : Nat) (ρ : Rho) (w : World), b.fn = E.fid → RndOK ρ b E.rnd → TRel E.ng nt ρ t τ → Sim ρ H w →
    dcode E nt c t K H n = some res → ∃ e t1 τ1 H1 n1 ρ1 w1 ms, Goes E.ng nt ρ H w ρ1 t1 τ1 H1 w1 ∧ K e t1 H1 n1 = some res ∧ Mks w w1 ms ∧ Lands E.P (lone (on b τ (.code c :: k)) cs w) (bdf b ms) k cs e τ1 w1 := by
  induction c with
  | skip =>
    intro b k K t τ H n ρ w hf hr ht hs h
    exact ⟨.normal, t, τ, H, n, ρ, w, [], ⟨.refl hs, ht⟩, h, .nil w w, .one on_skip⟩
  | label l =>
    intro b k K t τ H n ρ w hf hr ht hs h
    exact ⟨.normal, t, τ, H, n, ρ, w, [], ⟨.refl hs, ht⟩, h, .nil w w, .one on_label⟩
  | ret =>
    intro b k K t τ H n ρ w hf hr ht hs h
    exact ⟨.ret, t, τ, H, n, ρ, w, [], ⟨.refl hs, ht⟩, h, .nil w w, k, .refl _ _⟩
  | exit i =>
    intro b k K t τ H n ρ w hf hr ht hs h
    exact ⟨.exit i, t, τ, H, n, ρ, w, [], ⟨.refl hs, ht⟩, h, .nil w w, k, .refl _ _, rfl⟩
  | region id ops draw =>
    intro b k K t τ H n ρ w hf hr ht hs h
    cases draw with
    | true =>
      obtain ⟨r, hi, h2⟩ := ddraw_sound (ops := ops) (K := K .normal) (ord := E.ord id) (t := t) (H := H) (n := n) (res := res) h (w.tape w.drawn (.order b.fn id))
      have hd := Stp.drew hs (w.drawn + 1)
      obtain ⟨t1, τ1, H1, n1, ρ1, w1, g, h1, s⟩ := dops_sound hE (K := K .normal) (b := b) (k := k) (cs := cs) r _ t τ H n ρ _ hi ht hd.sim h2
      exact ⟨.normal, t1, τ1, H1, n1, ρ1, w1, [], ⟨hd.trans g.stp, g.tmps⟩, h1, .nil _ _, .head on_region_draw (s.trans (.one on_region_end))⟩
    | false =>
      obtain ⟨t1, τ1, H1, n1, ρ1, w1, g, h1, s⟩ := dops_sound hE (K := K .normal) (b := b) (k := k) (cs := cs) ops.toList (List.range ops.size) t τ H n ρ w (Idx.all ops) ht hs h
      exact ⟨.normal, t1, τ1, H1, n1, ρ1, w1, [], g, h1, .nil _ _, .head on_region (s.trans (.one on_region_end))⟩
  | seq a c iha ihc =>
    intro b k K t τ H n ρ w hf hr ht hs h
    obtain ⟨e, t1, τ1, H1, n1, ρ1, w1, ms, g, h1, hm, l⟩ := iha b (.code c :: k) _ t τ H n ρ w hf hr ht hs h
    have l := Lands.of_steps (.one on_seq) l
    cases e with
    | normal =>
      obtain ⟨e2, t2, τ2, H2, n2, ρ2, w2, ms2, g2, h2, hm2, l2⟩ := ihc (bdf b ms) k K t1 τ1 H1 n1 ρ1 w1 hf (hr.mono g.stp.ext) g.tmps g.stp.sim h1
      exact ⟨e2, t2, τ2, H2, n2, ρ2, w2, ms2 ++ ms, ⟨g.stp.trans g2.stp, g2.tmps⟩, h2, .trans g.stp.size g.stp.sim g2.stp hm hm2, .of_steps l (by rw [← bdf_bdf]; exact l2)⟩
    | ret => exact ⟨.ret, t1, τ1, H1, n1, ρ1, w1, ms, g, h1, hm, l⟩
    | exit i => exact ⟨.exit i, t1, τ1, H1, n1, ρ1, w1, ms, g, h1, hm, l⟩
  | cond x a c iha ihc =>
    intro b k K t τ H n ρ w hf hr ht hs h
    have hx := ht.ev x
    change cnd (ev E.ng t x) (dcode E nt a t K) (dcode E nt c t K) H n = some res at h
    generalize ev E.ng t x = v at h hx
    cases v with
    | bool p =>
      generalize hv : evalT τ x = v' at hx
      cases hx
      cases p with
      | true =>
        obtain ⟨e2, t2, τ2, H2, n2, ρ2, w2, ms, g2, h2, hm, l2⟩ := iha b k K t τ H n ρ w hf hr ht hs h
        exact ⟨e2, t2, τ2, H2, n2, ρ2, w2, ms, g2, h2, hm, .of_steps (.one (on_cond hv)) l2⟩
      | false =>
        obtain ⟨e2, t2, τ2, H2, n2, ρ2, w2, ms, g2, h2, hm, l2⟩ := ihc b k K t τ H n ρ w hf hr ht hs h
        exact ⟨e2, t2, τ2, H2, n2, ρ2, w2, ms, g2, h2, hm, .of_steps (.one (on_cond hv)) l2⟩
    | _ => exact (fail_some (α := AV) (H := H) (n := n) h).elim
  | block id c ihc =>
    intro b k K t τ H n ρ w hf hr ht hs h
    obtain ⟨e, t1, τ1, H1, n1, ρ1, w1, ms, g, h1, hm, l⟩ := ihc b (.inBlock id :: k) _ t τ H n ρ w hf hr ht hs h
    have l := Lands.of_steps (.one on_block) l
    cases e with
    | normal => exact ⟨.normal, t1, τ1, H1, n1, ρ1, w1, ms, g, h1, hm, Steps.trans l (.one on_inBlock)⟩
    | ret => exact ⟨.ret, t1, τ1, H1, n1, ρ1, w1, ms, g, h1, hm, l⟩
    | exit i =>
      obtain ⟨kk, s, e⟩ := l
      change (bif Nat.beq i id then K .normal t1 else K (.exit i) t1) H1 n1 = some res at h1
      rw [beq_eq] at h1
      rw [exitTo_inBlock] at e
      by_cases hi : i = id
      · subst hi
        simp only [decide_true, cond_true] at h1
        rw [if_pos (by simp)] at e
        exact ⟨.normal, t1, τ1, H1, n1, ρ1, w1, ms, g, h1, hm, s.trans (.one (on_exit e))⟩
      · simp only [hi, decide_false, cond_false] at h1
        rw [if_neg (by simp; exact fun x => hi x.symm)] at e
        exact ⟨.exit i, t1, τ1, H1, n1, ρ1, w1, ms, g, h1, hm, kk, s, e⟩
  | scope c ihc =>
    intro b k K t τ H n ρ w hf hr ht hs h
    obtain ⟨e, t1, τ1, H1, n1, ρ1, w1, ms, g, h1, hm, l⟩ := ihc b (.inScope c :: k) _ t τ H n ρ w hf hr ht hs h
    have l := Lands.of_steps (.one on_scope) l
    cases e with
    | normal => exact ⟨.normal, t1, τ1, H1, n1, ρ1, w1, ms, g, h1, hm, Steps.trans l (.one on_inScope)⟩
    | ret => exact ⟨.ret, t1, τ1, H1, n1, ρ1, w1, ms, g, h1, hm, l⟩
    | exit i => exact ⟨.exit i, t1, τ1, H1, n1, ρ1, w1, ms, g, h1, hm, l⟩
  | loop c ihc =>
    intro b k K t τ H n ρ w hf hr ht hs h
    have key : ∀ (j : Nat) (b : Frame) (t : Tmps) (τ : Array Value) (H : Heap) (n : Nat) (ρ : Rho) (w : World), b.fn = E.fid → RndOK ρ b E.rnd → TRel E.ng nt ρ t τ → Sim ρ H w → loopM (fun t L => dcode E nt c t (kJ L K)) j t H n = some res →
        ∃ e t1 τ1 H1 n1 ρ1 w1 ms, Goes E.ng nt ρ H w ρ1 t1 τ1 H1 w1 ∧ K e t1 H1 n1 = some res ∧ Mks w w1 ms ∧ Lands E.P (lone (on b τ (.code c :: .inLoop c :: k)) cs w) (bdf b ms) k cs e τ1 w1 := by
      intro j
      induction j with
      | zero => intro b t τ H n ρ w hf hr ht hs h; exact (fail_some (α := AV) (H := H) (n := n) h).elim
      | succ j ih =>
        intro b t τ H n ρ w hf hr ht hs h
        obtain ⟨e, t1, τ1, H1, n1, ρ1, w1, ms, g, h1, hm, l⟩ := ihc b (.inLoop c :: k) _ t τ H n ρ w hf hr ht hs h
        cases e with
        | normal =>
          obtain ⟨e2, t2, τ2, H2, n2, ρ2, w2, ms2, g2, h2, hm2, l2⟩ := ih (bdf b ms) t1 τ1 H1 n1 ρ1 w1 hf (hr.mono g.stp.ext) g.tmps g.stp.sim h1
          exact ⟨e2, t2, τ2, H2, n2, ρ2, w2, ms2 ++ ms, ⟨g.stp.trans g2.stp, g2.tmps⟩, h2, .trans g.stp.size g.stp.sim g2.stp hm hm2, .of_steps (Steps.trans l (.one on_inLoop)) (by rw [← bdf_bdf]; exact l2)⟩
        | ret => exact ⟨.ret, t1, τ1, H1, n1, ρ1, w1, ms, g, h1, hm, l⟩
        | exit i => exact ⟨.exit i, t1, τ1, H1, n1, ρ1, w1, ms, g, h1, hm, l⟩
    obtain ⟨e, t1, τ1, H1, n1, ρ1, w1, ms, g, h1, hm, l⟩ := key fuel b t τ H n ρ w hf hr ht hs h
    exact ⟨e, t1, τ1, H1, n1, ρ1, w1, ms, g, h1, hm, .of_steps (.one on_loop) l⟩
  | rangeFunc f ps a c _ _ =>
    intro b k K t τ H n ρ w hf hr ht hs h
    obtain ⟨u, H0, n0, q1, ha⟩ := bd_some (m := lpThere E.rnd) h
    clear h
    obtain ⟨rfl, rfl, q2⟩ := lpThere_some q1
    obtain ⟨i, H1, n1, q3, hb⟩ := bd_some ha
    clear ha
    obtain ⟨q4, rfl, rfl, rfl⟩ := newO_some q3
    obtain ⟨r, H2, n2, q5, hc⟩ := bd_some hb
    clear hb
    obtain ⟨j, H3, n3, q6, h⟩ := bd_some hc
    clear hc
    obtain ⟨rfl, fn', nt', lv', ts', ps', a', c', st', q7, q8, rfl⟩ := endLp_some q6
    have go : ∀ (l r0 : Nat) (m : List Deferred) (ms : List Nat) (wa : World) (L : Loop), m = ms.map mkD → (Instr.enterLoop b.fn τ ps a c b.roundOf).run E.P w = .ok (l, m) (wa.alloc (.loop L)) → l = wa.heap.size → Stp ρ H0 w ρ H0 wa → Mks w wa ms →
        L = { state := .ready, pending := none, fn := b.fn, tmps := τ, params := ps, assign := a, body := c, defers := r0 } →
        ∃ e t1 τ1 H1 n1 ρ1 w1 ms, Goes E.ng nt ρ H0 w ρ1 t1 τ1 H1 w1 ∧ K e t1 H1 n1 = some res ∧ Mks w w1 ms ∧ Lands E.P (lone (on b τ (.code (.rangeFunc f ps a c) :: k)) cs w) (bdf b ms) k cs e τ1 w1 := by
      intro l r0 m ms wa L hm hrun hl hstp hmk hL
      subst hm hl
      let g : G := ⟨wa.heap.size, 0, 0, true⟩
      have hx := rput_ext hstp.sim q4 g
      have s1 : Stp ρ H0 wa (rput ρ i g) (H0.set i (.loop E.fid nt (lvOf ps.toList a c) ((lvOf ps.toList a c).map t) ps.toList a c 0 none)) (wa.alloc (.loop L)) := by
        refine Stp.new hstp.sim q4 (.loop E.fid nt (lvOf ps.toList a c) ((lvOf ps.toList a c).map t) ps.toList a c 0 none) g (.loop L) rfl ⟨L, ?_, ?_⟩
        · show (wa.heap.push _)[wa.heap.size]? = _
          simp
        · subst hL
          exact ⟨hf, fun q => (rTs_rel ht _ q).mono hx, ht.size, rfl, rfl, rfl, rfl, rfl⟩
      have s2 := hstp.trans s1
      have hgn : (rput ρ i g) i = some g := by simp [rput]
      have hcl := apv_sound hE.ap s1.sim (TRel.mono ht s2.ext).glob q5 ((TRel.mono ht s2.ext).ev f) (xs' := #[.func (.yield wa.heap.size) #[] #[]]) (.cons _ _ _ _ (.yld i g hgn) .nil)
      have hcl2 : Does E.P (do let d ← resolve (on b τ (.code (.rangeFunc f ps a c) :: k)).eval { callee := .value f, args := #[.const (.func (.yield wa.heap.size) #[] #[])], argTypes := #[] } 0; invoke d.target d.args) (wa.alloc (.loop L)) (Out (rput ρ i g) (H0.set i (.loop E.fid nt (lvOf ps.toList a c) ((lvOf ps.toList a c).map t) ps.toList a c 0 none)) (wa.alloc (.loop L)) r H2) := by
        refine Does.run ?_ hcl
        rw [eval_on]
        simp [resolve, evalT]
      obtain ⟨v, w3, ⟨ρ3, s3, _⟩, hst⟩ := on_apply (fr := { on b τ (.code (.rangeFunc f ps a c) :: k) with todo := .inRangeFunc wa.heap.size :: k, defers := ms.map mkD ++ b.defers }) (by intro d b r v k; simp) (enterLoop_run hrun (cs := cs) rfl rfl rfl rfl rfl) hcl2
      have hg3 := s3.ext _ _ hgn
      obtain ⟨L3, l1, l2, l3, l4, l5, l6, l7, l8, l9, l10⟩ := Stp.loop s3.sim q7 hg3
      have s4 := l10 .exhausted j
      have hend : step E.P (lone (on (bdf b ms) τ (.endRangeFunc wa.heap.size :: k)) cs w3) = .next (lone (on (bdf b ms) τ ((j.map Item.code).toList ++ k)) cs { w3 with heap := w3.heap.setIfInBounds g.b (.loop { L3 with state := .exhausted, pending := j }) }) := by
        have hb : ¬ L3.state = .busy := fun e => q8 (by rw [← l9, e]; rfl)
        have hrunE : (Instr.endLoop wa.heap.size).run E.P w3 = .ok j { w3 with heap := w3.heap.setIfInBounds g.b (.loop { L3 with state := .exhausted, pending := j }) } := by
          have l1' : w3.heap[wa.heap.size]? = some (.loop L3) := l1
          simp [Instr.endLoop, Instr.getLoop, getObj, setObj, Sem.run, Result.andThen, l1', hb, l8]
          subst l8
          rfl
        refine step_lone_go ?_
        simp [stepG, stepG.exec, on, hrunE]
      have s5 := s2.trans (s3.trans s4)
      have hmk5 : Mks w { w3 with heap := w3.heap.setIfInBounds g.b (.loop { L3 with state := .exhausted, pending := j }) } ms :=
        ⟨hmk.nd, hmk.new, fun r hr => mark_keep s1.sim (mark_keep hstp.sim (hmk.obj r hr) s1) (s3.trans s4)⟩
      have hsteps : Steps E.P (lone (on b τ (.code (.rangeFunc f ps a c) :: k)) cs w) (lone (on (bdf b ms) τ ((j.map Item.code).toList ++ k)) cs { w3 with heap := w3.heap.setIfInBounds g.b (.loop { L3 with state := .exhausted, pending := j }) }) :=
        Steps.trans hst (.one hend)
      have gg : Goes E.ng nt ρ H0 w ρ3 t τ _ _ := ⟨s5, TRel.mono ht s5.ext⟩
      have hH : (H2.set i (.loop fn' nt' lv' ts' ps' a' c' 3 j)) = (H2.set i (.loop fn' nt' lv' ts' ps' a' c' (stN .exhausted) j)) := rfl
      rcases rj_some h with ⟨rfl, h⟩ | ⟨rfl, h⟩ | ⟨id, rfl, h⟩
      · exact ⟨.normal, t, τ, _, _, ρ3, _, ms, gg, h, hmk5, hsteps⟩
      · exact ⟨.ret, t, τ, _, _, ρ3, _, ms, gg, h, hmk5, k, hsteps⟩
      · exact ⟨.exit id, t, τ, _, _, ρ3, _, ms, gg, h, hmk5, k, hsteps, rfl⟩
    cases ho : E.rnd with
    | none =>
      rw [ho] at hr
      have hr : b.roundOf = none := hr
      refine go (w.alloc (.deferred (some []))).heap.size w.heap.size _ [w.heap.size] (w.alloc (.deferred (some []))) _ rfl ?_ rfl (Stp.junk hs _) ⟨by simp, fun r hr => by simp at hr; omega, fun r hr => ?_⟩ rfl
      · rw [hr]; rfl
      · simp at hr; subst hr
        show (w.heap.push _)[w.heap.size]? = _
        simp
    | some i0 =>
      rw [ho] at hr
      obtain ⟨g0, r1, r2⟩ := hr
      obtain ⟨fn0, nt0, lv0, ts0, ps0, a0, c0, st0, pd0, r3⟩ := q2 i0 ho
      obtain ⟨g', e', L0, r4, _⟩ := hs.obj _ _ r3 rfl
      rw [r1] at e'; cases e'
      refine go w.heap.size L0.defers _ [] w _ rfl ?_ rfl (.refl hs) (.nil _ _) rfl
      rw [r2]
      simp [Instr.enterLoop, Instr.getLoop, getObj, newObj, Sem.run, Result.andThen, r4]
  | _ =>
    intro b k K t τ H n ρ w hf hr ht hs h
    exact (fail_some (α := AV) (H := H) (n := n) h).elim
end Go.Dn

/- Soundness, 18: functions. -/
namespace Go.Dn
open M Go.RowKit
set_option linter.unusedSimpArgs false
set_option linter.unusedVariables false

def resOf (P : Program) (τ : Array Value) : ResultVar → Sem Value
  | .tmp t => pure (τ.getD t undef)
  | .cell a t => do loadVar t (← asAddr (τ.getD a undef))
theorem results_eq (P : Program) (fn : Func) (τ : Array Value) : results fn τ = (do
    let vs ← fn.results.mapM (resOf P τ)
    pure (if h : vs.size = 1 then vs[0] else .tuple vs)) := by
  unfold results
  congr 1 <;> (congr 1 <;> (funext x <;> cases x <;> rfl))
theorem loadAt_eq {P : Program} {t : TypeId} {x v : Value} {w : World} (h : (Instr.loadAt t x).run P w = .ok v w) (a : Addr) (hx : x = .pointer (some a)) : (do loadVar t (← asAddr x) : Sem Value).run P w = .ok v w := by
  subst hx
  have : (Instr.loadAt t (.pointer (some a)) : Sem Value) = loadVar t a := rfl
  rw [this] at h
  have h2 : (do loadVar t (← asAddr (.pointer (some a))) : Sem Value) = loadVar t a := rfl
  rw [h2]; exact h
theorem ld_ptr {x : AV} {H : Heap} {n : Nat} {r : AV × Heap × Nat} (h : ld x H n = some r) : ∃ i o, x = .ptr (some (i, o)) := by
  unfold ld at h
  split at h
  · exact ⟨_, _, rfl⟩
  · exact (fail_some h).elim
theorem lda_ptr {z : Nat} {x : AV} {H : Heap} {n : Nat} {r : AV × Heap × Nat} (h : lda z x H n = some r) : ∃ i o, x = .ptr (some (i, o)) := by
  unfold lda at h
  split at h
  · exact ⟨_, _, rfl⟩
  · exact (fail_some h).elim
/-- The results of a function are read. -/
theorem dres_sound {P : Program} {G nt : Nat} {ρ : Rho} {t : Tmps} {τ : Array Value} {H : Heap} {n : Nat} {w : World} {res : AV × Heap × Nat} (hs : Sim ρ H w) (ht : TRel G nt ρ t τ) : ∀ (rs : List ResultVar) (K : List AV → M AV), dres P t rs K H n = some res →
    ∃ l vs, K l H n = some res ∧ (rs.mapM (resOf P τ)).run P w = .ok vs w ∧ VRels ρ l vs := by
  intro rs
  induction rs with
  | nil => intro K h; exact ⟨[], [], h, rfl, .nil⟩
  | cons r rs ih =>
    intro K h
    cases r with
    | tmp i =>
      obtain ⟨l, vs, h1, h2, h3⟩ := ih _ h
      refine ⟨t i :: l, τ.getD i undef :: vs, h1, ?_, .cons _ _ _ _ (ht.tmp i) h3⟩
      rw [List.mapM_cons]
      simp [resOf, h2]
    | cell a ty =>
      have h : (bif known P ty then bd (bif tyAgg P ty then lda (tySz P ty) (t a) else ld (t a)) (fun v => dres P t rs fun l => K (v :: l)) else fail) H n = some res := h
      obtain ⟨hk, h2⟩ := cond_some h
      clear h
      obtain ⟨k1, k2⟩ := known_some hk
      obtain ⟨v, H1, n1, h3, h4⟩ := bd_some h2
      have hp : ∃ i o, t a = .ptr (some (i, o)) := by
        cases ha : tyAgg P ty <;> rw [ha] at h3
        · exact ld_ptr h3
        · exact lda_ptr h3
      obtain ⟨i, o, hp⟩ := hp
      have hx := ht.tmp a
      have hq : ∃ ad, τ.getD a undef = .pointer (some ad) := by
        rw [hp] at hx
        generalize τ.getD a undef = u at hx
        cases hx
        exact ⟨_, rfl⟩
      obtain ⟨ad, hq⟩ := hq
      have hl : H1 = H ∧ n1 = n ∧ ∃ v', (Instr.loadAt ty (τ.getD a undef)).run P w = .ok v' w ∧ VRel ρ v v' := by
        cases ha : tyAgg P ty with
        | true => rw [ha] at h3; exact lda_sound hs h3 hx ha k1 k2
        | false => rw [ha] at h3; exact ld_sound hs h3 hx ha k2
      obtain ⟨rfl, rfl, v', e1, e2⟩ := hl
      obtain ⟨l, vs, h5, h6, h7⟩ := ih _ h4
      refine ⟨v :: l, v' :: vs, h5, ?_, .cons _ _ _ _ e2 h7⟩
      have e3 := loadAt_eq e1 ad hq
      rw [List.mapM_cons]
      have e4 : (resOf P τ (.cell a ty)).run P w = .ok v' w := e3
      simp [e4, h6]
theorem dresults_sound {P : Program} {G nt : Nat} {ρ : Rho} {t : Tmps} {τ : Array Value} {H H' : Heap} {n n' : Nat} {r : AV} {w : World} {fn : Func} (hs : Sim ρ H w) (ht : TRel G nt ρ t τ) (h : dresults P t fn.results.toList H n = some (r, H', n')) :
    H' = H ∧ n' = n ∧ ∃ v, (results fn τ).run P w = .ok v w ∧ VRel ρ r v := by
  unfold dresults at h
  obtain ⟨l, vs, h1, h2, h3⟩ := dres_sound hs ht _ _ h
  obtain ⟨rfl, rfl, rfl⟩ := ret_some h1
  refine ⟨rfl, rfl, if h : vs.toArray.size = 1 then vs.toArray[0] else .tuple vs.toArray, ?_, ?_⟩
  · rw [results_eq P, Array.mapM_eq_mapM_toList]
    simp [h2]
  · cases h3 with
    | nil => exact .tuple _ _ .nil
    | cons a v l c h4 h5 =>
      cases h5 with
      | nil => simpa [single] using h4
      | cons a2 v2 l2 c2 h6 h7 =>
        have : VRel ρ (.tuple (a :: a2 :: l2)) (.tuple (v :: v2 :: c2).toArray) := .tuple _ _ (.cons _ _ _ _ h4 (.cons _ _ _ _ h6 h7))
        simpa [single] using this
/-- The temporaries with which a function begins. -/
theorem enter_tmps {G nt : Nat} {ρ : Rho} {xs : List AV} {xs' : Array Value} (hx : VRels ρ xs xs'.toList) (hl : Nat.ble xs.length nt = true) (hg : Glob G ρ) : TRel G nt ρ (argT xs) (xs' ++ Array.replicate (nt - xs'.size) undef) := by
  have hlen := hx.length
  rw [Array.length_toList (xs := xs')] at hlen
  rw [ble_eq, decide_eq_true_eq] at hl
  refine ⟨by simp; omega, fun i => ?_, hg⟩
  unfold argT
  rw [List.getD_eq_getElem?_getD, Array.getD_eq_getD_getElem?]
  by_cases hi : i < xs.length
  · obtain ⟨v, e1, e2⟩ := hx.get i _ (List.getElem?_eq_getElem hi)
    rw [Array.getElem?_toList] at e1
    rw [List.getElem?_eq_getElem hi, Array.getElem?_append_left (by omega), e1]
    exact e2
  · rw [List.getElem?_eq_none (by omega), Array.getElem?_append_right (by omega)]
    have : ((Array.replicate (nt - xs'.size) undef)[i - xs'.size]?).getD undef = undef := by
      rw [Array.getElem?_replicate]
      split <;> rfl
    rw [this]
    exact .tuple _ _ .nil
theorem on_end {P : Program} {b : Frame} {τ : Array Value} {cs : List Frame} {w : World} (hr : b.roundOf = none) : step P (lone (on b τ []) cs w) = .next (lone { on b τ [] with mode := .returning } cs w) :=
  step_lone_go (by simp [stepG, stepG.exec, on, hr])
theorem on_ret {P : Program} {b : Frame} {τ : Array Value} {k : List Item} {cs : List Frame} {w : World} (hr : b.roundOf = none) : step P (lone (on b τ (.code .ret :: k)) cs w) = .next (lone { on b τ (.code .ret :: k) with mode := .returning } cs w) :=
  step_lone_go (by simp [stepG, stepG.exec, on, hr])
/-- A mark is taken. -/
theorem Stp.unmark {ρ ρ1 : Rho} {H H1 : Heap} {w w1 : World} {r : Nat} (h : Stp ρ H w ρ1 H1 w1) (hr : w1.heap[r]? = some (.deferred (some []))) (hn : w.heap.size ≤ r) :
    Stp ρ H w ρ1 H1 { w1 with heap := w1.heap.setIfInBounds r (.deferred none) } where
  ext := h.ext
  sim := ⟨fun i o a b => by
    obtain ⟨g, x, y⟩ := h.sim.obj i o a b
    refine ⟨g, x, y.heap ?_⟩
    have := mark_free h.sim hr a b x
    show (w1.heap.setIfInBounds r _)[g.b]? = _
    rw [Array.getElem?_setIfInBounds, if_neg (fun e => this e.symm)], h.sim.sep, h.sim.dom⟩
  os := h.os
  tape := h.tape
  output := h.output
  size := by
    show w.heap.size ≤ (w1.heap.setIfInBounds r _).size
    rw [Array.size_setIfInBounds]; exact h.size
  keep := fun b hb hf => by
    show (w1.heap.setIfInBounds r _)[b]? = _
    rw [Array.getElem?_setIfInBounds, if_neg (by omega)]
    exact h.keep b hb hf
  owns := h.owns
/-- The marks are taken one by one. -/
theorem unmarks {P : Program} {ρ ρ1 : Rho} {H H1 : Heap} {w : World} {fr : Frame} {cs : List Frame} (hf : fr.mode = .returning) : ∀ (ms : List Nat) (w1 : World), Stp ρ H w ρ1 H1 w1 → ms.Nodup → (∀ r, r ∈ ms → w.heap.size ≤ r) → (∀ r, r ∈ ms → w1.heap[r]? = some (.deferred (some []))) →
    ∃ w2, Stp ρ H w ρ1 H1 w2 ∧ Steps P (lone { fr with defers := ms.map mkD } cs w1) (lone { fr with defers := [] } cs w2)
  | [], w1, h, _, _, _ => ⟨w1, h, .refl _ _⟩
  | r :: ms, w1, h, hd, hn, ho => by
    rw [List.nodup_cons] at hd
    have hr := ho r (by simp)
    have h2 := h.unmark hr (hn r (by simp))
    obtain ⟨w2, h3, s⟩ := unmarks hf ms _ h2 hd.2 (fun q hq => hn q (by simp [hq])) (fun q hq => by
      show (w1.heap.setIfInBounds r _)[q]? = _
      rw [Array.getElem?_setIfInBounds, if_neg (fun e => hd.1 (by rw [e]; exact hq))]
      exact ho q (by simp [hq]))
    refine ⟨w2, h3, .head (step_lone_go ?_) s⟩
    have hrun : (Instr.takeDeferred r).run P w1 = .ok [] { w1 with heap := w1.heap.setIfInBounds r (.deferred none) } := by
      simp [Instr.takeDeferred, getObj, setObj, Sem.run, Result.andThen, hr]
    simp [stepG, hf, unwind, mkD, hrun]
/-- A function's denotation is what a call of it comes to. -/
theorem dfn_sound {E : Env} (hE : EnvOK E) {f : FuncId} {fn : Func} (hi : E.fid = f) (hrn : E.rnd = none) (hf : E.P.funcs[f]? = some fn) (hn : (fn.name == "runtime.NumGoroutine") = false) (xs : List AV) : CallOK E.P E.ng f xs (dfn E fn xs) := by
  intro H n r H' n' ρ w xs' h hs hg hx
  unfold dfn at h
  cases hb : fn.body with
  | none => rw [hb] at h; exact (fail_some (α := AV) (H := H) (n := n) h).elim
  | some c =>
    simp only [hb] at h
    obtain ⟨hl, h2⟩ := cond_some h
    clear h
    have hc : Calls E.P f xs' w fun e w'' => ∃ v, e = .returned v ∧ Out ρ H w r H' v w'' := by
      intro cs
      let b : Frame := { fn := f, tmps := #[], todo := [], defers := [], mode := .run, kind := .normal }
      have henter : Frame.enter E.P f xs' .normal = on b (xs' ++ Array.replicate (fn.ntmps - xs'.size) undef) [.code c] := by
        simp [Frame.enter, on, hf, hb, b]
      have ht := enter_tmps (nt := fn.ntmps) hx hl hg
      obtain ⟨e, t1, τ1, H1, n1, ρ1, w1, ms, g, h3, hm, l⟩ := dcode_sound hE (cs := cs) c b [] _ _ _ H n ρ w hi.symm (by rw [hrn]; rfl) ht hs h2
      rw [← henter] at l
      have fin : ∀ todo, dresults E.P t1 fn.results.toList H1 n1 = some (r, H', n') → Steps E.P (lone (Frame.enter E.P f xs' .normal) cs w) (lone { on (bdf b ms) τ1 todo with mode := .returning } cs w1) →
          ∃ e w' fr, (∃ v, e = .returned v ∧ Out ρ H w r H' v w') ∧ Comes E.P (lone (Frame.enter E.P f xs' .normal) cs w) (lone fr cs w') e ∧ fr.fn = f ∧ fr.leaving E.P w' e := by
        intro todo h4 s
        obtain ⟨w2, q1, q2⟩ := unmarks (P := E.P) (cs := cs) (fr := { on (bdf b ms) τ1 todo with mode := .returning }) rfl ms w1 g.stp hm.nd hm.new hm.obj
        have q3 : ({ on (bdf b ms) τ1 todo with mode := .returning } : Frame) = { ({ on (bdf b ms) τ1 todo with mode := .returning } : Frame) with defers := ms.map mkD } := by
          simp [on, bdf, b]
        rw [q3] at s
        obtain ⟨rfl, rfl, v, e1, e2⟩ := dresults_sound (G := E.ng) (nt := fn.ntmps) q1.sim g.tmps h4
        exact ⟨.returned v, w2, _, ⟨v, rfl, ρ1, q1, e2⟩, Steps.trans s q2, rfl, rfl, rfl, rfl, fn, hf, e1⟩
      cases e with
      | normal => exact fin [] h3 (Steps.trans l (.one (on_end rfl)))
      | ret =>
        obtain ⟨kk, s⟩ := l
        exact fin _ h3 (Steps.trans s (.one (on_ret rfl)))
      | exit i => exact (fail_some (α := AV) (H := H1) (n := n1) h3).elim
    have hrun : (callFunc f xs').run E.P w = .ok (.enter f xs') w := by
      have hn' : ¬ fn.name = "runtime.NumGoroutine" := by simpa using hn
      simp [callFunc, program, Sem.run, Result.andThen, hf, hn', hb]
    unfold Does
    rw [hrun]
    exact hc
end Go.Dn

/- Soundness, 19: a round of a loop over a function; the table of function values. -/
namespace Go.Dn
open M Go.RowKit
set_option linter.unusedSimpArgs false
set_option linter.unusedVariables false

theorem psSet_rel {G nt : Nat} {ρ : Rho} : ∀ {ps : List Nat} {xs : List AV} {vs : List Value} {t : Tmps} {τ : Array Value}, TRel G nt ρ t τ → (∀ p, p ∈ ps → p < nt) → VRels ρ xs vs → TRel G nt ρ (psSet ps xs t) ((ps.zip vs).foldl (fun τ p => τ.setIfInBounds p.1 p.2) τ)
  | [], _, _, _, _, h, _, _ => by simpa [psSet] using h
  | _ :: _, _, _, _, _, h, _, .nil => by simpa [psSet] using h
  | p :: ps, _, _, _, _, h, hp, .cons x v xs vs h1 h2 => by
    have := psSet_rel (ps := ps) (h.set (hp p (by simp)) h1) (fun q hq => hp q (List.mem_cons_of_mem _ hq)) h2
    exact this
section
variable {P : Program} {b : Frame} {τ : Array Value} {k : List Item} {c : Frame} {cs : List Frame} {w w' : World} {l : Nat} {v : Value}
theorem on_beginRound (hr : b.roundOf = some l) (h : (Instr.beginRound l).run P w = .ok () w') : step P (lone (on b τ (.beginRound :: k)) cs w) = .next (lone (on b τ k) cs w') :=
  step_lone_go (by simp [stepG, stepG.exec, stepG.apply, on, hr, h, Frame.finish])
theorem on_round_end (hr : b.roundOf = some l) (hk : b.kind = .normal) (h : (Instr.endRound l none).run P w = .ok v w') : step P (lone (on b τ []) (c :: cs) w) = .next (lone (c.finish v) cs w') :=
  step_lone_go (by simp [stepG, stepG.exec, on, hr, hk, h, doReturn])
theorem on_round_ret (hr : b.roundOf = some l) (hk : b.kind = .normal) (h : (Instr.endRound l (some .ret)).run P w = .ok v w') : step P (lone (on b τ (.code .ret :: k)) (c :: cs) w) = .next (lone (c.finish v) cs w') :=
  step_lone_go (by simp [stepG, stepG.exec, on, hr, hk, h, doReturn])
theorem on_round_exit {i : Nat} (hr : b.roundOf = some l) (hk : b.kind = .normal) (he : exitTo i k = none) (h : (Instr.endRound l (some (.exit i))).run P w = .ok v w') : step P (lone (on b τ (.code (.exit i) :: k)) (c :: cs) w) = .next (lone (c.finish v) cs w') :=
  step_lone_go (by simp [stepG, stepG.exec, on, hr, hk, h, he, doReturn])
end
theorem begR_some {i : Nat} {H H' : Heap} {n n' : Nat} {u : Unit} (h : begR i H n = some (u, H', n')) : n' = n ∧ ∃ fn nt lv ts ps a b pd, H.get i = some (.loop fn nt lv ts ps a b 0 pd) ∧ H' = H.set i (.loop fn nt lv ts ps a b 1 pd) := by
  obtain ⟨ob, H1, n1, h1, h2⟩ := bd_some h
  obtain ⟨h3, rfl, rfl⟩ := getO_some h1
  split at h2
  · rename_i fn nt lv ts ps a b pd
    obtain ⟨rfl, rfl⟩ := setO_some h2
    exact ⟨rfl, fn, nt, lv, ts, ps, a, b, pd, h3, rfl⟩
  · exact (fail_some h2).elim
theorem endR_some {i : Nat} {j : Option Code} {H H' : Heap} {n n' : Nat} {u : Unit} (h : endR i j H n = some (u, H', n')) : n' = n ∧ ∃ fn nt lv ts ps a b st pd, H.get i = some (.loop fn nt lv ts ps a b st pd) ∧ H' = H.set i (.loop fn nt lv ts ps a b (stN (if j.isNone then .ready else .done)) j) := by
  obtain ⟨ob, H1, n1, h1, h2⟩ := bd_some h
  obtain ⟨h3, rfl, rfl⟩ := getO_some h1
  split at h2
  · rename_i fn nt lv ts ps a b st pd
    obtain ⟨rfl, rfl⟩ := setO_some h2
    exact ⟨rfl, fn, nt, lv, ts, ps, a, b, st, pd, h3, by cases j <;> rfl⟩
  · exact (fail_some h2).elim
theorem run_endRound {P : Program} {w : World} {l : Nat} {L : Loop} (j : Option Code) (h : w.heap[l]? = some (.loop L)) :
    (Instr.endRound l j).run P w = .ok (.bool j.isNone) { w with heap := w.heap.setIfInBounds l (.loop { L with state := if j.isNone then .ready else .done, pending := j }) } := by
  simp [Instr.endRound, Instr.getLoop, getObj, setObj, Sem.run, Result.andThen, h]
/-- A round comes to what the table's entry for yields says. -/
theorem dround_sound {P : Program} {G : Nat} {Es : Nat → Option Env} (hEs : ∀ fn E, Es fn = some E → EnvOK E ∧ E.fid = fn ∧ E.P = P ∧ E.ng = G) (i : Nat) (xs : List AV) : YldOK P G i xs (dround Es i xs) := by
  intro H n r H' n' ρ w xs' g h hs hgl hgi hx
  obtain ⟨ob, H1, n1, h1, h2⟩ := bd_some h
  clear h
  obtain ⟨h3, rfl, rfl⟩ := getO_some h1
  clear h1
  split at h2
  · rename_i fn nt lv ts ps a c st pd
    obtain ⟨h4, h5⟩ := cond_some h2
    clear h2
    rw [Bool.and_eq_true, beq_eq, decide_eq_true_eq] at h4
    obtain ⟨h4, h6⟩ := h4
    cases he : Es fn with
    | none => rw [he] at h5; exact (fail_some (α := AV) h5).elim
    | some E =>
    simp only [he] at h5
    obtain ⟨hE, hfid, rfl, rfl⟩ := hEs fn E he
    obtain ⟨g', e', L, l1, l2, l3, l4, l5, l6, l7, _⟩ := hs.obj i _ h3 rfl
    rw [hgi] at e'; cases e'
    have hlen := hx.length
    rw [Array.length_toList (xs := xs')] at hlen
    have hpl : L.params.size = ps.length := by rw [← l5, Array.length_toList]
    have hrun : (Instr.yield g.b xs').run E.P w = .ok (.round g.b L.fn ((L.params.zip xs').foldl (fun tmps (t, a) => tmps.setIfInBounds t a) L.tmps) L.assign L.body) w := by
      have : ¬ xs'.size ≠ L.params.size := by omega
      simp [Instr.yield, Instr.getLoop, getObj, Sem.run, Result.andThen, l1, this]
    unfold Does
    rw [hrun]
    intro cf cs
    have hE2 : EnvOK (E.at i) := ⟨hE.call, hE.ap⟩
    have ht0 : TRel E.ng nt ρ (rTs lv ts) L.tmps := ⟨l4, l3, hgl⟩
    have hp : ∀ p, p ∈ ps → p < nt := fun p hp => by
      have := List.all_eq_true.1 h6 p hp
      rw [blt_eq, decide_eq_true_eq] at this; exact this
    have ht1 := psSet_rel ht0 hp hx
    have hτ : (L.params.zip xs').foldl (fun tmps (t, a) => tmps.setIfInBounds t a) L.tmps = (ps.zip xs'.toList).foldl (fun τ p => τ.setIfInBounds p.1 p.2) L.tmps := by
      rw [← Array.foldl_toList, Array.toList_zip, l5]
    rw [hτ, l6, l7]
    let bb : Frame := { fn := L.fn, tmps := #[], todo := [], defers := [], mode := .run, kind := .normal, roundOf := some g.b }
    have hfr : ∀ τ, Frame.round g.b L.fn τ a c .normal = on bb τ [.code a, .beginRound, .code c] := fun τ => rfl
    rw [hfr]
    obtain ⟨e, t1, τ1, H2, n2, ρ2, w2, ms, q1, q2, _, q4⟩ := dcode_sound hE2 (cs := cf :: cs) a bb [.beginRound, .code c] _ _ _ _ _ ρ w (by show L.fn = E.fid; rw [l2, hfid]) ⟨g, hgi, rfl⟩ ht1 hs h5
    cases e with
    | ret => exact (fail_some (α := AV) (H := H2) (n := n2) q2).elim
    | exit _ => exact (fail_some (α := AV) (H := H2) (n := n2) q2).elim
    | normal =>
    obtain ⟨u, H3, n3, q5, q6⟩ := bd_some (m := begR i) q2
    obtain ⟨rfl, fn3, nt3, lv3, ts3, ps3, a3, b3, pd3, q7, rfl⟩ := begR_some q5
    have hg2 := q1.stp.ext _ _ hgi
    obtain ⟨L2, m1, m2, m3, m4, m5, m6, m7, m8, m9, m10⟩ := Stp.loop q1.stp.sim q7 hg2
    have s2 := m10 .busy pd3
    have hready : L2.state = .ready := by
      cases e : L2.state <;> rw [e] at m9 <;> first | rfl | cases m9
    have hbeg : (Instr.beginRound g.b).run E.P w2 = .ok () { w2 with heap := w2.heap.setIfInBounds g.b (.loop { L2 with state := .busy, pending := pd3 }) } := by
      subst m8
      simp [Instr.beginRound, Instr.getLoop, getObj, setObj, Sem.run, Result.andThen, m1, hready]
    have st2 := on_beginRound (P := E.P) (b := bdf bb ms) (τ := τ1) (k := [.code c]) (cs := cf :: cs) (l := g.b) rfl hbeg
    obtain ⟨e, t4, τ4, H4, n4, ρ4, w4, ms4, r1, r2, _, r4⟩ := dcode_sound hE2 (cs := cf :: cs) c (bdf bb ms) [] _ _ _ _ n3 ρ2 _ (by show L.fn = E.fid; rw [l2, hfid]) ⟨g, hg2, rfl⟩ (q1.tmps) s2.sim q6
    have hg4 := r1.stp.ext _ _ hg2
    have fin : ∀ (j : Option Code) (v : Bool), bd (endR i j) (fun _ => M.ret (.bool v)) H4 n4 = some (r, H', n') → v = j.isNone → ∃ w5, Out ρ H w r H' (.bool v) w5 ∧ (Instr.endRound g.b j).run E.P w4 = .ok (.bool v) w5 := by
      intro j v x hv
      obtain ⟨u, H5, n5, x1, x2⟩ := bd_some x
      obtain ⟨rfl, rfl, rfl⟩ := ret_some x2
      obtain ⟨rfl, fn5, nt5, lv5, ts5, ps5, a5, b5, st5, pd5, x3, rfl⟩ := endR_some x1
      obtain ⟨L5, y1, y2, y3, y4, y5, y6, y7, y8, y9, y10⟩ := Stp.loop r1.stp.sim x3 hg4
      have s5 := y10 (if j.isNone then .ready else .done) j
      refine ⟨_, ⟨ρ4, (q1.stp.trans (s2.trans r1.stp)).trans (w2 := { w4 with heap := w4.heap.setIfInBounds g.b (.loop { L5 with state := if j.isNone then .ready else .done, pending := j }) }) ?_, .bool _⟩, ?_⟩
      · exact s5
      · rw [run_endRound j y1, hv]
    have hsteps := Steps.trans q4 (.one st2)
    cases e with
    | normal =>
      obtain ⟨w5, z1, z2⟩ := fin none true r2 rfl
      exact ⟨_, w5, z1, Steps.trans hsteps (Steps.trans r4 (.one (on_round_end rfl rfl z2)))⟩
    | ret =>
      obtain ⟨w5, z1, z2⟩ := fin (some .ret) false r2 rfl
      obtain ⟨kk, s⟩ := r4
      exact ⟨_, w5, z1, Steps.trans hsteps (s.trans (.one (on_round_ret rfl rfl z2)))⟩
    | exit id =>
      obtain ⟨w5, z1, z2⟩ := fin (some (.exit id)) false r2 rfl
      obtain ⟨kk, s, hex⟩ := r4
      exact ⟨_, w5, z1, Steps.trans hsteps (s.trans (.one (on_round_exit rfl rfl (by rw [hex]; rfl) z2)))⟩
  · exact (fail_some (α := AV) h2).elim
end Go.Dn
