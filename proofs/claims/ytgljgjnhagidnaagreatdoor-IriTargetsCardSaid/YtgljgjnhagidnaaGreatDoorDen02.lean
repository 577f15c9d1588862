/- Soundness, 7: writing memory. -/
import Derived.Test.YtgljgjnhagidnaaGreatDoorDen01
import Derived.Laws.Tables
import Derived.Deep.AppendSrc
import Derived.Laws.IdiomStrings
import Derived.Laws.MakeOwn
import Derived.Laws.RangeString
import Derived.Lib.UnsafeStr
namespace Go.Dn
open M Go.RowKit
set_option linter.unusedSimpArgs false
set_option linter.unusedVariables false

theorem Rw.mine_of {rw : Rw} {o : Nat} (h : Rw.ok rw o = true) : rw.mine = true := by cases rw <;> first | rfl | cases h
theorem Rw.ok_le {rw : Rw} {o k : Nat} (h : Rw.ok rw o = true) (hk : o ≤ k) : Rw.ok rw k = true := by
  cases rw with
  | ro => cases h
  | bs => rfl
  | own f =>
    have h1 : f ≤ o := by have : Nat.ble f o = true := h; rw [ble_eq, decide_eq_true_eq] at this; exact this
    show Nat.ble f k = true
    rw [ble_eq, decide_eq_true_eq]; omega
theorem oneCell_of {ρ : Rho} {a : AV} {v : Value} (h : VRel ρ a v) (ho : oneCell a = true) : v.oneCell' = true := by
  cases h <;> first | rfl | cases ho
theorem setO_some {i : Nat} {o : AObj} {u : Unit} {H H' : Heap} {n n' : Nat} (h : setO i o H n = some (u, H', n')) : H' = H.set i o ∧ n' = n := by
  simp only [setO, Option.some.injEq, Prod.mk.injEq] at h; exact ⟨h.2.1.symm, h.2.2.symm⟩
theorem newO_some {o : AObj} {i : Nat} {H H' : Heap} {n n' : Nat} (h : newO o H n = some (i, H', n')) : H.get n = none ∧ i = n ∧ H' = H.set n o ∧ n' = n + 1 := by
  unfold newO at h
  split at h
  · rename_i e
    simp only [Option.some.injEq, Prod.mk.injEq] at h
    exact ⟨e, h.1.symm, h.2.1.symm, h.2.2.symm⟩
  · cases h
/-- Stores into cells that lie there and aren't frozen. -/
theorem run_stores {P : Program} (b o : Nat) : ∀ (vs : List Value) (k : Nat) (w : World) (c : Array Value) (e : TypeId) (fz : Nat × Nat), w.heap[b]? = some (.cells c e fz) → o + k + vs.length ≤ c.size → (∀ v ∈ vs, v.oneCell' = true) →
    (∀ j, o + k ≤ j → j < o + k + vs.length → (decide (fz.1 ≤ j) && decide (j < fz.2)) = false) →
    ∃ (w' : World) (c' : Array Value), (storeCells ⟨b, o, none⟩ vs k).run P w = .ok () w' ∧ w'.heap[b]? = some (.cells c' e fz) ∧ c'.size = c.size ∧ w'.os = w.os ∧ w'.tape = w.tape ∧ w'.output = w.output ∧ w'.heap.size = w.heap.size ∧
      (∀ d, d ≠ b → w'.heap[d]? = w.heap[d]?) ∧ (∀ j, c'[j]? = if o + k ≤ j ∧ j < o + k + vs.length then vs[j - (o + k)]? else c[j]?) := by
  intro vs
  induction vs with
  | nil =>
    intro k w c e fz h _ _ _
    refine ⟨w, c, by simp [storeCells], h, rfl, rfl, rfl, rfl, rfl, fun _ _ => rfl, fun j => ?_⟩
    rw [if_neg (by simp only [List.length_nil]; omega)]
  | cons v vs ih =>
    intro k w c e fz h hl h1 hf
    simp only [List.length_cons] at hl hf
    have hc : w.cell? ⟨b, o + k, none⟩ = some (c[o + k]'(by omega)) := by
      simp [World.cell?, h]
    have hfz : w.frozen? ⟨b, o + k, none⟩ = false := by
      simp only [World.frozen?, h]; exact hf (o + k) (Nat.le_refl _) (by omega)
    have hw : (w.setCell ⟨b, o + k, none⟩ v).heap[b]? = some (.cells (c.setIfInBounds (o + k) v) e fz) := by
      show (w.heap.modify b _)[b]? = _
      rw [Array.getElem?_modify, if_pos rfl, h]
      rfl
    obtain ⟨w', c', r1, r2, r3, r4, r5, r6, r7, r8, r9⟩ := ih (k + 1) (w.setCell ⟨b, o + k, none⟩ v) (c.setIfInBounds (o + k) v) e fz hw (by simp; omega) (fun u hu => h1 u (List.mem_cons_of_mem _ hu)) (fun j a b => hf j (by omega) (by omega))
    refine ⟨w', c', ?_, r2, by rw [r3]; simp, by rw [r4]; rfl, by rw [r5]; rfl, by rw [r6]; rfl, by rw [r7]; simp, ?_, ?_⟩
    · have hst := run_store P w ⟨b, o + k, none⟩ v .plain (h1 v List.mem_cons_self)
      simp [storeCells, Addr.add_lit, hst, stored, hc, hfz, r1]
    · intro d hd
      rw [r8 d hd]
      exact Below.heap_setCell w _ v d hd
    · intro j
      rw [r9 j]
      by_cases hj : o + k = j
      · subst hj
        rw [if_neg (by omega), if_pos (by simp)]
        simp [Array.getElem?_setIfInBounds]; omega
      · by_cases hj2 : o + (k + 1) ≤ j ∧ j < o + (k + 1) + vs.length
        · rw [if_pos hj2, if_pos (by simp; omega)]
          rw [show j - (o + k) = (j - (o + (k + 1))) + 1 from by omega]; simp
        · rw [if_neg hj2, if_neg (by simp; omega)]
          simp [Array.getElem?_setIfInBounds, hj]
theorem lay_get (cs : List AV) (o : Nat) (vs : List AV) (h : o + vs.length ≤ cs.length) (j : Nat) : (lay cs o vs)[j]? = if o ≤ j ∧ j < o + vs.length then vs[j - o]? else cs[j]? := by
  unfold lay
  rw [List.getElem?_append, List.getElem?_append, List.length_take, Nat.min_eq_left (by omega)]
  by_cases h1 : j < o
  · rw [if_pos h1, if_neg (by omega), List.getElem?_take, if_pos h1]
  · rw [if_neg h1]
    by_cases h2 : j - o < vs.length
    · rw [if_pos h2, if_pos (by omega)]
    · rw [if_neg h2, if_neg (by omega), List.getElem?_drop]
      congr 1; omega
theorem lay_length (cs : List AV) (o : Nat) (vs : List AV) (h : o + vs.length ≤ cs.length) : (lay cs o vs).length = cs.length := by
  unfold lay; simp; omega
/-- A row is written, in the abstract and in the world. -/
theorem wrO_sound {P : Program} {i o : Nat} {vs : List AV} {u : Unit} {H H' : Heap} {n n' : Nat} {ρ : Rho} {w : World} (hs : Sim ρ H w) (h : wrO i o vs H n = some (u, H', n')) {g : G} (hg : ρ i = some g) {vs' : List Value} (hv : VRels ρ vs vs') :
    n' = n ∧ ∃ w', (storeCells ⟨g.b, g.base + o, none⟩ vs').run P w = .ok () w' ∧ Stp ρ H w ρ H' w' := by
  unfold wrO at h
  obtain ⟨ob, H1, n1, h1, h2⟩ := bd_some h
  obtain ⟨h3, rfl, rfl⟩ := getO_some h1
  split at h2
  · rename_i cs e rw
    obtain ⟨hrw, h2⟩ := cond_some h2
    have hm := Rw.mine_of hrw
    obtain ⟨h4, h5⟩ := cond_some h2
    obtain ⟨h6, h7⟩ := cond_some h5
    obtain ⟨rfl, rfl⟩ := setO_some h7
    rw [ble_eq, decide_eq_true_eq] at h4
    obtain ⟨c, e', fz, k1, k2, k3, k4, k5, k6⟩ := hs.row h3 hg
    obtain ⟨rfl, kb, k7, k8⟩ := k6 hm
    have hlen := hv.length
    have hone : ∀ v ∈ vs', v.oneCell' = true := by
      intro v hm
      obtain ⟨j, hj⟩ := List.getElem?_of_mem hm
      have hjl : j < vs.length := by rw [hlen]; exact (List.getElem?_eq_some_iff.1 hj).1
      obtain ⟨v', e1, e2⟩ := hv.get j _ (List.getElem?_eq_getElem hjl)
      rw [hj] at e1; cases e1
      exact oneCell_of e2 (List.all_eq_true.1 h6 _ (List.getElem_mem hjl))
    obtain ⟨w', c', r1, r2, r3, r4, r5, r6, r7, r8, r9⟩ := run_stores (P := P) g.b (g.base + o) vs' 0 w c e' fz k1 (by omega) hone (fun j a b => by
      cases hf : (decide (fz.1 ≤ j) && decide (j < fz.2)) with
      | false => rfl
      | true => have := k7 j (Rw.ok_le hrw (by omega)) hf; omega)
    refine ⟨rfl, w', r1, Stp.put hs h3 hm hg r7 r4 r5 r6 r8 ?_⟩
    refine ⟨c', e', fz, r2, by omega, by rw [lay_length _ _ _ h4]; omega, ?_, k5, fun _ => ⟨rfl, kb, k7, k8⟩⟩
    intro j a hj
    rw [lay_get _ _ _ h4] at hj
    rw [r9]
    by_cases hc : o ≤ j ∧ j < o + vs.length
    · rw [if_pos hc] at hj
      rw [if_pos (by omega)]
      obtain ⟨v, e1, e2⟩ := hv.get _ a hj
      exact ⟨v, by rw [show g.base + j - (g.base + o + 0) = j - o from by omega]; exact e1, e2⟩
    · rw [if_neg hc] at hj
      rw [if_neg (by omega)]
      exact k4 j a hj
  · exact (fail_some h2).elim
theorem st_sound {P : Program} {t : TypeId} {x y r : AV} {H H' : Heap} {n n' : Nat} {ρ : Rho} {x' y' : Value} {w : World} (hs : Sim ρ H w) (h : st x y H n = some (r, H', n')) (hx : VRel ρ x x') (hy : VRel ρ y y') (ht : ∃ i, P.info? t = some i ∧ i.size = 1) :
    ∃ w', (Instr.storeAt t x' y').run P w = .ok () w' ∧ n' = n ∧ r = .tuple [] ∧ Stp ρ H w ρ H' w' := by
  unfold st at h
  split at h
  · rename_i i o
    obtain ⟨u, H1, n1, h1, h2⟩ := bd_some h
    obtain ⟨rfl, rfl, rfl⟩ := ret_some h2
    cases hx with
    | ptr _ _ g hg =>
    have hy1 : y'.oneCell' = true := by
      unfold wrO at h1
      obtain ⟨ob, H2, n2, e1, e2⟩ := bd_some h1
      split at e2
      · obtain ⟨_, e2⟩ := cond_some e2
        obtain ⟨_, e4⟩ := cond_some e2
        obtain ⟨e5, _⟩ := cond_some e4
        exact oneCell_of hy (by simpa using e5)
      · exact (fail_some e2).elim
    obtain ⟨rfl, w', r1, r2⟩ := wrO_sound (P := P) hs h1 hg (.cons _ _ _ _ hy .nil)
    obtain ⟨inf, hf, hsz⟩ := ht
    refine ⟨w', ?_, rfl, rfl, r2⟩
    have hc : y'.cells = #[y'] := by cases y' <;> first | rfl | cases hy1
    simp [Instr.storeAt, Instr.sureAddr, storeVar, run_sizeOf hf, hsz, hc, r1]
  · exact (fail_some h).elim
theorem sta_sound {P : Program} {t : TypeId} {x y r : AV} {H H' : Heap} {n n' : Nat} {ρ : Rho} {x' y' : Value} {w : World} (hs : Sim ρ H w) (h : sta (tySz P t) x y H n = some (r, H', n')) (hx : VRel ρ x x') (hy : VRel ρ y y') (ht : ∃ i, P.info? t = some i) :
    ∃ w', (Instr.storeAt t x' y').run P w = .ok () w' ∧ n' = n ∧ r = .tuple [] ∧ Stp ρ H w ρ H' w' := by
  unfold sta at h
  split at h
  · rename_i i o vs
    obtain ⟨h0, h00⟩ := cond_some h
    clear h
    rw [beq_eq, decide_eq_true_eq] at h0
    obtain ⟨u, H1, n1, h1, h2⟩ := bd_some h00
    obtain ⟨rfl, rfl, rfl⟩ := ret_some h2
    cases hx with
    | ptr _ _ g hg =>
    cases hy with
    | agg _ c hc =>
    obtain ⟨rfl, w', r1, r2⟩ := wrO_sound (P := P) hs h1 hg hc
    obtain ⟨inf, hf⟩ := ht
    have hsz : inf.size = tySz P t := by simp [tySz, hf]
    refine ⟨w', ?_, rfl, rfl, r2⟩
    have hcs : c.size = tySz P t := by
      have h9 := hc.length
      rw [Array.length_toList (xs := c)] at h9
      omega
    simp [Instr.storeAt, Instr.sureAddr, storeVar, run_sizeOf hf, hsz, Value.cells, hcs, r1]
  · exact (fail_some h).elim
/-- A new row. -/
theorem newRow_sound {P : Program} {e : TypeId} {cs : List AV} {i : Nat} {H H' : Heap} {n n' : Nat} {ρ : Rho} {w : World} (hs : Sim ρ H w) (h : newRow e cs H n = some (i, H', n')) {c : Array Value} (hc : VRels ρ cs c.toList) (spare : Array Value) :
    n' = n + 1 ∧ ∃ ρ' g, (Go.newRow e (c ++ spare)).run P w = .ok ⟨g.b, 0, none⟩ (w.alloc (.cells (c ++ spare) e)) ∧ Stp ρ H w ρ' H' (w.alloc (.cells (c ++ spare) e)) ∧ ρ' i = some g ∧ g.base = 0 ∧ g.size = c.size + spare.size := by
  unfold newRow newRowF at h
  obtain ⟨h1, h2⟩ := cond_some h
  obtain ⟨h3, rfl, rfl, rfl⟩ := newO_some h2
  have hlen := hc.length
  rw [Array.length_toList (xs := c)] at hlen
  refine ⟨rfl, rput ρ i ⟨w.heap.size, 0, c.size + spare.size, true⟩, ⟨w.heap.size, 0, c.size + spare.size, true⟩, ?_, ?_, by simp [rput], rfl, rfl⟩
  · simp [Go.newRow]
  · refine Stp.new hs h3 _ _ _ rfl ?_
    have hx := rput_ext hs h3 ⟨w.heap.size, 0, c.size + spare.size, true⟩
    refine ⟨c ++ spare, e, (0, 0), ?_, by simp, by simp; omega, ?_, fun _ => rfl, fun _ => ⟨rfl, rfl, fun k _ hk => ?_, fun f _ => .inl rfl⟩⟩
    · show (w.heap.push _)[w.heap.size]? = _
      simp
    · intro j a hj
      obtain ⟨v, e1, e2⟩ := hc.get j a hj
      rw [Array.getElem?_toList] at e1
      have hjl := (Array.getElem?_eq_some_iff.1 e1).1
      exact ⟨v, by rw [Nat.zero_add, Array.getElem?_append_left hjl]; exact e1, e2.mono hx⟩
    · simp at hk
end Go.Dn

/- Soundness, 8: new memory; structs and slices that are built. -/
namespace Go.Dn
open M Go.RowKit
set_option linter.unusedSimpArgs false
set_option linter.unusedVariables false

theorem cv0_rel (ρ : Rho) (v : Value) : VRel ρ (cv0 v) v := by
  unfold cv0
  split <;> first | exact .bool _ | exact .int _ _ | exact .str _ | exact .ptrN | exact .slN | exact .mapN | exact .nilFunc | exact .nilIface | exact .bad _
theorem cv0s_rel (ρ : Rho) : ∀ l : List Value, VRels ρ (l.map cv0) l
  | [] => .nil
  | v :: l => .cons _ _ _ _ (cv0_rel ρ v) (cv0s_rel ρ l)
theorem cv_rel (ρ : Rho) (v : Value) : VRel ρ (cv v) v := by
  unfold cv
  split
  · exact .agg _ _ (cv0s_rel ρ _)
  · exact .tuple _ _ (cv0s_rel ρ _)
  · exact cv0_rel ρ v
theorem cells_rel {ρ : Rho} {a : AV} {v : Value} (h : VRel ρ a v) (ha : (cells a).all oneCell = true) : VRels ρ (cells a) v.cells.toList := by
  cases h with
  | agg l c hc => exact hc
  | bad v => simp [cells, oneCell] at ha
  | tuple l c hc => simp [cells, oneCell] at ha
  | sl i o len kc z cap g h1 h2 h3 h4 => exact .cons _ _ _ _ (.sl i o len kc z cap g h1 h2 h3 h4) .nil
  | slE i o z a g h1 => exact .cons _ _ _ _ (.slE i o z a g h1) .nil
  | ptr i o g h1 => exact .cons _ _ _ _ (.ptr i o g h1) .nil
  | map i g h1 => exact .cons _ _ _ _ (.map i g h1) .nil
  | yld i g h1 => exact .cons _ _ _ _ (.yld i g h1) .nil
  | func f a b c d h1 h2 => exact .cons _ _ _ _ (.func f a b c d h1 h2) .nil
  | iface t a v h1 => exact .cons _ _ _ _ (.iface t a v h1) .nil
  | bool b => exact .cons _ _ _ _ (.bool b) .nil
  | int k n => exact .cons _ _ _ _ (.int k n) .nil
  | str s => exact .cons _ _ _ _ (.str s) .nil
  | ptrN => exact .cons _ _ _ _ .ptrN .nil
  | slN => exact .cons _ _ _ _ .slN .nil
  | mapN => exact .cons _ _ _ _ .mapN .nil
  | nilFunc => exact .cons _ _ _ _ .nilFunc .nil
  | nilIface => exact .cons _ _ _ _ .nilIface .nil
theorem newRowF_all {e : TypeId} {cs : List AV} {rw : Rw} {H : Heap} {n : Nat} {r : Nat × Heap × Nat} (h : newRowF e cs rw H n = some r) : cs.all oneCell = true := by
  unfold newRowF at h
  exact (cond_some h).1
theorem newRow_all {e : TypeId} {cs : List AV} {H : Heap} {n : Nat} {r : Nat × Heap × Nat} (h : newRow e cs H n = some r) : cs.all oneCell = true := newRowF_all h
theorem bx_sound {P : Program} {e : TypeId} {x r : AV} {H H' : Heap} {n n' : Nat} {ρ : Rho} {x' : Value} {w : World} (hs : Sim ρ H w) (h : bx e x H n = some (r, H', n')) (hx : VRel ρ x x') :
    ∃ v w', (Instr.box e x').run P w = .ok v w' ∧ Out ρ H w r H' v w' := by
  unfold bx at h
  obtain ⟨i, H1, n1, h1, h2⟩ := bd_some h
  obtain ⟨rfl, rfl, rfl⟩ := ret_some h2
  obtain ⟨_, ρ', g, r1, r2, r3, r4, r5⟩ := newRow_sound (P := P) hs h1 (cells_rel hx (newRow_all h1)) #[]
  rw [Array.append_empty] at r1 r2
  refine ⟨.pointer (some ⟨g.b, 0, none⟩), _, ?_, ρ', r2, ?_⟩
  · simp [Instr.box, newVar, r1]
  · have := VRel.ptr (ρ := ρ') i 0 g r3
    rw [r4] at this; exact this
theorem alloc_sound {P : Program} {e : TypeId} {z r : AV} {H H' : Heap} {n n' : Nat} {ρ : Rho} {w : World} (hs : Sim ρ H w) (hz : tyZero P e = some z) (h : bx e z H n = some (r, H', n')) :
    ∃ v w', (Instr.alloc e true (.tuple #[])).run P w = .ok v w' ∧ Out ρ H w r H' v w' := by
  unfold tyZero at hz
  cases hi : P.info? e with
  | none => simp [hi] at hz
  | some inf =>
    cases hzz : inf.zero with
    | none => simp [hi, hzz] at hz
    | some zv =>
      simp [hi, hzz] at hz
      subst hz
      obtain ⟨v, w', r1, r2⟩ := bx_sound (P := P) hs h (cv_rel ρ zv)
      refine ⟨v, w', ?_, r2⟩
      rw [← r1]
      simp [Instr.alloc, Instr.box, zeroValue, typeInfo, hi, hzz]

/-! ### Parts laid over zero cells -/
theorem foldl_set (vs : List Value) (o : Nat) : ∀ (k : Nat) (c : Array Value), ((vs.zipIdx k).foldl (fun cs (x : Value × Nat) => cs.setIfInBounds (o + x.2) x.1) c).size = c.size ∧
    ∀ j, o + k + vs.length ≤ c.size → ((vs.zipIdx k).foldl (fun cs (x : Value × Nat) => cs.setIfInBounds (o + x.2) x.1) c)[j]? = if o + k ≤ j ∧ j < o + k + vs.length then vs[j - (o + k)]? else c[j]? := by
  induction vs with
  | nil =>
    intro k c
    refine ⟨rfl, fun j _ => ?_⟩
    rw [if_neg (by simp only [List.length_nil]; omega)]; rfl
  | cons v vs ih =>
    intro k c
    obtain ⟨h1, h2⟩ := ih (k + 1) (c.setIfInBounds (o + k) v)
    simp only [List.zipIdx_cons, List.foldl_cons]
    refine ⟨by rw [h1]; simp, fun j hj => ?_⟩
    simp only [List.length_cons] at hj ⊢
    rw [h2 j (by simp; omega)]
    by_cases e : o + k = j
    · subst e
      rw [if_neg (by omega), if_pos (by omega)]
      simp [Array.getElem?_setIfInBounds]; omega
    · by_cases e2 : o + (k + 1) ≤ j ∧ j < o + (k + 1) + vs.length
      · rw [if_pos e2, if_pos (by omega), show j - (o + k) = (j - (o + (k + 1))) + 1 from by omega]; simp
      · rw [if_neg e2, if_neg (by omega)]
        simp [Array.getElem?_setIfInBounds, e]
inductive PRels (ρ : Rho) : List (Nat × Nat × AV) → List (Nat × Value) → (Nat → Option (Nat × Nat)) → Prop
  | nil (f) : PRels ρ [] [] f
  | cons (o z : Nat) (a : AV) (l) (i : Nat) (v : Value) (m) (f) : f i = some (o, z) → VRel ρ a v → PRels ρ l m f → PRels ρ ((o, z, a) :: l) ((i, v) :: m) f
theorem fill_sound {ρ : Rho} {f : Nat → Option (Nat × Nat)} : ∀ (ps : List (Nat × Nat × AV)) (qs : List (Nat × Value)) (cs ds : List AV) (c : Array Value), PRels ρ ps qs f → VRels ρ cs c.toList → fillA cs ps = some ds → ∃ d, Instr.fill f c qs = some d ∧ VRels ρ ds d.toList := by
  intro ps
  induction ps with
  | nil =>
    intro qs cs ds c hp hc h
    cases hp
    cases h
    exact ⟨c, rfl, hc⟩
  | cons p ps ih =>
    intro qs cs ds c hp hc h
    cases hp with
    | cons o z a l i v m f hf hv hr =>
    unfold fillA at h
    have h1 : ∃ x, x = (cells a).length := ⟨_, rfl⟩
    cases e1 : Nat.beq (cells a).length z with
    | false => rw [e1] at h; cases h
    | true =>
      cases e2 : Nat.ble (o + z) cs.length with
      | false => rw [e1, e2] at h; cases h
      | true =>
        cases e3 : (cells a).all oneCell with
        | false => rw [e1, e2, e3] at h; cases h
        | true =>
          rw [e1, e2, e3] at h
          simp only [cond_true] at h
          rw [beq_eq, decide_eq_true_eq] at e1
          rw [ble_eq, decide_eq_true_eq] at e2
          have hcr := cells_rel hv e3
          have hl1 := hcr.length
          rw [Array.length_toList (xs := v.cells)] at hl1
          have hl2 := hc.length
          rw [Array.length_toList (xs := c)] at hl2
          obtain ⟨s1, s2⟩ := foldl_set v.cells.toList o 0 c
          have hz : v.cells.zipIdx.foldl (fun cs (x : Value × Nat) => cs.setIfInBounds (o + x.2) x.1) c = (v.cells.toList.zipIdx 0).foldl (fun cs (x : Value × Nat) => cs.setIfInBounds (o + x.2) x.1) c := by
            rw [← Array.foldl_toList, Array.toList_zipIdx]
          have hlv : v.cells.toList.length = v.cells.size := Array.length_toList
          obtain ⟨d, k1, k2⟩ := ih m (lay cs o (cells a)) ds ((v.cells.toList.zipIdx 0).foldl (fun cs (x : Value × Nat) => cs.setIfInBounds (o + x.2) x.1) c) hr (by
            refine VRels.of_get (by rw [lay_length _ _ _ (by omega)]; exact hl2.trans (s1.symm.trans Array.length_toList.symm)) ?_
            intro j b u hb hu
            rw [lay_get _ _ _ (by omega)] at hb
            rw [Array.getElem?_toList, s2 j (by omega)] at hu
            by_cases hj : o ≤ j ∧ j < o + (cells a).length
            · rw [if_pos hj] at hb
              rw [if_pos (by omega), show j - (o + 0) = j - o from by omega] at hu
              obtain ⟨u', x1, x2⟩ := hcr.get _ _ hb
              rw [hu] at x1; cases x1; exact x2
            · rw [if_neg hj] at hb
              rw [if_neg (by omega)] at hu
              obtain ⟨u', x1, x2⟩ := hc.get _ _ hb
              rw [Array.getElem?_toList, hu] at x1; cases x1; exact x2) h
          refine ⟨d, ?_, k2⟩
          unfold Instr.fill
          simp only [hf]
          rw [if_neg (by simp; omega)]
          rw [← k1]
          congr 1
end Go.Dn

/- Soundness, 9: what is built; make; append; strings and bytes. -/
namespace Go.Dn
open M Go.RowKit
set_option linter.unusedSimpArgs false
set_option linter.unusedVariables false

theorem tyZero_some {P : Program} {e : TypeId} {z : AV} (h : tyZero P e = some z) : ∃ inf zv, P.info? e = some inf ∧ inf.zero = some zv ∧ z = cv zv ∧ inf.size = tySz P e ∧ inf.bytes = tyBytes P e := by
  unfold tyZero at h
  cases hi : P.info? e with
  | none => simp [hi] at h
  | some inf =>
    cases hz : inf.zero with
    | none => simp [hi, hz] at h
    | some zv => simp [hi, hz] at h; exact ⟨inf, zv, rfl, hz, h.symm, by simp [tySz, hi], by simp [tyBytes, hi]⟩
theorem cells_cv0 (v : Value) : cells (cv0 v) = [cv0 v] := by unfold cv0; split <;> rfl
theorem cells_cv (ρ : Rho) (v : Value) : VRels ρ (cells (cv v)) v.cells.toList := by
  have key : cv v = cv0 v → v.cells = #[v] → VRels ρ (cells (cv v)) v.cells.toList := fun h1 h2 => by
    rw [h1, h2, cells_cv0]; exact .cons _ _ _ _ (cv0_rel ρ v) .nil
  cases v with
  | agg cs => exact cv0s_rel ρ _
  | tuple vs => exact .cons _ _ _ _ (cv_rel ρ (.tuple vs)) .nil
  | _ => exact key rfl rfl
theorem mapM_places {P : Program} : ∀ fs : List Field, (fs.all fun f => (P.info? f.type).isSome) = true → fs.mapM (fun f => (P.info? f.type).map fun i => (f.offset, i.size)) = some (fs.map fun f => (f.offset, tySz P f.type)) := by
  intro fs
  induction fs with
  | nil => intro _; rfl
  | cons f fs ih =>
    intro h
    simp only [List.all_cons, Bool.and_eq_true] at h
    obtain ⟨inf, hi⟩ := Option.isSome_iff_exists.1 h.1
    simp [List.mapM_cons, hi, ih h.2, tySz]
theorem bu_sound {P : Program} {t : TypeId} {z r : AV} {ps : List (Nat × Nat × AV)} {H H' : Heap} {n n' : Nat} {ρ : Rho} {qs : Array (Nat × Value)} (hp : placed P t = true) (hz : tyZero P t = some z) (h : bu (cells z) ps H n = some (r, H', n'))
    (hq : PRels ρ ps qs.toList (place P t)) (w : World) : H' = H ∧ n' = n ∧ ∃ v, (Instr.build t qs).run P w = .ok v w ∧ VRel ρ r v := by
  unfold bu at h
  obtain ⟨cs, H1, n1, h1, h2⟩ := bd_some h
  obtain ⟨rfl, rfl, rfl⟩ := ret_some h2
  obtain ⟨h3, rfl, rfl⟩ := ofO_some h1
  obtain ⟨inf, zv, hi, hzz, rfl, hsz, _⟩ := tyZero_some hz
  obtain ⟨d, k1, k2⟩ := fill_sound ps qs.toList _ _ zv.cells hq (cells_cv ρ zv) h3
  refine ⟨rfl, rfl, .agg d, run_build w t qs d ?_, .agg _ _ k2⟩
  unfold placed at hp
  split at hp
  · rename_i fs e
    have hu := tyU_some e (by simp)
    have hf : (fun i => (fs.toList.map fun f => (f.offset, tySz P f.type)).toArray[i]?) = place P t := by
      funext i
      simp [place, e]
    have hm := mapM_places fs.toList hp
    simp only [Program.built, hi, hu, hzz, hm]
    rw [hf]; exact k1
  · rename_i m e' e
    have hu := tyU_some e (by simp)
    obtain ⟨ie, hie⟩ := Option.isSome_iff_exists.1 hp
    have hf : (fun i => some (i * ie.size, ie.size)) = place P t := by
      funext i
      simp [place, e, tySz, hie]
    simp only [Program.built, hi, hu, hzz, hie]
    rw [hf]; exact k1
  · cases hp
theorem rep_get (zs : List AV) : ∀ (n j : Nat), j < n * zs.length → (rep zs n)[j]? = zs[j % zs.length]? := by
  intro n
  induction n with
  | zero => intro j h; simp at h
  | succ n ih =>
    intro j h
    unfold rep
    rw [List.getElem?_append]
    by_cases hj : j < zs.length
    · rw [if_pos hj, Nat.mod_eq_of_lt hj]
    · rw [if_neg hj, ih (j - zs.length) (by rw [Nat.add_mul, Nat.one_mul] at h; omega)]
      congr 1
      exact (Nat.mod_eq_sub_mod (by omega)).symm
theorem rep_length (zs : List AV) : ∀ n : Nat, (rep zs n).length = n * zs.length := by
  intro n
  induction n with
  | zero => simp [rep]
  | succ n ih => simp [rep, ih, Nat.add_mul]; omega
theorem zeros_rel {ρ : Rho} {zs : List AV} {c : Array Value} (h : VRels ρ zs c.toList) (n : Nat) : VRels ρ (rep zs n) ((Array.range (n * zs.length)).map (fun i => c[i % c.size]!)).toList := by
  have hl : zs.length = c.size := h.length.trans Array.length_toList
  refine VRels.of_get (by rw [rep_length]; simp) ?_
  intro j a v ha hv
  have hj : j < n * zs.length := by have := (List.getElem?_eq_some_iff.1 ha).1; rw [rep_length] at this; exact this
  rw [rep_get _ _ _ hj] at ha
  obtain ⟨v', e1, e2⟩ := h.get _ _ ha
  rw [Array.getElem?_toList] at e1 hv
  simp [hj] at hv
  rw [hl] at e1
  rw [getElem!_pos c _ (Array.getElem?_eq_some_iff.1 e1).1] at hv
  have := (Array.getElem?_eq_some_iff.1 e1).2
  rw [this] at hv
  subst hv; exact e2
theorem bsl_sound {P : Program} {t e : TypeId} {z r : AV} {len : Nat} {ps : List (Nat × Nat × AV)} {H H' : Heap} {n n' : Nat} {ρ : Rho} {qs : Array (Nat × Value)} {w : World} (hs : Sim ρ H w) (ht : P.underlying t = some (.slice e)) (hz : tyZero P e = some z) (hzf : zfits P e z = true)
    (hsm : Nat.ble (len * tySz P e) 16777216 = true) (h : bsl e (tySz P e) len (rep (cells z) len) ps H n = some (r, H', n')) (hq : PRels ρ ps qs.toList (fun i => some (i * tySz P e, tySz P e))) :
    ∃ v w', (Instr.buildSlice t len qs).run P w = .ok v w' ∧ Out ρ H w r H' v w' := by
  unfold bsl at h
  obtain ⟨cs, H1, n1, h1, h2⟩ := bd_some h
  obtain ⟨h3, rfl, rfl⟩ := ofO_some h1
  obtain ⟨i, H1, n1, h4, h5⟩ := bd_some h2
  obtain ⟨rfl, rfl, rfl⟩ := ret_some h5
  obtain ⟨inf, zv, hi, hzz, rfl, hsz, _⟩ := tyZero_some hz
  unfold zfits at hzf
  rw [beq_eq, decide_eq_true_eq] at hzf
  rw [ble_eq, decide_eq_true_eq] at hsm
  have hzr := zeros_rel (cells_cv ρ zv) len
  rw [hzf] at hzr
  obtain ⟨d, k1, k2⟩ := fill_sound ps qs.toList _ _ _ hq hzr h3
  obtain ⟨_, ρ', g, r1, r2, r3, r4, r5⟩ := newRow_sound (P := P) hs h4 k2 #[]
  rw [Array.append_empty] at r1 r2
  have hdl : d.size = len * tySz P e := by
    have a1 := (k2.length).trans Array.length_toList
    have a2 : cs.length = (rep (cells (cv zv)) len).length := by
      clear h1 h2 h4 k1 k2 r1 r2 a1
      have : ∀ (ps : List (Nat × Nat × AV)) (l m : List AV), fillA l ps = some m → m.length = l.length := by
        intro ps
        induction ps with
        | nil => intro l m h; cases h; rfl
        | cons p ps ih =>
          obtain ⟨o, z, v⟩ := p
          intro l m h
          unfold fillA at h
          cases e1 : Nat.beq (cells v).length z <;> rw [e1] at h
          · cases h
          · cases e2 : Nat.ble (o + z) l.length <;> rw [e2] at h
            · cases h
            · cases e3 : (cells v).all oneCell <;> rw [e3] at h
              · cases h
              · rw [beq_eq, decide_eq_true_eq] at e1
                rw [ble_eq, decide_eq_true_eq] at e2
                rw [ih _ _ h, lay_length _ _ _ (by omega)]
      exact this ps _ _ h3
    rw [rep_length, hzf] at a2
    omega
  refine ⟨.slice (some ⟨g.b, 0, none⟩) len len, _, ?_, ρ', r2, ?_⟩
  · have hno : ¬ len * inf.size > 2 ^ 24 := by rw [hsz]; omega
    have hno' : ¬ (16777216 < len * tySz P e) := by omega
    by_cases h0 : len * tySz P e = 0
    · have hzero : (Array.range (len * tySz P e)).map (fun i => zv.cells[i % zv.cells.size]!) = #[] := by rw [h0]; simp
      rw [hzero] at k1
      simp [Instr.buildSlice, run_underlying ht, run_sizeOf hi, hsz, hno', h0, show Array.range 0 = #[] from rfl, k1, r1]
    · simp [Instr.buildSlice, run_underlying ht, run_sizeOf hi, hsz, hno', h0, zeroValue, typeInfo, hi, hzz, k1, r1]
  · have := VRel.sl (ρ := ρ') i 0 len len (tySz P e) len g r3 (Nat.le_refl _) (Nat.le_refl _) (fun _ => by rw [r4, r5, hdl]; simp)
    rw [r4] at this; exact this
end Go.Dn

/- Soundness, 10: make; len, min, max; strings and bytes. -/
namespace Go.Dn
open M Go.RowKit
set_option linter.unusedSimpArgs false
set_option linter.unusedVariables false

/-- A new row, whatever of it is frozen behind its cells. -/
theorem newRowF_stp {e : TypeId} {cs : List AV} {rw : Rw} {i : Nat} {H H' : Heap} {n n' : Nat} {ρ : Rho} {w : World} (hs : Sim ρ H w) (h : newRowF e cs rw H n = some (i, H', n')) (hm : rw.mine = true) {c : Array Value} (hc : VRels ρ cs c.toList) (spare : Array Value) (fz : Nat × Nat)
    (hf : ∀ k, (decide (fz.1 ≤ k) && decide (k < fz.2)) = true → c.size + spare.size ≤ k) (hz : ∀ f, rw = .own f → fz.1 = fz.2 ∨ fz.1 = 0 ∧ fz.2 ≤ f) :
    ∃ ρ' g, Stp ρ H w ρ' H' (w.alloc (.cells (c ++ spare) e fz)) ∧ ρ' i = some g ∧ g.b = w.heap.size ∧ g.base = 0 ∧ g.size = c.size + spare.size ∧ g.rw = true := by
  unfold newRowF at h
  obtain ⟨h1, h2⟩ := cond_some h
  obtain ⟨h3, rfl, rfl, rfl⟩ := newO_some h2
  have hlen := hc.length
  rw [Array.length_toList (xs := c)] at hlen
  refine ⟨rput ρ i ⟨w.heap.size, 0, c.size + spare.size, true⟩, ⟨w.heap.size, 0, c.size + spare.size, true⟩, ?_, by simp [rput], rfl, rfl, rfl, rfl⟩
  refine Stp.new hs h3 _ _ _ rfl ?_
  have hx := rput_ext hs h3 ⟨w.heap.size, 0, c.size + spare.size, true⟩
  refine ⟨c ++ spare, e, fz, ?_, by simp, by simp; omega, ?_, fun _ => rfl, fun _ => ⟨rfl, rfl, fun k _ hk => hf k hk, hz⟩⟩
  · show (w.heap.push _)[w.heap.size]? = _
    simp
  · intro j a hj
    obtain ⟨v, e1, e2⟩ := hc.get j a hj
    rw [Array.getElem?_toList] at e1
    have hjl := (Array.getElem?_eq_some_iff.1 e1).1
    exact ⟨v, by rw [Nat.zero_add, Array.getElem?_append_left hjl]; exact e1, e2.mono hx⟩
theorem newRow_stp {e : TypeId} {cs : List AV} {i : Nat} {H H' : Heap} {n n' : Nat} {ρ : Rho} {w : World} (hs : Sim ρ H w) (h : newRow e cs H n = some (i, H', n')) {c : Array Value} (hc : VRels ρ cs c.toList) (spare : Array Value) :
    ∃ ρ' g, Stp ρ H w ρ' H' (w.alloc (.cells (c ++ spare) e (0, 0))) ∧ ρ' i = some g ∧ g.b = w.heap.size ∧ g.base = 0 ∧ g.size = c.size + spare.size ∧ g.rw = true :=
  newRowF_stp hs h rfl hc spare (0, 0) (by simp) (fun f _ => .inl rfl)
theorem ms_sound {P : Program} {t e : TypeId} {z len cap r : AV} {H H' : Heap} {n n' : Nat} {ρ : Rho} {l' c' : Value} {w : World} (hs : Sim ρ H w) (ht : P.underlying t = some (.slice e)) (hz : tyZero P e = some z) (hzf : zfits P e z = true)
    (h : ms e (tySz P e) (tyBytes P e) (cells z) len cap H n = some (r, H', n')) (hl : VRel ρ len l') (hc : VRel ρ cap c') : ∃ v w', (Instr.makeSlice t l' c').run P w = .ok v w' ∧ Out ρ H w r H' v w' := by
  unfold ms at h
  split at h
  · rename_i l c
    obtain ⟨h1, h2⟩ := cond_some h
    obtain ⟨h3, h4⟩ := cond_some h2
    obtain ⟨h3', h4'⟩ := cond_some h4
    clear h h2 h4
    rw [ble_eq, decide_eq_true_eq] at h1 h3 h3'
    obtain ⟨i, H1, n1, h5, h6⟩ := bd_some h4'
    obtain ⟨rfl, rfl, rfl⟩ := ret_some h6
    obtain ⟨inf, zv, hi, hzz, rfl, hsz, hby⟩ := tyZero_some hz
    unfold zfits at hzf
    rw [beq_eq, decide_eq_true_eq] at hzf
    have hzr := zeros_rel (cells_cv ρ zv) c
    rw [hzf] at hzr
    cases hl
    cases hc
    have hb4 : (inf.bytes : Int) * (c : Int) ≤ 281474976710656 := by
      have h : ((inf.bytes * c : Nat) : Int) ≤ 281474976710656 := by rw [hby]; omega
      rwa [Int.natCast_mul] at h
    have hr := run_make (P := P) w t e inf zv ht hi hzz .i64 .i64 l c (by omega) (by omega) hb4 (by omega)
    obtain ⟨ρ', g, r2, r3, r4, r5, r6, r7⟩ := newRow_stp hs h5 hzr #[]
    rw [Array.append_empty] at r2
    refine ⟨_, _, hr, ρ', ?_, ?_⟩
    · have : madeCells zv.cells ((c : Int).toNat * inf.size) = (Array.range (c * tySz P e)).map (fun i => zv.cells[i % zv.cells.size]!) := by
        simp [madeCells, hsz]
      show Stp ρ H w ρ' H1 (w.alloc (.cells (madeCells zv.cells ((c : Int).toNat * inf.size)) e))
      rw [this]; exact r2
    · have := VRel.sl (ρ := ρ') i 0 l c (tySz P e) c g r3 h1 (Nat.le_refl _) (fun _ => by rw [r5, r6]; simp)
      rw [r4, r5] at this
      exact this
  · exact (fail_some h).elim
theorem lnS_sound {P : Program} {t ty : TypeId} {x r : AV} {H H' : Heap} {n n' : Nat} {ρ : Rho} {x' : Value} (h : lnS x H n = some (r, H', n')) (ht : P.underlying t = some .string) (hx : VRel ρ x x') (w : World) :
    H' = H ∧ n' = n ∧ ∃ v, (Builtin.len_ #[t] ty #[x']).run P w = .ok v w ∧ VRel ρ r v := by
  unfold lnS at h
  split at h
  · rename_i s
    obtain ⟨rfl, rfl, rfl⟩ := ret_some h
    cases hx with
    | str s =>
    refine ⟨rfl, rfl, .int .i64 s.size, ?_, ?_⟩
    · simp [Builtin.len_, run_underlying ht, goInt]
    · have : s.data.toList.length = s.size := by rw [Array.length_toList]; rfl
      rw [this]; exact .int _ _
  · exact (fail_some h).elim
theorem lnL_sound {P : Program} {t e ty : TypeId} {x r : AV} {H H' : Heap} {n n' : Nat} {ρ : Rho} {x' : Value} (h : lnL x H n = some (r, H', n')) (ht : P.underlying t = some (.slice e)) (hx : VRel ρ x x') (w : World) :
    H' = H ∧ n' = n ∧ ∃ v, (Builtin.len_ #[t] ty #[x']).run P w = .ok v w ∧ VRel ρ r v := by
  unfold lnL at h
  split at h
  · obtain ⟨rfl, rfl, rfl⟩ := ret_some h
    cases hx
    exact ⟨rfl, rfl, .int .i64 0, by simp [Builtin.len_, run_underlying ht, goInt], .int _ _⟩
  · obtain ⟨rfl, rfl, rfl⟩ := ret_some h
    cases hx with
    | sl => exact ⟨rfl, rfl, _, by simp [Builtin.len_, run_underlying ht, goInt], .int _ _⟩
    | slE => exact ⟨rfl, rfl, .int .i64 0, by simp [Builtin.len_, run_underlying ht, goInt], .int _ _⟩
  · exact (fail_some h).elim
theorem lnM_sound {P : Program} {t k e ty : TypeId} {x r : AV} {H H' : Heap} {n n' : Nat} {ρ : Rho} {x' : Value} {w : World} (hs : Sim ρ H w) (h : lnM x H n = some (r, H', n')) (ht : P.underlying t = some (.map k e)) (hx : VRel ρ x x') :
    H' = H ∧ n' = n ∧ ∃ v, (Builtin.len_ #[t] ty #[x']).run P w = .ok v w ∧ VRel ρ r v := by
  unfold lnM at h
  split at h
  · obtain ⟨rfl, rfl, rfl⟩ := ret_some h
    cases hx
    exact ⟨rfl, rfl, .int .i64 0, by simp [Builtin.len_, run_underlying ht, goInt], .int _ _⟩
  · obtain ⟨ob, H1, n1, h1, h2⟩ := bd_some h
    obtain ⟨h3, rfl, rfl⟩ := getO_some h1
    split at h2
    · rename_i es
      obtain ⟨rfl, rfl, rfl⟩ := ret_some h2
      cases hx with
      | map i g hg =>
      obtain ⟨g', a, b⟩ := hs.obj _ _ h3 rfl
      rw [hg] at a; cases a
      obtain ⟨c, k', h4, h5, _⟩ := b
      have hl : es.length = c.size := h5.trans Array.length_toList
      refine ⟨rfl, rfl, .int .i64 c.size, ?_, by rw [hl]; exact .int _ _⟩
      simp [Builtin.len_, run_underlying ht, goInt, getObj, h4, Sem.run, Result.andThen]
    · exact (fail_some h2).elim
  · exact (fail_some h).elim
theorem mx2_sound {P : Program} {ts : Array TypeId} {ty : TypeId} {x y r : AV} {H H' : Heap} {n n' : Nat} {ρ : Rho} {x' y' : Value} (h : mx2 x y H n = some (r, H', n')) (hx : VRel ρ x x') (hy : VRel ρ y y') (w : World) :
    H' = H ∧ n' = n ∧ ∃ v, (Builtin.max_ ts ty #[x', y']).run P w = .ok v w ∧ VRel ρ r v := by
  unfold mx2 at h
  split at h
  · rename_i j a k b
    obtain ⟨h1, h2⟩ := cond_some h
    clear h
    have := eqK_eq h1
    subst this
    obtain ⟨rfl, rfl, rfl⟩ := ret_some h2
    cases hx
    cases hy
    refine ⟨rfl, rfl, .int j (if b > a then b else a), by simp [Builtin.max_, Builtin.max2], ?_⟩
    have : (bif ltI a b then b else a) = if b > a then b else a := by
      rw [ltI_eq]
      by_cases c : a < b <;> simp [c]
    rw [this]; exact .int _ _
  · exact (fail_some h).elim
theorem mn2_sound {P : Program} {ts : Array TypeId} {ty : TypeId} {x y r : AV} {H H' : Heap} {n n' : Nat} {ρ : Rho} {x' y' : Value} (h : mn2 x y H n = some (r, H', n')) (hx : VRel ρ x x') (hy : VRel ρ y y') (w : World) :
    H' = H ∧ n' = n ∧ ∃ v, (Builtin.min_ ts ty #[x', y']).run P w = .ok v w ∧ VRel ρ r v := by
  unfold mn2 at h
  split at h
  · rename_i j a k b
    obtain ⟨h1, h2⟩ := cond_some h
    clear h
    have := eqK_eq h1
    subst this
    obtain ⟨rfl, rfl, rfl⟩ := ret_some h2
    cases hx
    cases hy
    refine ⟨rfl, rfl, .int j (if b < a then b else a), by simp [Builtin.min_, Builtin.min2], ?_⟩
    have : (bif ltI b a then b else a) = if b < a then b else a := by
      rw [ltI_eq]
      by_cases c : b < a <;> simp [c]
    rw [this]; exact .int _ _
  · exact (fail_some h).elim
theorem bytesA_rel (ρ : Rho) (s : ByteArray) : VRels ρ (bytesA s.data.toList) (s.data.map (fun b => Value.int .u8 b.toNat)).toList := by
  unfold bytesA
  rw [Array.toList_map]
  generalize s.data.toList = l
  induction l with
  | nil => exact .nil
  | cons b l ih => exact .cons _ _ _ _ (.int _ _) ih
theorem s2b_sound {P : Program} {s d e : TypeId} {x r : AV} {H H' : Heap} {n n' : Nat} {ρ : Rho} {x' : Value} {w : World} (hs : Sim ρ H w) (h : s2b e x H n = some (r, H', n')) (h1 : P.underlying s = some .string) (h2 : P.underlying d = some (.slice e)) (h3 : P.underlying e = some (.int .u8)) (hx : VRel ρ x x') :
    ∃ v w', (convert s d x').run P w = .ok v w' ∧ Out ρ H w r H' v w' := by
  unfold s2b at h
  split at h
  · obtain ⟨i, H1, n1, h4, h5⟩ := bd_some h
    obtain ⟨rfl, rfl, rfl⟩ := ret_some h5
    cases hx with
    | str b =>
    have hr := run_bytes_of_string (P := P) w s d e b h1 h2 h3
    have hd := Stp.drew hs (w.drawn + 1)
    obtain ⟨ρ', g, r2, r3, r4, r5, r6, r7⟩ := newRowF_stp hd.sim h4 rfl (bytesA_rel ρ b) (Array.replicate (grownCap w b.size 0 e - b.size) (.int .u8 0)) ((bytesRow b (grownCap w b.size 0 e)).size, (bytesRow b (grownCap w b.size 0 e)).size + 1) (by
      intro k hk
      simp [bytesRow] at hk ⊢
      omega) (fun f hf => by cases hf)
    refine ⟨_, _, hr, ρ', hd.trans r2, ?_⟩
    have hge := grownCap_ge w b.size 0 e
    have hbs : b.data.size = b.size := rfl
    have := VRel.sl (ρ := ρ') i 0 b.size b.size 1 (grownCap w b.size 0 e) g r3 (Nat.le_refl _) hge (fun _ => by rw [r5, r6]; simp; omega)
    have e1 : b.data.toList.length = b.size := by rw [Array.length_toList]; rfl
    rw [r4, r5] at this
    rw [e1]; exact this
  · exact (fail_some h).elim
theorem bytesOf_some {ρ : Rho} : ∀ (cs : List AV) (l : List UInt8) (vs : List Value), bytesOf? cs = some l → VRels ρ cs vs → vs = l.map fun b => Value.int .u8 b.toNat := by
  intro cs
  induction cs with
  | nil => intro l vs h hv; cases h; cases hv; rfl
  | cons a cs ih =>
    intro l vs h hv
    cases hv with
    | cons _ v _ c h1 h2 =>
    unfold bytesOf? at h
    split at h
    · rename_i b l' e1 e2
      cases h
      rw [ih l' c e2 h2]
      unfold byteOf? at e1
      split at e1
      · rename_i m
        rw [blt_eq] at e1
        by_cases hm : m < 256
        · simp [hm] at e1; subst e1
          cases h1
          simp [UInt8.toNat_ofNat']
          omega
        · simp [hm] at e1
      · cases e1
    · cases h
theorem b2s_sound {P : Program} {s d e : TypeId} {x r : AV} {H H' : Heap} {n n' : Nat} {ρ : Rho} {x' : Value} {w : World} (hs : Sim ρ H w) (h : b2s x H n = some (r, H', n')) (h1 : P.underlying s = some (.slice e)) (h2 : P.underlying e = some (.int .u8)) (h3 : P.underlying d = some .string) (hx : VRel ρ x x') :
    H' = H ∧ n' = n ∧ ∃ v, (convert s d x').run P w = .ok v w ∧ VRel ρ r v := by
  have h0 : ∀ (a : Addr) (c : Nat), (convert s d (.slice (some a) 0 c)).run P w = .ok (.string ⟨#[]⟩) w := fun a c =>
    run_convert_bytes_back (P := P) w s d e a c [] h1 h2 h3 (fun j hj => absurd hj (by simp))
  have hE : VRel ρ (.str []) (.string ⟨#[]⟩) := VRel.str ⟨#[]⟩
  unfold b2s at h
  split at h
  · obtain ⟨rfl, rfl, rfl⟩ := ret_some h
    cases hx
    exact ⟨rfl, rfl, .string .empty, by simp [convert, run_underlying h1, run_underlying h2, run_underlying h3, Conv.bytesToString], VRel.str .empty⟩
  · rename_i i o len kc z
    cases e0 : Nat.beq len 0 with
    | true =>
      rw [e0] at h
      obtain ⟨rfl, rfl, rfl⟩ := ret_some h
      rw [beq_eq, decide_eq_true_eq] at e0
      subst e0
      cases hx with
      | sl => exact ⟨rfl, rfl, _, h0 _ _, hE⟩
      | slE => exact ⟨rfl, rfl, _, h0 _ _, hE⟩
    | false =>
      rw [e0] at h
      obtain ⟨cs, H1, n1, h4, h5⟩ := bd_some h
      obtain ⟨l, H2, n2, h6, h7⟩ := bd_some h5
      obtain ⟨rfl, rfl, rfl⟩ := ret_some h7
      obtain ⟨h8, rfl, rfl⟩ := ofO_some h6
      obtain ⟨rfl, rfl, row, el, rw', k1, k2, rfl⟩ := rd_some h4
      cases hx with
      | slE => simp at e0
      | sl i o len kc z cap g hg _ _ _ =>
      obtain ⟨vs, e1, e2, e3⟩ := hs.cells k1 hg k2
      have hv := bytesOf_some _ l vs h8 e3
      have hll : l.length = len := by rw [hv] at e1; simpa using e1
      refine ⟨rfl, rfl, .string ⟨l.toArray⟩, ?_, VRel.str ⟨l.toArray⟩⟩
      have := run_convert_bytes_back (P := P) w s d e ⟨g.b, g.base + o, none⟩ cap l h1 h2 h3 (fun j hj => e2 j _ (by rw [hv]; simp [List.getElem?_eq_getElem hj]))
      rw [hll] at this; exact this
  · exact (fail_some h).elim
end Go.Dn

/- Soundness, 11: append. -/
namespace Go.Dn
open M Go.RowKit
set_option linter.unusedSimpArgs false
set_option linter.unusedVariables false

theorem run_append_room' {P : Program} (w : World) (t tx ty e : TypeId) (i : TypeInfo) (ht : P.underlying t = some (.slice e)) (hi : P.info? e = some i) (b off sLen sCap : Nat) (x : Value) (n : Nat) (news : List Value) (hs : Src P i.size tx x n news w)
    (hroom : sLen + n ≤ sCap) (w' : World) (hst : (storeCells ⟨b, off + sLen * i.size, none⟩ news).run P w = .ok () w') :
    (Builtin.append_ #[t, tx] ty #[.slice (some ⟨b, off, none⟩) sLen sCap, x]).run P w = .ok (.slice (some ⟨b, off, none⟩) (sLen + n) sCap) w' := by
  rcases hs.kind with ⟨e', hk⟩ | hk <;> simp [Builtin.append_, run_underlying ht, run_underlying hk, sizeOf, typeInfo, hi, hs.len, hroom, hs.cells, Addr.add_lit, hst]
theorem run_append_none {P : Program} (w : World) (t tx ty e : TypeId) (i : TypeInfo) (ht : P.underlying t = some (.slice e)) (hi : P.info? e = some i) (base : Option Addr) (sLen sCap : Nat) (x : Value) (hs : Src P i.size tx x 0 [] w) (hr : sLen ≤ sCap) :
    (Builtin.append_ #[t, tx] ty #[.slice base sLen sCap, x]).run P w = .ok (.slice base sLen sCap) w := by
  have hc := hs.cells
  cases base <;> (rcases hs.kind with ⟨e', hk⟩ | hk <;> simp [Builtin.append_, run_underlying ht, run_underlying hk, sizeOf, typeInfo, hi, hs.len, hr, hc, storeCells])
theorem VRels.one {ρ : Rho} {cs : List AV} {vs : List Value} (h : VRels ρ cs vs) (ha : cs.all oneCell = true) : ∀ v ∈ vs, v.oneCell' = true := by
  intro v hm
  obtain ⟨j, hj⟩ := List.getElem?_of_mem hm
  have hjl : j < cs.length := by rw [h.length]; exact (List.getElem?_eq_some_iff.1 hj).1
  obtain ⟨v', e1, e2⟩ := h.get j _ (List.getElem?_eq_getElem hjl)
  rw [hj] at e1; cases e1
  exact oneCell_of e2 (List.all_eq_true.1 ha _ (List.getElem_mem hjl))
theorem bytesA_one (s : List UInt8) : (bytesA s).all oneCell = true := by
  simp [bytesA, oneCell]
/-- What is appended. -/
theorem addedOf_sound {P : Program} {tx : TypeId} {z : Nat} {x : AV} {a : List AV × Nat} {H H' : Heap} {n n' : Nat} {ρ : Rho} {x' : Value} {w : World} (hs : Sim ρ H w) (h : addedOf z x H n = some (a, H', n')) (hk : (∃ e', P.underlying tx = some (.slice e')) ∨ P.underlying tx = some .string) (hx : VRel ρ x x') :
    H' = H ∧ n' = n ∧ ∃ news, a.1.length = a.2 * z ∧ VRels ρ a.1 news ∧ (a.1.all oneCell = true → Src P z tx x' a.2 news w) := by
  have hnil : ∀ (a : Addr) (c : Nat), Src P z tx (.slice (some a) 0 c) 0 [] w := fun a c =>
    ⟨hk, fun _ => rfl, run_firstCells_some w z 0 a 0 c [] (by simp) (fun j u hj => by simp at hj), run_firstCells_some w.drew z 0 a 0 c [] (by simp) (fun j u hj => by simp at hj), by simp, fun _ h => by cases h⟩
  unfold addedOf at h
  split at h
  · obtain ⟨rfl, rfl, rfl⟩ := ret_some h
    cases hx
    exact ⟨rfl, rfl, [], by simp, .nil, fun _ => ⟨hk, fun _ => rfl, run_firstCells_none w z 0 0 0, run_firstCells_none w.drew z 0 0 0, by simp, fun _ h => by cases h⟩⟩
  · rename_i i o len kc z'
    cases e0 : Nat.beq len 0 with
    | true =>
      rw [e0] at h
      obtain ⟨rfl, rfl, rfl⟩ := ret_some h
      rw [beq_eq, decide_eq_true_eq] at e0
      subst e0
      refine ⟨rfl, rfl, [], by simp, .nil, fun _ => ?_⟩
      cases hx with
      | sl => exact hnil _ _
      | slE => exact hnil _ _
    | false =>
      rw [e0] at h
      obtain ⟨cs, H1, n1, h4, h5⟩ := bd_some h
      obtain ⟨rfl, rfl, rfl⟩ := ret_some h5
      obtain ⟨rfl, rfl, row, el, rw', k1, k2, rfl⟩ := rd_some h4
      cases hx with
      | slE => simp at e0
      | sl i o len kc z2 cap g hg _ _ _ =>
      obtain ⟨vs, e1, e2, e3⟩ := hs.cells k1 hg k2
      refine ⟨rfl, rfl, vs, by simp; omega, e3, fun hone => ⟨hk, fun _ => rfl, run_firstCells_some w z len _ len cap vs e1 e2, run_firstCells_some w.drew z len _ len cap vs e1 (by simpa using e2), e1, e3.one hone⟩⟩
  · rename_i s
    obtain ⟨h1, h2⟩ := cond_some h
    obtain ⟨rfl, rfl, rfl⟩ := ret_some h2
    rw [beq_eq, decide_eq_true_eq] at h1
    subst h1
    cases hx with
    | str b =>
    have e1 : b.data.toList.length = b.size := by rw [Array.length_toList]; rfl
    refine ⟨rfl, rfl, byteCells b, by simp [bytesA], by have := bytesA_rel ρ b; rw [Array.toList_map] at this; exact this, fun _ => ?_⟩
    show Src P 1 tx (.string b) b.data.toList.length (byteCells b) w
    rw [e1]
    exact ⟨hk, fun _ => rfl, firstCells_string b w, firstCells_string b w.drew, by rw [byteCells_length, Nat.mul_one], fun u hu => by
      obtain ⟨_, _, rfl⟩ := List.mem_map.1 hu
      rfl⟩
  · exact (fail_some h).elim
/-- An own object's block gets a new owner. -/
theorem Stp.move {ρ : Rho} {H : Heap} {w : World} (h : Sim ρ H w) {i n : Nat} {o o' : AObj} {g g' : G} (hi : H.get i = some o) (ho : o.own = true) (hg : ρ i = some g) (hn : H.get n = none) (hb : g'.b = g.b)
    (hn' : ORel (rput ρ n g') w o' g') : Stp ρ H w (rput ρ n g') ((H.set i .gone).set n o') w where
  ext := rput_ext h hn g'
  sim := by
    have hx := rput_ext h hn g'
    have hin : i ≠ n := fun e => by subst e; rw [hi] at hn; cases hn
    refine ⟨?_, ?_, ?_⟩
    · intro j oj hj hl
      rw [Tr.get_set, Tr.get_set] at hj
      by_cases e : j = n
      · subst e
        rw [if_pos rfl] at hj
        cases hj
        exact ⟨g', by simp [rput], hn'⟩
      · rw [if_neg e] at hj
        by_cases e2 : j = i
        · rw [if_pos e2] at hj; cases hj; simp [AObj.live] at hl
        · rw [if_neg e2] at hj
          obtain ⟨gj, a, b⟩ := h.obj j oj hj hl
          exact ⟨gj, hx j gj a, b.mono hx⟩
    · intro j k oj ok gj gk hj hk hne hoj hok hrj hrk
      rw [Tr.get_set, Tr.get_set] at hj hk
      have back : ∀ m om gm, m ≠ n → (if m = i then some AObj.gone else H.get m) = some om → om.live = true → rput ρ n g' m = some gm → m ≠ i ∧ H.get m = some om ∧ ρ m = some gm := by
        intro m om gm hmn hm hl hr
        by_cases e2 : m = i
        · rw [if_pos e2] at hm; cases hm; simp [AObj.live] at hl
        · rw [if_neg e2] at hm
          unfold rput at hr; rw [if_neg hmn] at hr
          exact ⟨e2, hm, hr⟩
      by_cases e : j = n
      · have ek : k ≠ n := fun x => hne (e.trans x.symm)
        rw [if_neg ek] at hk
        obtain ⟨k1, k2, k3⟩ := back k ok gk ek hk hok hrk
        have : gj = g' := by unfold rput at hrj; rw [if_pos e] at hrj; exact (Option.some.inj hrj).symm
        subst this
        rw [hb]
        exact h.sep i k o ok g gk hi k2 (fun x => k1 x.symm) ho hok hg k3
      · rw [if_neg e] at hj
        obtain ⟨j1, j2, j3⟩ := back j oj gj e hj (AObj.live_of_own hoj) hrj
        by_cases ek : k = n
        · have : gk = g' := by unfold rput at hrk; rw [if_pos ek] at hrk; exact (Option.some.inj hrk).symm
          subst this
          rw [hb]
          exact h.sep j i oj o gj g j2 hi j1 hoj (AObj.live_of_own ho) j3 hg
        · rw [if_neg ek] at hk
          obtain ⟨k1, k2, k3⟩ := back k ok gk ek hk hok hrk
          exact h.sep j k oj ok gj gk j2 k2 hne hoj hok j3 k3
    · intro j gj hj
      rw [Tr.get_set, Tr.get_set]
      by_cases e : j = n
      · exact ⟨o', by rw [if_pos e]⟩
      · rw [if_neg e]
        by_cases e2 : j = i
        · exact ⟨.gone, by rw [if_pos e2]⟩
        · rw [if_neg e2]
          unfold rput at hj; rw [if_neg e] at hj
          exact h.dom j gj hj
  os := rfl
  tape := rfl
  output := rfl
  size := Nat.le_refl _
  keep := fun _ _ _ => rfl
  owns := fun j oj gj a b c d => by
    rw [Tr.get_set, Tr.get_set] at a
    by_cases e : j = n
    · have : gj = g' := by unfold rput at c; rw [if_pos e] at c; exact (Option.some.inj c).symm
      subst this
      exact ⟨i, o, g, hi, ho, hg, hb.symm⟩
    · rw [if_neg e] at a
      unfold rput at c; rw [if_neg e] at c
      by_cases e2 : j = i
      · rw [if_pos e2] at a; cases a; simp [AObj.own] at b
      · rw [if_neg e2] at a
        exact ⟨j, oj, gj, a, b, c, rfl⟩
theorem Stp.gone {ρ : Rho} {H : Heap} {w : World} (h : Sim ρ H w) {i : Nat} {o : AObj} {g : G} (hi : H.get i = some o) (ho : o.own = true) (hg : ρ i = some g) : Stp ρ H w ρ (H.set i .gone) w :=
  Stp.put h hi ho hg rfl rfl rfl rfl (fun _ _ => rfl) trivial
end Go.Dn

/- Soundness, 12: append, the whole. -/
namespace Go.Dn
open M Go.RowKit
set_option linter.unusedSimpArgs false
set_option linter.unusedVariables false

theorem Stp.congr {ρ ρ' : Rho} {H H' H2 : Heap} {w w' : World} (h : Stp ρ H w ρ' H' w') (e : ∀ j, H2.get j = H'.get j) : Stp ρ H w ρ' H2 w' where
  ext := h.ext
  sim := ⟨fun i o a b => h.sim.obj i o (by rw [← e]; exact a) b, fun i j oi oj gi gj a b => h.sim.sep i j oi oj gi gj (by rw [← e]; exact a) (by rw [← e]; exact b), fun i g a => by rw [e]; exact h.sim.dom i g a⟩
  os := h.os
  tape := h.tape
  output := h.output
  size := h.size
  keep := h.keep
  owns := fun i o g a => h.owns i o g (by rw [← e]; exact a)
theorem zeroCells_size (z : Array Value) (n : Nat) : (Builtin.zeroCells z n).size = n * z.size := by simp [Builtin.zeroCells]
/-- An append that gets a new row. -/
theorem grow_sound {P : Program} {t tx ty e : TypeId} {zv : AV} {H H' : Heap} {n j n' : Nat} {ρ : Rho} {w : World} (hs : Sim ρ H w) (ht : P.underlying t = some (.slice e)) (hz : tyZero P e = some zv) (hzf : zfits P e zv = true)
    {olds' news' : List AV} {olds news : List Value} {m k : Nat} (base : Option Addr) (cap : Nat) {x : Value} (hsrc : Src P (tySz P e) tx x m news w) (ho : VRels ρ olds' olds) (hn : VRels ρ news' news) (hol : olds.length = k * tySz P e)
    (hold : (Builtin.firstCells (tySz P e) k (.slice base k cap)).run P w.drew = .ok olds.toArray w.drew) (hg : cap < k + m) (hb : (k + m) * tyBytes P e ≤ 140737488355328) (hb2 : k + m ≤ 140737488355328)
    {rw : Rw} (hmine : rw.mine = true) (h : newRowF e (olds' ++ news') rw H n = some (j, H', n')) : ∃ v w', (Builtin.append_ #[t, tx] ty #[.slice base k cap, x]).run P w = .ok v w' ∧ Out ρ H w (.sl j 0 (k + m) (k + m) (tySz P e)) H' v w' := by
  obtain ⟨inf, z, hi, hzz, rfl, hsz, hby⟩ := tyZero_some hz
  have hzc : z.cells.size = tySz P e := by
    unfold zfits at hzf
    rw [beq_eq, decide_eq_true_eq] at hzf
    have := (cells_cv ρ z).length
    rw [Array.length_toList (xs := z.cells)] at this
    omega
  have hr := run_append_grow_src (P := P) w t tx ty e inf z ht hi hzz base k cap olds (by rw [hsz]; exact hold) x m news (by rw [hsz]; exact hsrc) hg (by omega) (by rw [hby]; exact growslice_fits hg hb)
  have hd := Stp.drew hs (w.drawn + 1)
  have hc : VRels ρ (olds' ++ news') (olds ++ news).toArray.toList := by simpa using ho.append hn
  obtain ⟨ρ', g, r2, r3, r4, r5, r6, r7⟩ := newRowF_stp hd.sim h hmine hc (Builtin.zeroCells z.cells (grownCap w (k + m) cap e - (k + m))) (0, 0) (by simp) (fun f _ => .inl rfl)
  refine ⟨_, _, hr, ρ', hd.trans r2, ?_⟩
  have hge := grownCap_ge w (k + m) cap e
  have hnl := hsrc.newsLen
  have := VRel.sl (ρ := ρ') j 0 (k + m) (k + m) (tySz P e) (grownCap w (k + m) cap e) g r3 (Nat.le_refl _) hge (fun _ => by
    rw [r5, r6, zeroCells_size, hzc]
    have h1 : (k + m) * tySz P e ≤ grownCap w (k + m) cap e * tySz P e := Nat.mul_le_mul_right _ hge
    rw [Nat.sub_mul]
    simp [hol, hnl]
    rw [Nat.add_mul] at *
    omega)
  rw [r4, r5] at this
  exact this
theorem app_sound {P : Program} {t tx ty e : TypeId} {zv s x r : AV} {H H' : Heap} {n n' : Nat} {ρ : Rho} {s' x' : Value} {w : World} (hs : Sim ρ H w) (ht : P.underlying t = some (.slice e)) (hk : (∃ e', P.underlying tx = some (.slice e')) ∨ P.underlying tx = some .string)
    (hz : tyZero P e = some zv) (hzf : zfits P e zv = true) (h : app e (tySz P e) (tyBytes P e) s x H n = some (r, H', n')) (hx : VRel ρ s s') (hy : VRel ρ x x') :
    ∃ v w', (Builtin.append_ #[t, tx] ty #[s', x']).run P w = .ok v w' ∧ Out ρ H w r H' v w' := by
  obtain ⟨inf, z, hi, hzz, hzv, hsz, hby⟩ := tyZero_some hz
  unfold app at h
  obtain ⟨a, H1, n1, h1, h2⟩ := bd_some h
  clear h
  obtain ⟨rfl, rfl, news, k1, k2, k3⟩ := addedOf_sound hs h1 hk hy
  have hnone : a.2 = 0 → Src P inf.size tx x' 0 [] w := fun e0 => by
    rw [e0, Nat.zero_mul] at k1
    have : a.1 = [] := List.eq_nil_of_length_eq_zero k1
    have k4 := k3 (by rw [this]; rfl)
    rw [this] at k2
    cases k2
    rw [e0, ← hsz] at k4; exact k4
  split at h2
  · cases hx
    cases e0 : Nat.beq a.2 0 with
    | true =>
      rw [e0] at h2
      obtain ⟨rfl, rfl, rfl⟩ := ret_some h2
      rw [beq_eq, decide_eq_true_eq] at e0
      exact ⟨_, _, run_append_none w t tx ty e inf ht hi none 0 0 x' (hnone e0) (Nat.le_refl _), Out.same hs .slN⟩
    | false =>
      rw [e0] at h2
      obtain ⟨h3, h4⟩ := cond_some h2
      obtain ⟨j, H1, n1, h5, h6⟩ := bd_some h4
      obtain ⟨rfl, rfl, rfl⟩ := ret_some h6
      rw [Bool.and_eq_true, ble_eq, ble_eq, decide_eq_true_eq, decide_eq_true_eq] at h3
      have e0' := Nat.ne_of_beq_eq_false e0
      have := grow_sound (P := P) (t := t) (tx := tx) (ty := ty) (m := a.2) (k := 0) hs ht hz hzf none 0 (k3 (newRow_all h5)) .nil k2 (by simp) (by simp [run_firstCells_none]) (by omega) (by rw [Nat.zero_add]; exact h3.1) (by omega) (olds' := []) rfl h5
      simpa using this
  · rename_i i o len kc z'
    cases e0 : Nat.beq a.2 0 with
    | true =>
      rw [e0] at h2
      obtain ⟨rfl, rfl, rfl⟩ := ret_some h2
      rw [beq_eq, decide_eq_true_eq] at e0
      have hx' := hx
      cases hx with
      | sl i o len kc z' cap g hg l1 l2 l3 => exact ⟨_, _, run_append_none w t tx ty e inf ht hi _ len cap x' (hnone e0) (Nat.le_trans l1 l2), Out.same hs hx'⟩
      | slE i o z' ad g hg => exact ⟨_, _, run_append_none w t tx ty e inf ht hi _ 0 0 x' (hnone e0) (Nat.le_refl _), Out.same hs hx'⟩
    | false =>
      have e0' := Nat.ne_of_beq_eq_false e0
      rw [e0] at h2
      obtain ⟨hzz', h3⟩ := cond_some h2
      rw [beq_eq, decide_eq_true_eq] at hzz'
      obtain ⟨ob, H1, n1, h4, h5⟩ := bd_some h3
      clear h2 h3
      obtain ⟨h6, rfl, rfl⟩ := getO_some h4
      split at h5
      · rename_i cs e' rw'
        obtain ⟨he, h7⟩ := cond_some h5
        clear h5
        rw [Bool.and_eq_true, beq_eq, decide_eq_true_eq] at he
        obtain ⟨he, hmine⟩ := he
        subst he
        cases hroom : Nat.ble (len + a.2) kc with
        | true =>
          rw [hroom] at h7
          rw [ble_eq, decide_eq_true_eq] at hroom
          obtain ⟨u, H2, n2, h8, h9⟩ := bd_some h7
          obtain ⟨rfl, rfl, rfl⟩ := ret_some h9
          cases hx with
          | slE => omega
          | sl i o len kc z' cap g hg l1 l2 l3 =>
          have hone : a.1.all oneCell = true := by
            unfold wrO at h8
            obtain ⟨ob, H3, n3, q1, q2⟩ := bd_some h8
            split at q2
            · obtain ⟨_, q2⟩ := cond_some q2
              obtain ⟨_, q3⟩ := cond_some q2
              exact (cond_some q3).1
            · exact (fail_some q2).elim
          obtain ⟨rfl, w', r1, r2⟩ := wrO_sound (P := P) hs h8 hg k2
          have hr := run_append_room' (P := P) w t tx ty e inf ht hi g.b (g.base + o) len cap x' a.2 news (by rw [hsz]; exact k3 hone) (by omega) w' (by rw [hsz, Nat.add_assoc]; exact r1)
          refine ⟨_, _, hr, ρ, r2, ?_⟩
          have := VRel.sl (ρ := ρ) i o (len + a.2) kc (tySz P e) cap g hg hroom l2 (by rw [hzz']; exact l3)
          exact this
        | false =>
          rw [hroom] at h7
          have hroom' : ¬ (len + a.2 ≤ kc) := by
            intro q; rw [ble_eq] at hroom; simp [q] at hroom
          obtain ⟨h8, h9⟩ := cond_some h7
          obtain ⟨h10, h11⟩ := cond_some h9
          clear h7 h9
          rw [Bool.and_eq_true, Bool.and_eq_true, Bool.and_eq_true, beq_eq, ble_eq, ble_eq, decide_eq_true_eq, decide_eq_true_eq, decide_eq_true_eq] at h8
          obtain ⟨⟨ho0, hok⟩, h8⟩ := h8
          rw [ble_eq, decide_eq_true_eq] at h10
          obtain ⟨u, H2, n2, h12, h13⟩ := bd_some h11
          obtain ⟨rfl, rfl⟩ := setO_some h12
          obtain ⟨j, H3, n3, h14, h15⟩ := bd_some h13
          obtain ⟨rfl, rfl, rfl⟩ := ret_some h15
          have hall := newRowF_all h14
          have hone : a.1.all oneCell = true := by rw [List.all_append, Bool.and_eq_true] at hall; exact hall.2
          cases hx with
          | slE i o z' ad g hg =>
            have hgo := Stp.gone hs h6 hmine hg
            obtain ⟨v, w', q1, ρ', q2, q3⟩ := grow_sound (P := P) (t := t) (tx := tx) (ty := ty) (m := a.2) (k := 0) hgo.sim ht hz hzf (some ad) 0 (k3 hone) (olds' := (cs.drop o).take (0 * tySz P e)) (by rw [Nat.zero_mul, List.take_zero]; exact .nil) k2 (by simp) (run_firstCells_some w.drew _ 0 ad 0 0 [] (by simp) (fun j v hj => by simp at hj)) (by omega) h8.1 h8.2 hmine h14
            exact ⟨v, w', q1, ρ', hgo.trans q2, q3⟩
          | sl i o len kc z' cap g hg l1 l2 l3 =>
          obtain ⟨c, e'', fz, c1, c2, c3, c4, c5, c6⟩ := hs.row h6 hg
          obtain ⟨rfl, cb, c7, c8⟩ := c6 hmine
          have l4 := l3 (c5 hmine)
          rw [← hzz'] at l4
          obtain ⟨vs, v1, v2, v3⟩ := hs.cells h6 hg h10
          by_cases hcap : len + a.2 ≤ cap
          · have hcz : (len + a.2) * tySz P e'' ≤ cap * tySz P e'' := Nat.mul_le_mul_right _ hcap
            have hexp : (len + a.2) * tySz P e'' = len * tySz P e'' + a.2 * tySz P e'' := Nat.add_mul _ _ _
            have hnl : news.length = a.2 * tySz P e'' := (k3 hone).newsLen
            obtain ⟨w', c', r1, r2, r3, r4, r5, r6, r7, r8, r9⟩ := run_stores (P := P) g.b (g.base + o + len * tySz P e'') news 0 w c e'' fz c1 (by omega) ((k3 hone).one) (fun j a b => by
              cases hf : (decide (fz.1 ≤ j) && decide (j < fz.2)) with
              | false => rfl
              | true => have := c7 j (Rw.ok_le hok (by omega)) hf; omega)
            have hr := run_append_room' (P := P) w t tx ty e'' inf ht hi g.b (g.base + o) len cap x' a.2 news (by rw [hsz]; exact k3 hone) hcap w' (by rw [hsz]; exact r1)
            have hp : Stp ρ H1 w ρ (H1.set i (.row [] e'' rw')) w' := Stp.put hs h6 hmine hg r7 r4 r5 r6 r8 ⟨c', e'', fz, r2, by omega, by simp; omega, fun k a hk => by simp at hk, c5, fun _ => ⟨rfl, cb, c7, c8⟩⟩
            unfold newRowF at h14
            obtain ⟨_, h16⟩ := cond_some h14
            obtain ⟨h17, rfl, rfl, rfl⟩ := newO_some h16
            have hij : j ≠ i := fun q => by subst q; rw [Tr.get_set, if_pos rfl] at h17; cases h17
            rw [Tr.get_set, if_neg hij] at h17
            have hm := Stp.move (g' := ⟨g.b, g.base + o, g.size, true⟩) (o' := .row ((cs.drop o).take (len * tySz P e'') ++ a.1) e'' rw') hp.sim (i := i) (n := j) (o := .row [] e'' rw') (g := g) (by rw [Tr.get_set, if_pos rfl]) hmine hg (by rw [Tr.get_set, if_neg hij]; exact h17) rfl (by
              have hxx := rput_ext hp.sim (n := j) (by rw [Tr.get_set, if_neg hij]; exact h17) ⟨g.b, g.base + o, g.size, true⟩
              refine ⟨c', e'', fz, r2, by show c'.size = g.size; omega, ?_, ?_, fun _ => rfl, fun _ => ⟨rfl, by show g.base + o = 0; omega, c7, c8⟩⟩
              · have := v3.length
                simp only [List.length_append, k1, this, v1]
                show g.base + o + _ ≤ _
                omega
              · intro q b hq
                have hlen : ((cs.drop o).take (len * tySz P e'')).length = len * tySz P e'' := v3.length.trans v1
                rw [List.getElem?_append, hlen] at hq
                show ∃ v, c'[g.base + o + q]? = some v ∧ _
                rw [r9]
                by_cases hq2 : q < len * tySz P e''
                · rw [if_pos hq2, List.getElem?_take, if_pos hq2, List.getElem?_drop] at hq
                  rw [if_neg (by omega)]
                  obtain ⟨v, x1, x2⟩ := c4 _ _ hq
                  exact ⟨v, by rw [Nat.add_assoc]; exact x1, x2.mono hxx⟩
                · rw [if_neg hq2] at hq
                  obtain ⟨v, x1, x2⟩ := k2.get _ _ hq
                  have := (List.getElem?_eq_some_iff.1 x1).1
                  rw [if_pos (by omega)]
                  exact ⟨v, by rw [show g.base + o + q - (g.base + o + len * tySz P e'' + 0) = q - len * tySz P e'' from by omega]; exact x1, x2.mono hxx⟩)
            refine ⟨_, _, hr, rput ρ j ⟨g.b, g.base + o, g.size, true⟩, (hp.trans hm).congr ?_, ?_⟩
            · intro q
              simp only [Tr.get_set]
              by_cases q1 : q = j
              · rw [if_pos q1, if_pos q1]
              · rw [if_neg q1, if_neg q1]
                by_cases q2 : q = i
                · rw [if_pos q2, if_pos q2]
                · rw [if_neg q2, if_neg q2, if_neg q2]
            · exact VRel.sl j 0 (len + a.2) (len + a.2) (tySz P e'') cap ⟨g.b, g.base + o, g.size, true⟩ (by simp [rput]) (Nat.le_refl _) hcap (fun _ => by show g.base + o + 0 + _ ≤ g.size; omega)
          · have hgo := Stp.gone hs h6 hmine hg
            obtain ⟨v, w', q1, ρ', q2, q3⟩ := grow_sound (P := P) (t := t) (tx := tx) (ty := ty) (m := a.2) (k := len) hgo.sim ht hz hzf (some ⟨g.b, g.base + o, none⟩) cap (k3 hone) v3 k2 v1 (run_firstCells_some w.drew _ len _ len cap vs v1 (by simpa using v2)) (by omega) h8.1 h8.2 hmine h14
            exact ⟨v, w', q1, ρ', hgo.trans q2, q3⟩
      · exact (fail_some h5).elim
  · exact (fail_some h2).elim
end Go.Dn

/- Soundness, 13: iterators over strings. -/
namespace Go.Dn
open M Go.RowKit
set_option linter.unusedSimpArgs false
set_option linter.unusedVariables false

theorem bool_ite {α : Type} (b : Bool) (x y : α) : (if b = true then x else y) = bif b then x else y := by cases b <;> rfl
theorem dec_ite {α : Type} (p : Prop) [Decidable p] (x y : α) : (if p then x else y) = bif decide p then x else y := by by_cases h : p <;> simp [h]
theorem utf8_eq (s : ByteArray) (pos : Nat) : Utf8.decode s pos = utf8 (s.data.toList.drop pos) := by
  have hat : ∀ k, (s.get! (pos + k)).toNat = (((s.data.toList.drop pos)[k]?).map UInt8.toNat).getD 0 := by
    intro k
    rw [List.getElem?_drop, Array.getElem?_toList]
    show (s.data[pos + k]!).toNat = _
    rw [getElem!_def]
    cases s.data[pos + k]? <;> rfl
  have hsz : ∀ k, decide (pos + k < s.size) = Nat.blt k (s.data.toList.drop pos).length := by
    intro k
    rw [blt_eq, List.length_drop, Array.length_toList]
    show decide (pos + k < s.data.size) = _
    rw [decide_eq_decide]; omega
  have hv : ∀ c : Nat, Utf8.valid (c : Int) = (Nat.blt c 0xD800 || (Nat.ble 0xE000 c && Nat.ble c 0x10FFFF)) := by
    intro c
    rw [Bool.eq_iff_iff]
    simp [Utf8.valid]
    omega
  have hb : ∀ a b : Nat, (a == b) = Nat.beq a b := fun a b => by rw [beq_eq, Bool.eq_iff_iff]; simp
  simp only [Utf8.decode, utf8, hat, hsz, hv, dec_ite, hb, Utf8.runeError, ge_iff_le, ← blt_eq, ← ble_eq, Bool.decide_eq_true]
theorem rgs_sound {P : Program} {t : TypeId} {x r : AV} {H H' : Heap} {n n' : Nat} {ρ : Rho} {x' : Value} {w : World} (hs : Sim ρ H w) (h : rgs x H n = some (r, H', n')) (ht : P.underlying t = some .string) (hx : VRel ρ x x') :
    ∃ v w', (Instr.range t x').run P w = .ok v w' ∧ Out ρ H w r H' v w' := by
  unfold rgs at h
  split at h
  · rename_i l
    obtain ⟨i, H1, n1, h1, h2⟩ := bd_some h
    obtain ⟨rfl, rfl, rfl⟩ := ret_some h2
    obtain ⟨h3, rfl, rfl, rfl⟩ := newO_some h1
    cases hx with
    | str s =>
    refine ⟨_, _, run_range_string w t s ht, rput ρ i ⟨w.heap.size, 0, 0, true⟩, ?_, ?_⟩
    · refine Stp.new hs h3 _ _ _ rfl ?_
      refine ⟨s, ?_, rfl, rfl⟩
      show (w.heap.push _)[w.heap.size]? = _
      simp
    · exact VRel.ptr (ρ := rput ρ i ⟨w.heap.size, 0, 0, true⟩) i 0 ⟨w.heap.size, 0, 0, true⟩ (by simp [rput])
  · exact (fail_some h).elim
theorem drop_cases {s : ByteArray} {pos : Nat} {b : UInt8} {r : List UInt8} (h : s.data.toList.drop pos = b :: r) : pos < s.size := by
  have := congrArg List.length h
  rw [List.length_drop, Array.length_toList] at this
  simp at this
  have hz : s.data.size = s.size := rfl
  omega
theorem nxs_sound {P : Program} {ty : TypeId} {x r : AV} {H H' : Heap} {n n' : Nat} {ρ : Rho} {x' : Value} {w : World} (hs : Sim ρ H w) (h : nxs x H n = some (r, H', n')) (hx : VRel ρ x x') :
    ∃ v w', (Instr.next x' true ty).run P w = .ok v w' ∧ Out ρ H w r H' v w' := by
  unfold nxs at h
  split at h
  · rename_i i
    obtain ⟨ob, H1, n1, h1, h2⟩ := bd_some h
    clear h
    obtain ⟨h3, rfl, rfl⟩ := getO_some h1
    split at h2
    · rename_i s pos
      cases hx with
      | ptr i o g hg =>
      obtain ⟨g', a, b⟩ := hs.obj _ _ h3 rfl
      rw [hg] at a; cases a
      obtain ⟨bs, h4, h5, h6⟩ := b
      rw [h6]
      cases e : s.drop pos with
      | nil =>
        simp only [e] at h2
        obtain ⟨rfl, rfl, rfl⟩ := ret_some h2
        have hp : ¬ pos < bs.size := by
          rw [← h5] at e
          have := congrArg List.length e
          rw [List.length_drop, Array.length_toList] at this
          simp at this
          have hz : bs.data.size = bs.size := rfl
          omega
        refine ⟨.tuple #[.bool false], w, ?_, Out.same hs (.tuple _ _ (.cons _ _ _ _ (.bool _) .nil))⟩
        simp [Instr.next, getObj, Sem.run, Result.andThen, h4, hp]
      | cons b r' =>
        simp only [e] at h2
        obtain ⟨u, H2, n2, h7, h8⟩ := bd_some h2
        obtain ⟨rfl, rfl⟩ := setO_some h7
        obtain ⟨rfl, rfl, rfl⟩ := ret_some h8
        rw [← h5] at e
        have hp := drop_cases e
        have hd := utf8_eq bs pos
        rw [e] at hd
        refine ⟨.tuple #[.bool true, .int .i64 pos, .int .i32 (utf8 (b :: r')).1], { w with heap := w.heap.setIfInBounds g.b (.stringIter bs (pos + (utf8 (b :: r')).2)) }, ?_, ρ, ?_, .tuple _ _ (.cons _ _ _ _ (.bool _) (.cons _ _ _ _ (.int _ _) (.cons _ _ _ _ (.int _ _) .nil)))⟩
        · simp [Instr.next, getObj, setObj, Sem.run, Result.andThen, h4, hp, hd, goInt]
        · refine Stp.put hs h3 rfl hg (by simp) rfl rfl rfl (fun d hd => ?_) ⟨bs, ?_, h5, h6⟩
          · rw [Array.getElem?_setIfInBounds, if_neg (fun e => hd (Eq.symm e))]
          · have := (Array.getElem?_eq_some_iff.1 h4).1
            simp [Array.getElem?_setIfInBounds, this]
    · exact (fail_some h2).elim
  · exact (fail_some h).elim
end Go.Dn

/- Soundness, behind 13: package unsafe, as strings.Builder has it; copy. -/
namespace Go.Dn
open M Go.RowKit
set_option linter.unusedSimpArgs false
set_option linter.unusedVariables false

theorem Sim.shape {ρ : Rho} {H : Heap} {w : World} (hs : Sim ρ H w) {i : Nat} {cs : List AV} {e : TypeId} {b : Rw} (hi : H.get i = some (.row cs e b)) {g : G} (hg : ρ i = some g) : ∃ e' c, w.shape? g.b = some (e', c) ∧ g.base + cs.length ≤ c ∧ (b.mine = true → e' = e ∧ g.base = 0) := by
  obtain ⟨c, e', fz, h1, h2, h3, h4, h5, h6⟩ := hs.row hi hg
  exact ⟨e', c.size, by simp [World.shape?, h1], h3, fun hb => ⟨(h6 hb).1, (h6 hb).2.1⟩⟩
theorem p2u_sound {P : Program} {s d e : TypeId} {x r : AV} {H H' : Heap} {n n' : Nat} {ρ : Rho} {x' : Value} {w : World} (hs : Sim ρ H w) (h : p2u x H n = some (r, H', n')) (h1 : P.underlying s = some (.pointer e)) (h2 : P.underlying d = some .unsafePointer) (hz : tySz P e ≠ 0) (hx : VRel ρ x x') :
    H' = H ∧ n' = n ∧ ∃ v, (convert s d x').run P w = .ok v w ∧ VRel ρ r v := by
  obtain ⟨inf, hi, hsz⟩ := tySz_info hz
  unfold p2u at h
  split at h
  · obtain ⟨rfl, rfl, rfl⟩ := ret_some h
    cases hx
    exact ⟨rfl, rfl, .pointer none, by simp [convert, run_underlying h1, run_underlying h2, Conv.unsafePointer], .ptrN⟩
  · rename_i i o
    obtain ⟨ob, H1, n1, h3, h4⟩ := bd_some h
    obtain ⟨h5, rfl, rfl⟩ := getO_some h3
    split at h4
    · rename_i cs e' b
      obtain ⟨h6, h7⟩ := cond_some h4
      obtain ⟨rfl, rfl, rfl⟩ := ret_some h7
      rw [blt_eq, decide_eq_true_eq] at h6
      cases hx with
      | ptr _ _ g hg =>
      obtain ⟨e2, c, q1, q2, q3⟩ := hs.shape h5 hg
      refine ⟨rfl, rfl, _, ?_, .ptr _ _ g hg⟩
      have hlt : ¬ c ≤ g.base + o := by omega
      have hsz' : ¬ inf.size = 0 := by omega
      simp [convert, run_underlying h1, run_underlying h2, Conv.unsafePointer, Conv.seenAt, viewAt, q1, cellsIn, run_sizeOf hi, hsz', hlt]
    · exact (fail_some h4).elim
  · exact (fail_some h).elim
theorem liesAt_head {P : Program} {e : TypeId} {count : Nat} (hc : P.cellsOf e ≠ 0) (h1 : 1 ≤ count) : liesAt P P.depth e count 0 e 1 = true := by
  have hd : P.depth = (2 * (P.types.size + Made.depth) + 1) + 1 := rfl
  rw [hd]
  simp only [liesAt, Bool.or_eq_true]
  left
  rw [hd]
  simp [rowAt, hc, h1, sameLayout]
theorem cellsOf_eq {P : Program} {e : TypeId} {i : TypeInfo} (h : P.info? e = some i) : P.cellsOf e = i.size := by simp [Program.cellsOf, h]
theorem u2p_sound {P : Program} {s d e : TypeId} {x r : AV} {H H' : Heap} {n n' : Nat} {ρ : Rho} {x' : Value} {w : World} (hs : Sim ρ H w) (h : u2p e (tySz P e) x H n = some (r, H', n')) (h1 : P.underlying s = some .unsafePointer) (h2 : P.underlying d = some (.pointer e)) (hz : tySz P e ≠ 0) (hx : VRel ρ x x') :
    H' = H ∧ n' = n ∧ ∃ v, (convert s d x').run P w = .ok v w ∧ VRel ρ r v := by
  obtain ⟨inf, hi, hsz⟩ := tySz_info hz
  unfold u2p at h
  split at h
  · obtain ⟨rfl, rfl, rfl⟩ := ret_some h
    cases hx
    exact ⟨rfl, rfl, .pointer none, by simp [convert, run_underlying h1, run_underlying h2, Conv.unsafePointer], .ptrN⟩
  · rename_i i o
    obtain ⟨ob, H1, n1, h3, h4⟩ := bd_some h
    obtain ⟨h5, rfl, rfl⟩ := getO_some h3
    split at h4
    · rename_i cs e' rw'
      obtain ⟨h6, h7⟩ := cond_some h4
      obtain ⟨rfl, rfl, rfl⟩ := ret_some h7
      rw [Bool.and_eq_true, Bool.and_eq_true, Bool.and_eq_true, beq_eq, beq_eq, ble_eq, decide_eq_true_eq, decide_eq_true_eq, decide_eq_true_eq] at h6
      obtain ⟨rfl, rfl, h8, hmine⟩ := h6
      cases hx with
      | ptr _ _ g hg =>
      obtain ⟨e2, c, q1, q2, q3⟩ := hs.shape h5 hg
      obtain ⟨rfl, q4⟩ := q3 hmine
      refine ⟨rfl, rfl, _, ?_, .ptr _ _ g hg⟩
      have hsz' : ¬ inf.size = 0 := by omega
      have hl := liesAt_head (P := P) (e := e2) (count := c / P.cellsOf e2) (by rw [cellsOf_eq hi]; omega) (by
        rw [cellsOf_eq hi]
        exact (Nat.le_div_iff_mul_le (by omega)).2 (by omega))
      simp [convert, run_underlying h1, run_underlying h2, Conv.unsafePointer, Conv.seenAt, viewAt, q1, run_sizeOf hi, hsz', variablesAt, q4, hl]
    · exact (fail_some h4).elim
  · exact (fail_some h).elim
theorem ncond_some' {α : Type} {b : Bool} {m : M α} {H : Heap} {n : Nat} {r : α × Heap × Nat} (h : (bif b then fail else m) H n = some r) : b = false ∧ m H n = some r := by
  cases b
  · exact ⟨rfl, h⟩
  · exact (fail_some (n := n) (H := H) h).elim
theorem usd_sound {P : Program} {ts : Array TypeId} {ty : TypeId} {x r : AV} {H H' : Heap} {n n' : Nat} {ρ : Rho} {x' : Value} (h : usd x H n = some (r, H', n')) (hx : VRel ρ x x') (w : World) :
    H' = H ∧ n' = n ∧ ∃ v, (Builtin.unsafeSliceData_ ts ty #[x']).run P w = .ok v w ∧ VRel ρ r v := by
  unfold usd at h
  split at h
  · obtain ⟨rfl, rfl, rfl⟩ := ret_some h
    cases hx
    exact ⟨rfl, rfl, _, Lib.run_unsafeSliceData_nil w ts ty 0 0, .ptrN⟩
  · rename_i i o len kc z
    obtain ⟨h1, h2⟩ := ncond_some' h
    obtain ⟨rfl, rfl, rfl⟩ := ret_some h2
    have hk := Nat.ne_of_beq_eq_false h1
    cases hx with
    | sl i o len kc z cap g hg l1 l2 l3 => exact ⟨rfl, rfl, _, Lib.run_unsafeSliceData_row w ts ty _ len cap (by omega), .ptr _ _ g hg⟩
    | slE => exact absurd rfl hk
  · exact (fail_some h).elim
theorem bytesOf_len : ∀ (cs : List AV) (l : List UInt8), bytesOf? cs = some l → l.length = cs.length
  | [], l, h => by cases h; rfl
  | c :: cs, l, h => by
    unfold bytesOf? at h
    split at h
    · rename_i b l' e1 e2
      cases h
      simp [bytesOf_len cs l' e2]
    · cases h
/-- A row that is frozen from its head on. -/
theorem Stp.freeze {ρ : Rho} {H : Heap} {w : World} (h : Sim ρ H w) {i : Nat} {cs : List AV} {e : TypeId} {f : Nat} {g : G} (hi : H.get i = some (.row cs e (.own f))) (hg : ρ i = some g) (k : Nat) :
    Stp ρ H w ρ (H.set i (.row cs e (.own (bif Nat.ble f k then k else f)))) (w.freeze ⟨g.b, 0, none⟩ k) := by
  obtain ⟨c, e', fz, h1, h2, h3, h4, h5, h6⟩ := h.row hi hg
  obtain ⟨rfl, k1, k2, k3⟩ := h6 rfl
  have hff : ∃ F, (bif Nat.ble f k then k else f) = F ∧ f ≤ F ∧ k ≤ F := by
    rw [ble_eq]
    by_cases hk : f ≤ k
    · exact ⟨k, by simp [hk], hk, Nat.le_refl _⟩
    · exact ⟨f, by simp [hk], Nat.le_refl _, by omega⟩
  obtain ⟨F, hF, hF1, hF2⟩ := hff
  rw [hF]
  have hok : ∀ q, Rw.ok (.own F) q = true → F ≤ q := fun q hq => by
    have : Nat.ble F q = true := hq
    rw [ble_eq, decide_eq_true_eq] at this; exact this
  have hok2 : ∀ q, F ≤ q → Rw.ok (.own f) q = true := fun q hq => by
    show Nat.ble f q = true
    rw [ble_eq, decide_eq_true_eq]; omega
  have hw : ∃ fz', (w.freeze ⟨g.b, 0, none⟩ k).heap[g.b]? = some (.cells c e' fz') ∧ (∀ q, F ≤ q → (decide (fz'.1 ≤ q) && decide (q < fz'.2)) = true → g.size ≤ q) ∧ (fz'.1 = fz'.2 ∨ fz'.1 = 0 ∧ fz'.2 ≤ F) := by
    unfold World.freeze
    split
    · exact ⟨fz, h1, fun q hq => k2 q (hok2 q hq), (k3 f rfl).imp id fun x => ⟨x.1, by omega⟩⟩
    · refine ⟨if fz.1 == fz.2 then (0, 0 + k) else (min fz.1 0, max fz.2 (0 + k)), ?_, ?_, ?_⟩
      · show (w.heap.modify g.b _)[g.b]? = _
        rw [Array.getElem?_modify, if_pos rfl, h1]
        rfl
      · intro q hq hfr
        by_cases he : fz.1 = fz.2
        · simp [he] at hfr; omega
        · rcases k3 f rfl with x | ⟨x, y⟩
          · exact absurd x he
          · have : ¬ (fz.1 == fz.2) = true := by simpa using he
            rw [if_neg this] at hfr
            simp at hfr
            omega
      · by_cases he : fz.1 = fz.2
        · right; simp [he]; omega
        · rcases k3 f rfl with x | ⟨x, y⟩
          · exact absurd x he
          · have : ¬ (fz.1 == fz.2) = true := by simpa using he
            rw [if_neg this]
            right; simp; omega
  obtain ⟨fz', hw, hw2, hw3⟩ := hw
  refine Stp.put h hi rfl hg ?_ ?_ ?_ ?_ ?_ ⟨c, e', fz', hw, h2, h3, h4, h5, fun _ => ⟨rfl, k1, fun q hq => hw2 q (hok q hq), fun F' hF' => by cases hF'; exact hw3⟩⟩
  · unfold World.freeze; split <;> simp
  · unfold World.freeze; split <;> rfl
  · unfold World.freeze; split <;> rfl
  · unfold World.freeze; split <;> rfl
  · intro b hb
    unfold World.freeze
    split
    · rfl
    · show (w.heap.modify g.b _)[b]? = _
      rw [Array.getElem?_modify, if_neg (fun x => hb x.symm)]
theorem ust_sound {P : Program} {pt it ty e : TypeId} {x y r : AV} {H H' : Heap} {n n' : Nat} {ρ : Rho} {x' y' : Value} {w : World} (hs : Sim ρ H w) (h : ust e x y H n = some (r, H', n')) (h1 : P.underlying pt = some (.pointer e)) (hz : tySz P e = 1) (hx : VRel ρ x x') (hy : VRel ρ y y') :
    ∃ v w', (Builtin.unsafeString_ #[pt, it] ty #[x', y']).run P w = .ok v w' ∧ Out ρ H w r H' v w' := by
  obtain ⟨inf, hi, hsz⟩ := tySz_info (P := P) (t := e) (by omega)
  unfold ust at h
  split at h
  · rename_i q k
    cases hy
    cases e0 : Nat.beq k 0 with
    | true =>
      rw [e0] at h
      obtain ⟨rfl, rfl, rfl⟩ := ret_some h
      rw [beq_eq, decide_eq_true_eq] at e0
      subst e0
      have hp : ∃ p, x' = .pointer p := by cases hx <;> exact ⟨_, rfl⟩
      obtain ⟨p, rfl⟩ := hp
      exact ⟨_, w, Lib.run_unsafeString_none w pt it ty p, Out.same hs (.str .empty)⟩
    | false =>
      rw [e0] at h
      have k0 := Nat.ne_of_beq_eq_false e0
      cases q with
      | none => exact (fail_some (α := AV) (H := H) (n := n) h).elim
      | some io =>
        obtain ⟨i, o⟩ := io
        obtain ⟨ob, H1, n1, h3, h4⟩ := bd_some h
        obtain ⟨h5, rfl, rfl⟩ := getO_some h3
        split at h4
        · rename_i cs e' f
          obtain ⟨h6, h7⟩ := cond_some h4
          rw [Bool.and_eq_true, Bool.and_eq_true, Bool.and_eq_true, beq_eq, beq_eq, ble_eq, ble_eq, decide_eq_true_eq, decide_eq_true_eq, decide_eq_true_eq, decide_eq_true_eq] at h6
          obtain ⟨rfl, rfl, h8, h9⟩ := h6
          obtain ⟨l, H2, n2, q1, q2⟩ := bd_some h7
          obtain ⟨q3, rfl, rfl⟩ := ofO_some q1
          obtain ⟨u, H3, n3, q4, q5⟩ := bd_some q2
          obtain ⟨rfl, rfl⟩ := setO_some q4
          obtain ⟨rfl, rfl, rfl⟩ := ret_some q5
          cases hx with
          | ptr _ _ g hg =>
          obtain ⟨e2, c, s1, s2, s3⟩ := hs.shape h5 hg
          obtain ⟨rfl, s4⟩ := s3 rfl
          obtain ⟨vs, v1, v2, v3⟩ := hs.cells (o := 0) (z := k) h5 hg (by omega)
          rw [List.drop_zero] at v3
          have hv := bytesOf_some _ l vs q3 v3
          have hll : l.length = k := by rw [hv] at v1; simpa using v1
          have hr := Lib.run_unsafeString_row (P := P) w pt it ty e2 h1 (by rw [cellsOf_eq hi]; omega) g.b c s1 l (by intro hh; rw [hh] at hll; exact k0 hll.symm) (by omega) (by omega) (fun j x hj => by
            have := v2 j (.int .u8 x.toNat) (by rw [hv]; simp [hj])
            rw [s4] at this; exact this)
          rw [hll] at hr
          have hz0 : g.base + 0 = 0 := by omega
          rw [hz0]
          exact ⟨_, _, hr, ρ, Stp.freeze hs h5 hg k, VRel.str ⟨l.toArray⟩⟩
        · exact (fail_some h4).elim
  · exact (fail_some h).elim
theorem cpN_sound {P : Program} {t e ty : TypeId} {x r : AV} {H H' : Heap} {n n' : Nat} {ρ : Rho} {x' : Value} (h : cpN x H n = some (r, H', n')) (ht : P.underlying t = some (.slice e)) (hx : VRel ρ x x') (w : World) :
    H' = H ∧ n' = n ∧ ∃ v, (Builtin.cap_ #[t] ty #[x']).run P w = .ok v w ∧ VRel ρ r v := by
  unfold cpN at h
  split at h
  · obtain ⟨rfl, rfl, rfl⟩ := ret_some h
    cases hx
    exact ⟨rfl, rfl, .int .i64 0, by simp [Builtin.cap_, run_underlying ht, goInt], .int _ _⟩
  · exact (fail_some h).elim
theorem lenA_rel {ρ : Rho} {x : AV} {x' : Value} {m : Nat} (h : lenA x = some m) (hx : VRel ρ x x') (P : Program) (w : World) : (Builtin.lenOf x').run P w = .ok m w := by
  unfold lenA at h
  split at h <;> cases h
  · cases hx; rfl
  · cases hx <;> rfl
  · cases hx with
    | str b =>
      have : b.data.toList.length = b.size := by rw [Array.length_toList]; rfl
      rw [this]; rfl
theorem run_copy {P : Program} (w w' : World) (t u ty e : TypeId) (i : TypeInfo) (ht : P.underlying t = some (.slice e)) (hi : P.info? e = some i) (base : Option Addr) (dLen dCap : Nat) (x : Value) (m : Nat) (hm : (Builtin.lenOf x).run P w = .ok m w) (cs : Array Value)
    (hc : (Builtin.firstCells i.size (Nat.min m dLen) x).run P w = .ok cs w) (hst : ∀ a, base = some a → (storeCells a cs.toList).run P w = .ok () w') (hn : base = none → w' = w) :
    (Builtin.copy_ #[t, u] ty #[.slice base dLen dCap, x]).run P w = .ok (.int .i64 (Nat.min m dLen)) w' := by
  cases base with
  | none => rw [hn rfl]; simp [Builtin.copy_, run_underlying ht, run_sizeOf hi, hm, hc, goInt]
  | some a => simp [Builtin.copy_, run_underlying ht, run_sizeOf hi, hm, hc, hst a rfl, goInt]
theorem firstCells_zero {P : Program} {ρ : Rho} {z m : Nat} {x : AV} {x' : Value} (h : lenA x = some m) (hx : VRel ρ x x') (w : World) : (Builtin.firstCells z 0 x').run P w = .ok #[] w := by
  unfold lenA at h
  split at h <;> cases h
  · cases hx; exact run_firstCells_none w z 0 0 0
  · cases hx with
    | sl i o len kc z' cap g hg l1 l2 l3 => exact run_firstCells_some w z 0 _ _ cap [] (by simp) (fun j u hj => by simp at hj)
    | slE i o z' a g hg => exact run_firstCells_some w z 0 _ 0 0 [] (by simp) (fun j u hj => by simp at hj)
  · cases hx with
    | str b => simp [Builtin.firstCells]
theorem cpy_sound {P : Program} {t u ty e : TypeId} {x y r : AV} {H H' : Heap} {n n' : Nat} {ρ : Rho} {x' y' : Value} {w : World} (hs : Sim ρ H w) (h : cpy (tySz P e) x y H n = some (r, H', n')) (ht : P.underlying t = some (.slice e)) (hz : tySz P e ≠ 0) (hx : VRel ρ x x') (hy : VRel ρ y y') :
    ∃ v w', (Builtin.copy_ #[t, u] ty #[x', y']).run P w = .ok v w' ∧ Out ρ H w r H' v w' := by
  obtain ⟨inf, hi, hsz⟩ := tySz_info hz
  unfold cpy at h
  cases hm : lenA y with
  | none => simp only [hm] at h; exact (fail_some h).elim
  | some m =>
  cases x with
  | slN =>
    simp only [hm] at h
    obtain ⟨rfl, rfl, rfl⟩ := ret_some h
    cases hx
    have hm0 : Nat.min m 0 = 0 := Nat.min_zero m
    have hr := run_copy (P := P) w w t u ty e inf ht hi none 0 0 y' m (lenA_rel hm hy P w) #[] (by rw [hm0]; exact firstCells_zero hm hy w) (fun a ha => by cases ha) (fun _ => rfl)
    rw [hm0] at hr
    exact ⟨_, w, hr, Out.same hs (.int _ _)⟩
  | sl i o len kc z' =>
    simp only [hm] at h
    have hlen := lenA_rel hm hy P w
    cases e0 : Nat.beq (Nat.min m len) 0 with
    | true =>
      rw [e0] at h
      obtain ⟨rfl, rfl, rfl⟩ := ret_some h
      rw [beq_eq, decide_eq_true_eq] at e0
      have hb : ∃ ad c, x' = .slice (some ad) len c := by
        cases hx with
        | sl => exact ⟨_, _, rfl⟩
        | slE => exact ⟨_, _, rfl⟩
      obtain ⟨ad, c, rfl⟩ := hb
      have hr := run_copy (P := P) w w t u ty e inf ht hi (some ad) len c y' m hlen #[] (by rw [e0]; exact firstCells_zero hm hy w) (fun a ha => by simp [storeCells]) (fun _ => rfl)
      rw [e0] at hr
      exact ⟨_, w, hr, Out.same hs (.int _ _)⟩
    | false =>
      have e0' := Nat.ne_of_beq_eq_false e0
      rw [e0] at h
      obtain ⟨hzz, h2⟩ := cond_some h
      clear h
      rw [beq_eq, decide_eq_true_eq] at hzz
      cases hx with
      | slE => simp at e0'
      | sl i o len kc z' cap g hg l1 l2 l3 =>
      cases y with
      | sl j p ly ky zy =>
        simp only at h2
        obtain ⟨cs, H1, n1, h3, h4⟩ := bd_some h2
        obtain ⟨rfl, rfl, row, el, rw', k1, k2, rfl⟩ := rd_some h3
        obtain ⟨uu, H2, n2, h5, h6⟩ := bd_some h4
        obtain ⟨rfl, rfl, rfl⟩ := ret_some h6
        cases hm
        cases hy with
        | slE => simp at e0'
        | sl j p ly ky zy cy gy hgy m1 m2 m3 =>
        obtain ⟨vs, v1, v2, v3⟩ := hs.cells k1 hgy k2
        obtain ⟨rfl, w', r1, r2⟩ := wrO_sound (P := P) hs h5 hg v3
        have hr := run_copy (P := P) w w' t u ty e inf ht hi (some ⟨g.b, g.base + o, none⟩) len cap (.slice (some ⟨gy.b, gy.base + p, none⟩) m cy) m hlen vs.toArray (run_firstCells_some w inf.size (Nat.min m len) ⟨gy.b, gy.base + p, none⟩ m cy vs (by rw [hsz]; exact v1) v2) (fun a ha => by cases ha; simpa using r1) (fun hh => by cases hh)
        exact ⟨_, w', hr, ρ, r2, .int _ _⟩
      | str s =>
        simp only at h2
        obtain ⟨h3, h4⟩ := cond_some h2
        rw [beq_eq, decide_eq_true_eq] at h3
        obtain ⟨uu, H2, n2, h5, h6⟩ := bd_some h4
        obtain ⟨rfl, rfl, rfl⟩ := ret_some h6
        cases hm
        cases hy with
        | str b =>
        have hb := (bytesA_rel ρ b).take (Nat.min b.data.toList.length len)
        obtain ⟨rfl, w', r1, r2⟩ := wrO_sound (P := P) hs h5 hg hb
        have hf : (Builtin.firstCells inf.size (Nat.min b.data.toList.length len) (.string b)).run P w = .ok (((b.data.map (fun b => Value.int .u8 b.toNat)).toList.take (Nat.min b.data.toList.length len)).toArray) w := by
          simp only [Builtin.firstCells, Sem.run_pure]
          congr 1
          apply Array.ext'
          rw [Array.toList_map, extract_list]
          simp [List.map_take]
        have hr := run_copy (P := P) w w' t u ty e inf ht hi (some ⟨g.b, g.base + o, none⟩) len cap (.string b) _ hlen _ hf (fun a ha => by cases ha; simpa using r1) (fun hh => by cases hh)
        exact ⟨_, w', hr, ρ, r2, .int _ _⟩
      | _ => simp only at h2; exact (fail_some h2).elim
  | _ => simp only [hm] at h; exact (fail_some h).elim
end Go.Dn

/- Soundness, 14: an operation. -/
namespace Go.Dn
open M Go.RowKit
set_option linter.unusedSimpArgs false
set_option linter.unusedVariables false

/-- The globals are where they were. -/
def Glob (G : Nat) (ρ : Rho) : Prop := ∀ g, g < G → ∃ x, ρ g = some x ∧ x.b = g ∧ x.base = 0
theorem Glob.mono {G : Nat} {ρ ρ' : Rho} (h : Glob G ρ) (e : Ext ρ ρ') : Glob G ρ' := fun g hg => by obtain ⟨x, a, b⟩ := h g hg; exact ⟨x, e g x a, b⟩
/-- A call of f comes to what m says. -/
def CallOK (P : Program) (G : Nat) (f : FuncId) (xs : List AV) (m : M AV) : Prop :=
  ∀ H n r H' n' ρ w (xs' : Array Value), m H n = some (r, H', n') → Sim ρ H w → Glob G ρ → VRels ρ xs xs'.toList → Does P (callFunc f xs') w (Out ρ H w r H')
/-- A yield of the loop i comes to what m says. -/
def YldOK (P : Program) (G : Nat) (i : Nat) (xs : List AV) (m : M AV) : Prop :=
  ∀ H n r H' n' ρ w (xs' : Array Value) g, m H n = some (r, H', n') → Sim ρ H w → Glob G ρ → ρ i = some g → VRels ρ xs xs'.toList → Does P (Instr.yield g.b xs') w (Out ρ H w r H')
/-- What is known of function values. -/
structure ApOK (P : Program) (G : Nat) (ap : FuncId → List AV → M AV) : Prop where
  fn : ∀ f xs, f ≠ yldId → CallOK P G f xs (ap f xs)
  yl : ∀ i xs, YldOK P G i xs (ap yldId (.yld i :: xs))
/-- What is known of the functions that code calls. -/
structure EnvOK (E : Env) : Prop where
  call : ∀ f xs, CallOK E.P E.ng f xs (E.call f xs)
  ap : ApOK E.P E.ng E.ap
theorem Does.run {P : Program} {s s' : Sem Next} {w : World} {R : Value → World → Prop} (e : s.run P w = s'.run P w) (h : Does P s' w R) : Does P s w R := by
  unfold Does at *; rw [e]; exact h
theorem Does.value {P : Program} {s : Sem Next} {w w' : World} {v : Value} {R : Value → World → Prop} (e : s.run P w = .ok (.value v) w') (h : R v w') : Does P s w R := by
  unfold Does; rw [e]; exact h
theorem Does.pure0 {P : Program} {s : Sem Value} {w : World} {ρ : Rho} {H H' : Heap} {n n' : Nat} {r : AV} (hs : Sim ρ H w) (h : H' = H ∧ n' = n ∧ ∃ v, s.run P w = .ok v w ∧ VRel ρ r v) :
    Does P (do pure (.value (← s))) w (Out ρ H w r H') := by
  obtain ⟨rfl, rfl, v, e, k⟩ := h
  exact .of_val ⟨v, w, e, Out.same hs k⟩
theorem Does.out {P : Program} {s : Sem Value} {w : World} {R : Value → World → Prop} (h : ∃ v w', s.run P w = .ok v w' ∧ R v w') :
    Does P (do pure (.value (← s))) w R := .of_val h
theorem wh_some {α β : Type} {o : Option α} {f : α → M β} {H : Heap} {n : Nat} {r : β × Heap × Nat} (h : wh o f H n = some r) : ∃ a, o = some a ∧ f a H n = some r := by
  cases o with
  | none => exact (fail_some (α := β) (H := H) (n := n) h).elim
  | some a => exact ⟨a, rfl, h⟩
theorem known_some {P : Program} {t : TypeId} (h : known P t = true) : (∃ i, P.info? t = some i) ∧ (P.underlying t).isSome = true := by
  unfold known at h
  rw [Bool.and_eq_true] at h
  exact ⟨Option.isSome_iff_exists.1 h.1, h.2⟩
theorem ncond_some {α : Type} {b : Bool} {m : M α} {H : Heap} {n : Nat} {r : α × Heap × Nat} (h : (bif b then fail else m) H n = some r) : b = false ∧ m H n = some r := by
  cases b
  · exact ⟨rfl, h⟩
  · exact (fail_some (n := n) (H := H) h).elim
theorem evs_rel {ρ : Rho} {G : Nat} {t : Tmps} {e' : Operand → Value} (hv : ∀ x, VRel ρ (ev G t x) (e' x)) : ∀ l : List Operand, VRels ρ (l.map (ev G t)) (l.map e')
  | [] => .nil
  | x :: l => .cons _ _ _ _ (hv x) (evs_rel hv l)
theorem evo_rel {ρ : Rho} {G : Nat} {t : Tmps} {e' : Operand → Value} (hv : ∀ x, VRel ρ (ev G t x) (e' x)) : ∀ o : Option Operand, ORelO ρ (evo G t o) (o.map e')
  | none => .none
  | some x => .some _ _ (hv x)
theorem partsA_rel {ρ : Rho} {G : Nat} {t : Tmps} {e' : Operand → Value} (hv : ∀ x, VRel ρ (ev G t x) (e' x)) {f : Nat → Option (Nat × Nat)} : ∀ (ps : List (Nat × Operand)) (l : List (Nat × Nat × AV)), partsA f G t ps = some l → PRels ρ l (ps.map fun (i, x) => (i, e' x)) f
  | [], l, h => by cases h; exact .nil f
  | (i, x) :: ps, l, h => by
    unfold partsA at h
    split at h
    · rename_i o z l' e1 e2
      cases h
      exact .cons o z _ _ i _ _ f e1 (hv x) (partsA_rel hv ps _ e2)
    · cases h
theorem dbin_sound {P : Program} {op : BinOp} {ty : TypeId} {x y r : AV} {H H' : Heap} {n n' : Nat} {ρ : Rho} {x' y' : Value} {w : World} (h : dbin P op ty x y H n = some (r, H', n')) (hx : VRel ρ x x') (hy : VRel ρ y y') (ox oy : Operand) :
    H' = H ∧ n' = n ∧ ∃ v, (do eqGuard op ty ox oy x' y'; binOp op ty x' y').run P w = .ok v w ∧ VRel ρ r v := by
  unfold dbin at h
  cases e : tyU P ty with
  | struct fs =>
    simp only [e] at h
    obtain ⟨ks, h1, h2⟩ := wh_some h
    exact bis_sound h1 h2 hx hy ox oy w
  | int k => simp only [e] at h; exact bi_sound h hx hy ox oy w
  | string => simp only [e] at h; exact bi_sound h hx hy ox oy w
  | bool => simp only [e] at h; exact be_sound h (tyU_some e (by simp)) trivial hx hy ox oy w
  | pointer el =>
    simp only [e] at h
    obtain ⟨h1, h2⟩ := ncond_some h
    exact be_sound h2 (tyU_some e (by simp)) (Nat.ne_of_beq_eq_false h1) hx hy ox oy w
  | unsafePointer => simp only [e] at h; exact be_sound h (tyU_some e (by simp)) trivial hx hy ox oy w
  | slice _ => simp only [e] at h; exact be_sound h (tyU_some e (by simp)) trivial hx hy ox oy w
  | map _ _ => simp only [e] at h; exact be_sound h (tyU_some e (by simp)) trivial hx hy ox oy w
  | func _ _ _ => simp only [e] at h; exact be_sound h (tyU_some e (by simp)) trivial hx hy ox oy w
  | _ => simp only [e] at h; exact (fail_some h).elim
theorem encU_eq (r : Int) : (Utf8.encode r).data.toList = encU r := by
  have hv : (if Utf8.valid r then r.toNat else Utf8.runeError) = runeOf r := by
    cases r with
    | ofNat m =>
      have h1 : Utf8.valid (Int.ofNat m) = (Nat.blt m 0xD800 || (Nat.ble 0xE000 m && Nat.ble m 0x10FFFF)) := by
        rw [Bool.eq_iff_iff]
        simp [Utf8.valid]
        omega
      rw [h1, bool_ite]
      rfl
    | negSucc m =>
      have h1 : Utf8.valid (Int.negSucc m) = false := by
        simp [Utf8.valid]
        omega
      rw [h1]; rfl
  unfold Utf8.encode encU encN
  simp only [hv]
  generalize runeOf r = c
  simp only [dec_ite, ← blt_eq]
  cases Nat.blt c 128 <;> cases Nat.blt c 2048 <;> cases Nat.blt c 65536 <;> rfl
theorem i2s_sound {P : Program} {s d : TypeId} {k : IntKind} {x r : AV} {H H' : Heap} {n n' : Nat} {ρ : Rho} {x' : Value} {w : World} (h : i2s x H n = some (r, H', n')) (h1 : P.underlying s = some (.int k)) (h2 : P.underlying d = some .string) (hx : VRel ρ x x') :
    H' = H ∧ n' = n ∧ ∃ v, (convert s d x').run P w = .ok v w ∧ VRel ρ r v := by
  unfold i2s at h
  split at h
  · rename_i m
    obtain ⟨rfl, rfl, rfl⟩ := ret_some h
    cases hx
    refine ⟨rfl, rfl, .string (Utf8.encode m), by simp [convert, run_underlying h1, run_underlying h2, Conv.intToString], ?_⟩
    rw [← encU_eq]; exact .str _
  · exact (fail_some h).elim
theorem sid_sound {P : Program} {s d : TypeId} {x r : AV} {H H' : Heap} {n n' : Nat} {ρ : Rho} {x' : Value} {w : World} (h : sid x H n = some (r, H', n')) (h1 : P.underlying s = some .string) (h2 : P.underlying d = some .string) (hx : VRel ρ x x') :
    H' = H ∧ n' = n ∧ ∃ v, (convert s d x').run P w = .ok v w ∧ VRel ρ r v := by
  unfold sid at h
  split at h
  · obtain ⟨rfl, rfl, rfl⟩ := ret_some h
    cases hx with
    | str b => exact ⟨rfl, rfl, .string b, by simp [convert, run_underlying h1, run_underlying h2], .str _⟩
  · exact (fail_some h).elim
theorem dconv_sound {P : Program} {s d : TypeId} {x r : AV} {H H' : Heap} {n n' : Nat} {ρ : Rho} {x' : Value} {w : World} (hs : Sim ρ H w) (h : dconv P s d x H n = some (r, H', n')) (hx : VRel ρ x x') :
    Does P (do pure (.value (← convert s d x'))) w (Out ρ H w r H') := by
  unfold dconv at h
  cases e1 : tyU P s with
  | int k =>
    cases e2 : tyU P d with
    | int k2 => simp only [e1, e2] at h; exact .pure0 hs (ci_sound h hx (tyU_some e1 (by simp)) (tyU_some e2 (by simp)) w)
    | string => simp only [e1, e2] at h; exact .pure0 hs (i2s_sound h (tyU_some e1 (by simp)) (tyU_some e2 (by simp)) hx)
    | _ => simp only [e1, e2] at h; exact (fail_some h).elim
  | string =>
    cases e2 : tyU P d with
    | string => simp only [e1, e2] at h; exact .pure0 hs (sid_sound h (tyU_some e1 (by simp)) (tyU_some e2 (by simp)) hx)
    | slice e =>
      simp only [e1, e2] at h
      cases e3 : tyU P e with
      | int k =>
        cases k <;> simp only [e3] at h <;> first | exact (fail_some h).elim | exact .out (s2b_sound hs h (tyU_some e1 (by simp)) (tyU_some e2 (by simp)) (tyU_some e3 (by simp)) hx)
      | _ => simp only [e3] at h; exact (fail_some h).elim
    | _ => simp only [e1, e2] at h; exact (fail_some h).elim
  | slice e =>
    cases e2 : tyU P d with
    | string =>
      simp only [e1, e2] at h
      cases e3 : tyU P e with
      | int k =>
        cases k <;> simp only [e3] at h <;> first | exact (fail_some h).elim | exact .pure0 hs (b2s_sound hs h (tyU_some e1 (by simp)) (tyU_some e3 (by simp)) (tyU_some e2 (by simp)) hx)
      | _ => simp only [e3] at h; exact (fail_some h).elim
    | _ => simp only [e1, e2] at h; exact (fail_some h).elim
  | pointer e =>
    cases e2 : tyU P d with
    | unsafePointer =>
      simp only [e1, e2] at h
      obtain ⟨h1, h2⟩ := ncond_some h
      exact .pure0 hs (p2u_sound hs h2 (tyU_some e1 (by simp)) (tyU_some e2 (by simp)) (Nat.ne_of_beq_eq_false h1) hx)
    | _ => simp only [e1, e2] at h; exact (fail_some h).elim
  | unsafePointer =>
    cases e2 : tyU P d with
    | pointer e =>
      simp only [e1, e2] at h
      obtain ⟨h1, h2⟩ := ncond_some h
      exact .pure0 hs (u2p_sound hs h2 (tyU_some e1 (by simp)) (tyU_some e2 (by simp)) (Nat.ne_of_beq_eq_false h1) hx)
    | _ => simp only [e1, e2] at h; exact (fail_some h).elim
  | _ => simp only [e1] at h; exact (fail_some h).elim
end Go.Dn

/- Soundness, 15: builtins, calls, the operations all. -/
namespace Go.Dn
open M Go.RowKit
set_option linter.unusedSimpArgs false
set_option linter.unusedVariables false

theorem Does.pureV {P : Program} {s : Sem Next} {s' : Sem Value} {w : World} {ρ : Rho} {H H' : Heap} {n n' : Nat} {r : AV} (e : s = (do pure (.value (← s')))) (hs : Sim ρ H w) (h : H' = H ∧ n' = n ∧ ∃ v, s'.run P w = .ok v w ∧ VRel ρ r v) :
    Does P s w (Out ρ H w r H') := by rw [e]; exact .pure0 hs h
theorem Does.outV {P : Program} {s : Sem Next} {s' : Sem Value} {w : World} {R : Value → World → Prop} (e : s = (do pure (.value (← s')))) (h : ∃ v w', s'.run P w = .ok v w' ∧ R v w') : Does P s w R := by rw [e]; exact .of_val h
theorem Does.unitV {P : Program} {s : Sem Next} {s' : Sem Unit} {w : World} {ρ : Rho} {H H' : Heap} {n n' : Nat} {r : AV} (e : s = (do s'; pure .skip)) (h : ∃ w', s'.run P w = .ok () w' ∧ n' = n ∧ r = .tuple [] ∧ Stp ρ H w ρ H' w') : Does P s w (Out ρ H w r H') := by
  obtain ⟨w', h1, h2, rfl, h4⟩ := h
  rw [e]
  exact .of_unit ⟨w', h1, ρ, h4, .tuple _ _ .nil⟩
theorem two_some {f : AV → AV → M AV} {xs : List AV} {H : Heap} {n : Nat} {r : AV × Heap × Nat} (h : two f xs H n = some r) : ∃ x y, xs = [x, y] ∧ f x y H n = some r := by
  unfold two at h
  split at h
  · exact ⟨_, _, rfl, h⟩
  · exact (fail_some h).elim
theorem VRels.two {ρ : Rho} {x y : AV} {c : List Value} (h : VRels ρ [x, y] c) : ∃ x' y', c = [x', y'] ∧ VRel ρ x x' ∧ VRel ρ y y' := by
  cases h with
  | cons _ x' _ _ hx1 hx2 =>
  cases hx2 with
  | cons _ y' _ _ hx3 hx4 =>
  cases hx4
  exact ⟨x', y', rfl, hx1, hx3⟩
theorem many_some {ρ : Rho} {f : AV → AV → M AV} {xs : List AV} {c : List Value} {H : Heap} {n : Nat} {r : AV × Heap × Nat} (h : many f xs H n = some r) (hx : VRels ρ xs c) :
    ∃ x l x' l', xs = x :: l ∧ c = x' :: l' ∧ fold2 f x l H n = some r ∧ VRel ρ x x' ∧ VRels ρ l l' := by
  unfold many at h
  split at h
  · rename_i x y l
    cases hx with
    | cons _ x' _ l' h1 h2 => exact ⟨x, y :: l, x', l', rfl, rfl, h, h1, h2⟩
  · exact (fail_some h).elim
theorem mx2_one {P : Program} {x y r : AV} {H H' : Heap} {n n' : Nat} {ρ : Rho} {x' y' : Value} (h : mx2 x y H n = some (r, H', n')) (hx : VRel ρ x x') (hy : VRel ρ y y') (w : World) :
    H' = H ∧ n' = n ∧ ∃ v, (Builtin.max2 x' y').run P w = .ok v w ∧ VRel ρ r v := by
  obtain ⟨h1, h2, v, h3, h4⟩ := mx2_sound (P := P) (ts := #[]) (ty := 0) h hx hy w
  refine ⟨h1, h2, v, ?_, h4⟩
  rw [← h3]; simp [Builtin.max_]
theorem mn2_one {P : Program} {x y r : AV} {H H' : Heap} {n n' : Nat} {ρ : Rho} {x' y' : Value} (h : mn2 x y H n = some (r, H', n')) (hx : VRel ρ x x') (hy : VRel ρ y y') (w : World) :
    H' = H ∧ n' = n ∧ ∃ v, (Builtin.min2 x' y').run P w = .ok v w ∧ VRel ρ r v := by
  obtain ⟨h1, h2, v, h3, h4⟩ := mn2_sound (P := P) (ts := #[]) (ty := 0) h hx hy w
  refine ⟨h1, h2, v, ?_, h4⟩
  rw [← h3]; simp [Builtin.min_]
theorem fold2_sound {P : Program} {f : AV → AV → M AV} {g : Value → Value → Sem Value} {ρ : Rho} {w : World} (hf : ∀ {x y r : AV} {H H' : Heap} {n n' : Nat} {x' y' : Value}, f x y H n = some (r, H', n') → VRel ρ x x' → VRel ρ y y' → ∀ w, H' = H ∧ n' = n ∧ ∃ v, (g x' y').run P w = .ok v w ∧ VRel ρ r v) :
    ∀ (l : List AV) (l' : List Value) (x : AV) (x' : Value) (H : Heap) (n : Nat) {r : AV} {H' : Heap} {n' : Nat}, fold2 f x l H n = some (r, H', n') → VRel ρ x x' → VRels ρ l l' → H' = H ∧ n' = n ∧ ∃ v, (l'.foldlM g x').run P w = .ok v w ∧ VRel ρ r v
  | [], l', x, x', H, n, r, H', n', h, hx, hl => by
    cases hl
    obtain ⟨rfl, rfl, rfl⟩ := ret_some h
    exact ⟨rfl, rfl, x', rfl, hx⟩
  | y :: l, l', x, x', H, n, r, H', n', h, hx, hl => by
    cases hl with
    | cons _ y' _ l'' h1 h2 =>
    obtain ⟨v, H1, n1, h3, h4⟩ := bd_some h
    obtain ⟨rfl, rfl, v', h5, h6⟩ := hf h3 hx h1 w
    obtain ⟨rfl, rfl, u, h7, h8⟩ := fold2_sound (w := w) hf l l'' v v' H1 n1 h4 h6 h2
    exact ⟨rfl, rfl, u, by simp [h5, h7], h8⟩
theorem dbuiltin_sound {P : Program} {b : Builtin} {ts : Array TypeId} {ty : TypeId} {xs : List AV} {cs : Array Bool} {r : AV} {H H' : Heap} {n n' : Nat} {ρ : Rho} {xs' : Array Value} {w : World} (hs : Sim ρ H w) (h : dbuiltin P b ts.toList xs H n = some (r, H', n')) (hx : VRels ρ xs xs'.toList) :
    Does P (builtin b ts ty cs xs') w (Out ρ H w r H') := by
  obtain ⟨ts⟩ := ts
  obtain ⟨xs'⟩ := xs'
  simp only [List.toList_toArray] at h hx
  cases b with
  | len =>
    simp only [dbuiltin] at h
    unfold dlen at h
    split at h
    · rename_i t x
      cases hx with
      | cons _ x' _ _ hx1 hx2 =>
      cases hx2
      cases e : tyU P t with
      | string => simp only [e] at h; exact .pureV rfl hs (lnS_sound h (tyU_some e (by simp)) hx1 w)
      | slice el => simp only [e] at h; exact .pureV rfl hs (lnL_sound h (tyU_some e (by simp)) hx1 w)
      | map k el => simp only [e] at h; exact .pureV rfl hs (lnM_sound hs h (tyU_some e (by simp)) hx1)
      | _ => simp only [e] at h; exact (fail_some h).elim
    · exact (fail_some h).elim
  | append =>
    simp only [dbuiltin] at h
    unfold dapp at h
    split at h
    · rename_i t u x y
      obtain ⟨x', y', rfl, hx1, hx3⟩ := hx.two
      cases e : tyU P t with
      | slice el =>
        cases e2 : tyU P u with
        | slice el2 =>
          simp only [e, e2] at h
          obtain ⟨zv, hz, h2⟩ := wh_some h
          obtain ⟨h3, h4⟩ := cond_some h2
          rw [Bool.and_eq_true] at h3
          exact .outV rfl (app_sound hs (tyU_some e (by simp)) (.inl ⟨el2, tyU_some e2 (by simp)⟩) hz h3.1 h4 hx1 hx3)
        | string =>
          simp only [e, e2] at h
          obtain ⟨zv, hz, h2⟩ := wh_some h
          obtain ⟨h3, h4⟩ := cond_some h2
          rw [Bool.and_eq_true] at h3
          exact .outV rfl (app_sound hs (tyU_some e (by simp)) (.inr (tyU_some e2 (by simp))) hz h3.1 h4 hx1 hx3)
        | _ => simp only [e, e2] at h; exact (fail_some h).elim
      | _ => simp only [e] at h; exact (fail_some h).elim
    · exact (fail_some h).elim
  | max =>
    simp only [dbuiltin] at h
    obtain ⟨x, l, x', l', rfl, rfl, h2, hx1, hx3⟩ := many_some h hx
    exact .pureV rfl hs (fold2_sound (g := Builtin.max2) (fun h hx hy w => mx2_one h hx hy w) l l' _ _ _ _ h2 hx1 hx3)
  | min =>
    simp only [dbuiltin] at h
    obtain ⟨x, l, x', l', rfl, rfl, h2, hx1, hx3⟩ := many_some h hx
    exact .pureV rfl hs (fold2_sound (g := Builtin.min2) (fun h hx hy w => mn2_one h hx hy w) l l' _ _ _ _ h2 hx1 hx3)
  | cap =>
    simp only [dbuiltin] at h
    unfold dcap at h
    split at h
    · rename_i t x
      cases hx with
      | cons _ x' _ _ hx1 hx2 =>
      cases hx2
      cases e : tyU P t with
      | slice el => simp only [e] at h; exact .pureV rfl hs (cpN_sound h (tyU_some e (by simp)) hx1 w)
      | _ => simp only [e] at h; exact (fail_some h).elim
    · exact (fail_some h).elim
  | copy =>
    simp only [dbuiltin] at h
    unfold dcopy at h
    split at h
    · rename_i t u x y
      obtain ⟨x', y', rfl, hx1, hx3⟩ := hx.two
      cases e : tyU P t with
      | slice el =>
        simp only [e] at h
        obtain ⟨h1, h2⟩ := ncond_some h
        exact .outV rfl (cpy_sound hs h2 (tyU_some e (by simp)) (Nat.ne_of_beq_eq_false h1) hx1 hx3)
      | _ => simp only [e] at h; exact (fail_some h).elim
    · exact (fail_some h).elim
  | unsafeSliceData =>
    simp only [dbuiltin] at h
    unfold one at h
    split at h
    · rename_i x
      cases hx with
      | cons _ x' _ _ hx1 hx2 =>
      cases hx2
      exact .pureV rfl hs (usd_sound h hx1 w)
    · exact (fail_some h).elim
  | unsafeString =>
    simp only [dbuiltin] at h
    unfold dust at h
    split at h
    · rename_i t u x y
      obtain ⟨x', y', rfl, hx1, hx3⟩ := hx.two
      cases e : tyU P t with
      | pointer el =>
        simp only [e] at h
        cases e2 : tyU P el with
        | int k =>
          cases k <;> simp only [e2] at h <;> first
            | exact (fail_some h).elim
            | (obtain ⟨h1, h2⟩ := cond_some h
               rw [beq_eq, decide_eq_true_eq] at h1
               exact .outV rfl (ust_sound hs h2 (tyU_some e (by simp)) h1 hx1 hx3))
        | _ => simp only [e2] at h; exact (fail_some h).elim
      | _ => simp only [e] at h; exact (fail_some h).elim
    · exact (fail_some h).elim
  | _ => simp only [dbuiltin] at h; exact (fail_some h).elim
theorem calls_args {e' : Operand → Value} (l : Array Operand) : (l.map e').toList = l.toList.map e' := Array.toList_map ..
theorem invoke_func {f : FuncId} {args captured : Array Value} : invoke (.fn (.func f) captured) args = callFunc f (args ++ captured) := rfl
/-- A function value is called. -/
theorem apv_sound {P : Program} {G : Nat} {ap : FuncId → List AV → M AV} (hap : ApOK P G ap) {ρ : Rho} {H H' : Heap} {n n' : Nat} {w : World} {r x : AV} {xs : List AV} {x' : Value} {xs' : Array Value} (hs : Sim ρ H w) (hgl : Glob G ρ)
    (h : apv ap x xs H n = some (r, H', n')) (hx : VRel ρ x x') (ha : VRels ρ xs xs'.toList) : Does P (do let d ← Deferred.ofValue x' xs'; invoke d.target d.args) w (Out ρ H w r H') := by
  cases x with
  | func g a b =>
    simp only [apv] at h
    obtain ⟨h0, h⟩ := ncond_some h
    cases hx with
    | func _ _ _ fc fd h1 h2 =>
    have hr := hap.fn g _ (Nat.ne_of_beq_eq_false h0) H n r H' n' ρ w ((fc ++ xs') ++ fd) h hs hgl (by rw [Array.toList_append, Array.toList_append, List.append_assoc]; exact h1.append (ha.append h2))
    refine Does.run ?_ hr
    simp [Deferred.ofValue, invoke_func]
  | yld i =>
    simp only [apv] at h
    cases hx with
    | yld _ g hg =>
    refine Does.run ?_ (hap.yl i xs H n r H' n' ρ w xs' g h hs hgl hg ha)
    simp [Deferred.ofValue, invoke]
  | _ => simp only [apv] at h; exact (fail_some h).elim
theorem dcallee_sound {E : Env} (hE : EnvOK E) {c : Call} {ty : TypeId} {t : Tmps} {e' : Operand → Value} {r : AV} {H H' : Heap} {n n' : Nat} {ρ : Rho} {w : World} (hv : ∀ x, VRel ρ (ev E.ng t x) (e' x)) (hef : ∀ f, e' (.func f) = .func (.func f) #[] #[]) (hs : Sim ρ H w) (hgl : Glob E.ng ρ)
    (h : dcallee E c t H n = some (r, H', n')) : Does E.P (do let d ← resolve e' c ty; invoke d.target d.args) w (Out ρ H w r H') := by
  have ha : VRels ρ (c.args.toList.map (ev E.ng t)) (c.args.map e').toList := by rw [calls_args]; exact evs_rel hv _
  have hap : ∀ x, apv E.ap (ev E.ng t x) (c.args.toList.map (ev E.ng t)) H n = some (r, H', n') → c.callee = .value x → Does E.P (do let d ← resolve e' c ty; invoke d.target d.args) w (Out ρ H w r H') := by
    intro x h hc
    refine Does.run ?_ (apv_sound hE.ap hs hgl h (hv x) ha)
    simp [resolve, hc]
  cases hc : c.callee with
  | builtin b =>
    simp only [dcallee, hc] at h
    unfold resolve
    simp only [hc]
    exact dbuiltin_sound hs h ha
  | value x =>
    cases x with
    | func f =>
      simp only [dcallee, hc] at h
      have hr := hE.call f _ H n r H' n' ρ w (c.args.map e') h hs hgl ha
      refine Does.run ?_ hr
      simp [resolve, hc, hef, Deferred.ofValue, invoke_func]
    | tmp i => simp only [dcallee, hc] at h; exact hap _ h hc
    | const v => simp only [dcallee, hc] at h; exact hap _ h hc
    | global g => simp only [dcallee, hc] at h; exact hap _ h hc
  | invoke a b => simp only [dcallee, hc] at h; exact (fail_some h).elim
theorem dop_sound {E : Env} (hE : EnvOK E) {o : Oper} {t : Tmps} {e' : Operand → Value} {r : AV} {H H' : Heap} {n n' : Nat} {ρ : Rho} {w : World} (hv : ∀ x, VRel ρ (ev E.ng t x) (e' x)) (hef : ∀ f, e' (.func f) = .func (.func f) #[] #[]) (hs : Sim ρ H w) (hgl : Glob E.ng ρ)
    (h : dop E o.op t H n = some (r, H', n')) : Does E.P (execOp e' o) w (Out ρ H w r H') := by
  unfold execOp
  cases eo : o.op with
  | move x =>
    simp only [eo, dop] at h
    obtain ⟨rfl, rfl, rfl⟩ := ret_some h
    exact .value rfl (Out.same hs (hv x))
  | assign x =>
    simp only [eo, dop] at h
    obtain ⟨rfl, rfl, rfl⟩ := ret_some h
    exact .value rfl (Out.same hs (hv x))
  | pick c a b =>
    simp only [eo, dop] at h
    obtain ⟨rfl, rfl, v, h1, h2⟩ := pk_sound h (hv c) (hv a) (hv b) w
    exact .value h1 (Out.same hs h2)
  | alloc e =>
    simp only [eo, dop] at h
    obtain ⟨z, hz, h2⟩ := wh_some h
    exact .outV rfl (alloc_sound hs hz h2)
  | box e x =>
    simp only [eo, dop] at h
    exact .outV rfl (bx_sound hs h (hv x))
  | build ty ps =>
    simp only [eo, dop] at h
    obtain ⟨hp, h2⟩ := cond_some h
    obtain ⟨z, hz, h3⟩ := wh_some h2
    obtain ⟨l, hl, h4⟩ := wh_some h3
    exact .pureV rfl hs (bu_sound (qs := ps.map fun (i, x) => (i, e' x)) hp hz h4 (by rw [Array.toList_map]; exact partsA_rel hv _ _ hl) w)
  | buildSlice ty len ps =>
    simp only [eo, dop] at h
    cases e : tyU E.P ty with
    | slice el =>
      simp only [e] at h
      obtain ⟨z, hz, h3⟩ := wh_some h
      obtain ⟨hc, h4⟩ := cond_some h3
      rw [Bool.and_eq_true] at hc
      obtain ⟨l, hl, h5⟩ := wh_some h4
      obtain ⟨hc1, hc2⟩ := hc
      have hq : PRels ρ l (ps.map fun (i, x) => (i, e' x)).toList (fun i => some (i * tySz E.P el, tySz E.P el)) := by rw [Array.toList_map]; exact partsA_rel hv _ _ hl
      have hr := bsl_sound (P := E.P) (t := ty) (e := el) (len := len) hs (tyU_some e (by simp)) hz hc1 hc2 h5 hq
      exact .outV rfl hr
    | _ => simp only [e] at h; exact (fail_some h).elim
  | load ty a =>
    simp only [eo, dop] at h
    obtain ⟨hk, h2⟩ := cond_some h
    obtain ⟨k1, k2⟩ := known_some hk
    cases ha : tyAgg E.P ty with
    | true => rw [ha] at h2; exact .pureV rfl hs (lda_sound hs h2 (hv a) ha k1 k2)
    | false => rw [ha] at h2; exact .pureV rfl hs (ld_sound hs h2 (hv a) ha k2)
  | store ty a x =>
    simp only [eo, dop] at h
    obtain ⟨hk, h2⟩ := cond_some h
    obtain ⟨k1, k2⟩ := known_some hk
    cases ha : tyAgg E.P ty with
    | true => rw [ha] at h2; exact .unitV rfl (sta_sound hs h2 (hv a) (hv x) k1)
    | false =>
      rw [ha] at h2
      obtain ⟨hz, h3⟩ := cond_some h2
      rw [beq_eq, decide_eq_true_eq] at hz
      obtain ⟨i, hi, hsz⟩ := tySz_info (P := E.P) (t := ty) (by omega)
      exact .unitV rfl (st_sound hs h3 (hv a) (hv x) ⟨i, hi, by omega⟩)
  | nilCheck x =>
    simp only [eo, dop] at h
    obtain ⟨rfl, rfl, v, h1, h2⟩ := nck_sound h (hv x) o x eo e' rfl w
    simp only [execOp, eo] at h1
    exact .value h1 (Out.same hs h2)
  | binOp op ty x y c =>
    simp only [eo, dop] at h
    exact .pureV rfl hs (dbin_sound h (hv x) (hv y) x y)
  | unOp op ty x =>
    simp only [eo, dop] at h
    exact .pureV rfl hs (un_sound h (hv x) w)
  | convert s d x =>
    simp only [eo, dop] at h
    exact dconv_sound hs h (hv x)
  | makeFunc fn first captured =>
    simp only [eo, dop] at h
    cases fn with
    | func f =>
      simp only at h
      obtain ⟨rfl, rfl, rfl⟩ := ret_some h
      exact .value rfl (Out.same hs (.func _ _ _ _ _ (by rw [Array.toList_map]; exact evs_rel hv _) (by rw [Array.toList_map]; exact evs_rel hv _)))
    | _ => exact (fail_some h).elim
  | makeSlice ty l c =>
    simp only [eo, dop] at h
    cases e : tyU E.P ty with
    | slice el =>
      simp only [e] at h
      obtain ⟨z, hz, h3⟩ := wh_some h
      obtain ⟨hc, h4⟩ := cond_some h3
      exact .outV rfl (ms_sound hs (tyU_some e (by simp)) hz hc h4 (hv l) (hv c))
    | _ => simp only [e] at h; exact (fail_some h).elim
  | slice ty x lo hi mx =>
    simp only [eo, dop] at h
    cases mx with
    | some _ => exact (fail_some h).elim
    | none =>
      simp only at h
      cases e : tyU E.P ty with
      | string => simp only [e] at h; exact .pureV rfl hs (ss_sound h (hv x) (evo_rel hv lo) (evo_rel hv hi) (tyU_some e (by simp)) w)
      | slice el =>
        simp only [e] at h
        obtain ⟨hk, h2⟩ := cond_some h
        exact .pureV rfl hs (sls_sound h2 (hv x) (evo_rel hv lo) (evo_rel hv hi) (tyU_some e (by simp)) (known_some hk).1 w)
      | _ => simp only [e] at h; exact (fail_some h).elim
  | fieldAddr ty x i =>
    simp only [eo, dop] at h
    cases e : tyU E.P ty with
    | struct fs =>
      simp only [e] at h
      obtain ⟨f, hf, h2⟩ := wh_some h
      obtain ⟨h3, h4⟩ := ncond_some h2
      exact .pureV rfl hs (fa_sound h4 (hv x) (tyU_some e (by simp)) hf (Nat.ne_of_beq_eq_false h3) w)
    | _ => simp only [e] at h; exact (fail_some h).elim
  | field ty x i =>
    simp only [eo, dop] at h
    cases e : tyU E.P ty with
    | struct fs =>
      simp only [e] at h
      obtain ⟨f, hf, h2⟩ := wh_some h
      obtain ⟨hk, h3⟩ := cond_some h2
      obtain ⟨k1, k2⟩ := known_some hk
      cases ha : tyAgg E.P f.type with
      | true => rw [ha] at h3; exact .pureV rfl hs (fia_sound h3 (hv x) (tyU_some e (by simp)) hf ha k1 w)
      | false => rw [ha] at h3; exact .pureV rfl hs (fi_sound h3 (hv x) (tyU_some e (by simp)) hf ha k2 w)
    | _ => simp only [e] at h; exact (fail_some h).elim
  | indexAddr ty x i =>
    simp only [eo, dop] at h
    cases e : tyU E.P ty with
    | slice el =>
      simp only [e] at h
      obtain ⟨hk, h2⟩ := cond_some h
      exact .pureV rfl hs (ixp_sound h2 (hv x) (hv i) (tyU_some e (by simp)) (known_some hk).1 w)
    | array m el =>
      simp only [e] at h
      obtain ⟨hk, h2⟩ := cond_some h
      exact .pureV rfl hs (ixpa_sound h2 (hv x) (hv i) (tyU_some e (by simp)) (known_some hk).1 w)
    | _ => simp only [e] at h; exact (fail_some h).elim
  | index ty x i =>
    simp only [eo, dop] at h
    cases e : tyU E.P ty with
    | string => simp only [e] at h; exact .pureV rfl hs (ixs_sound h (hv x) (hv i) (tyU_some e (by simp)) w)
    | array m el =>
      simp only [e] at h
      obtain ⟨hk, h2⟩ := cond_some h
      rw [Bool.and_eq_true] at hk
      obtain ⟨ha, h3⟩ := ncond_some h2
      have hz := hk.1
      rw [beq_eq, decide_eq_true_eq] at hz
      exact .pureV rfl hs (ixa_sound h3 (hv x) (hv i) (tyU_some e (by simp)) hz ha (known_some hk.2).2 w)
    | _ => simp only [e] at h; exact (fail_some h).elim
  | range ty x =>
    simp only [eo, dop] at h
    cases e : tyU E.P ty with
    | string => simp only [e] at h; exact .outV rfl (rgs_sound hs h (tyU_some e (by simp)) (hv x))
    | _ => simp only [e] at h; exact (fail_some h).elim
  | next it b =>
    cases b with
    | true =>
      simp only [eo, dop] at h
      exact .outV rfl (nxs_sound hs h (hv it))
    | false => simp only [eo, dop] at h; exact (fail_some h).elim
  | extract x i =>
    simp only [eo, dop] at h
    exact .pureV rfl hs (ex_sound h (hv x) w)
  | call c =>
    simp only [eo, dop] at h
    exact dcallee_sound hE hv hef hs hgl h
  | _ => simp only [eo, dop] at h; exact (fail_some h).elim
end Go.Dn
