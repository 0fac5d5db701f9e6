/- A PART OF THE PROOF. NO CONDITION. -/
import Derived.Test.YtgcedkklmmdabaaSxC
import Derived.Laws.Cells
set_option linter.unusedVariables false
set_option linter.unusedSimpArgs false
namespace Go.SX

/-! ### types -/
structure TyOk (P : Program) (t : Nat) (ti : TI) : Prop where
  und : P.underlying t = some ti.desc
  info : ∃ i z, P.info? t = some i ∧ i.size = ti.size ∧ i.bytes = ti.bytes ∧ i.zero = some z ∧ z.cells.toList = ti.zero
  len : ti.zero.length = ti.size
  one : ∀ v ∈ ti.zero, v.oneCell' = true
  flat : ∀ i z, P.info? t = some i → i.zero = some z → isAggD ti.desc = false → z.oneCell' = true
  eqk : ti.eqk = true → P.stoodInHeld t = false ∧ P.eqGuardType P.depth t = false

theorem tyP_ok {P : Program} {t : Nat} {ti : TI} (h : tyP P t = some ti) : TyOk P t ti := by
  unfold tyP at h
  cases h1 : P.underlying t with
  | none => simp [h1] at h
  | some d =>
    cases h2 : P.info? t with
    | none => simp [h1, h2] at h
    | some i =>
      simp only [h1, h2] at h
      cases h3 : i.zero with
      | none => simp [h3] at h
      | some z =>
        simp only [h3] at h
        cases h4 : Nat.beq z.cells.toList.length i.size with
        | false => simp only [h4] at h; cases h
        | true =>
          cases h5 : z.cells.toList.all Value.oneCell' && (isAggD d || z.oneCell') with
          | false => simp only [h4, h5] at h; cases h
          | true =>
            simp only [h4, h5, Option.some.injEq] at h
            subst h
            rw [Bool.and_eq_true, Bool.or_eq_true] at h5
            exact ⟨h1, ⟨i, z, h2, rfl, rfl, h3, rfl⟩, Nat.eq_of_beq_eq_true h4, fun v hv => List.all_eq_true.1 h5.1 v hv, fun i' z' hi hz hd => by rw [h2] at hi; cases hi; rw [h3] at hz; cases hz; exact h5.2.resolve_left (by rw [show isAggD d = false from hd]; simp), fun he => by simpa using he⟩

section runs
variable {P : Program} {t : Nat} {ti : TI} (ht : TyOk P t ti) (w : World)
include ht
theorem TyOk.run_underlying : (underlying t).run P w = .ok ti.desc w := by simp [underlying, ht.und]
theorem TyOk.run_sizeOf : (sizeOf t).run P w = .ok ti.size w := by
  obtain ⟨i, z, h1, h2, _⟩ := ht.info
  simp [sizeOf, typeInfo, h1, h2]
theorem TyOk.run_isAgg : (isAgg t).run P w = .ok (isAggD ti.desc) w := by
  simp only [isAgg, Sem.run_bind, ht.run_underlying, Result.andThen]
  cases ti.desc <;> rfl
theorem TyOk.run_zero : ∃ z, (zeroValue t).run P w = .ok z w ∧ z.cells.toList = ti.zero := by
  obtain ⟨i, z, h1, h2, h3, h4, h5⟩ := ht.info
  exact ⟨z, by simp [zeroValue, typeInfo, h1, h4], h5⟩
theorem TyOk.run_zero1 (hd : isAggD ti.desc = false) : ∃ z, (zeroValue t).run P w = .ok z w ∧ [z] = ti.zero := by
  obtain ⟨i, z, h1, h2, h3, h4, h5⟩ := ht.info
  refine ⟨z, by simp [zeroValue, typeInfo, h1, h4], ?_⟩
  have := ht.flat i z h1 h4 hd
  rw [← h5]
  cases z <;> first | rfl | (simp [Value.oneCell'] at this)
theorem TyOk.run_info : ∃ i z, (typeInfo t).run P w = .ok i w ∧ i.size = ti.size ∧ i.bytes = ti.bytes ∧ i.zero = some z ∧ z.cells.toList = ti.zero := by
  obtain ⟨i, z, h1, h2, h3, h4, h5⟩ := ht.info
  exact ⟨i, z, by simp [typeInfo, h1], h2, h3, h4, h5⟩
end runs

/-! ### lists of cells -/
theorem choose_list {α β : Type} {R : Nat → α → β → Prop} : ∀ (cs : List α) (off : Nat), (∀ i a, cs[i]? = some a → ∃ v, R (off + i) a v) →
    ∃ vs : List β, vs.length = cs.length ∧ ∀ i a v, cs[i]? = some a → vs[i]? = some v → R (off + i) a v
  | [], off, _ => ⟨[], rfl, fun i a v h => by simp at h⟩
  | c :: cs, off, h => by
    obtain ⟨v, hv⟩ := h 0 c rfl
    obtain ⟨vs, hl, hvs⟩ := choose_list cs (off + 1) (fun i a ha => by have := h (i + 1) a (by simpa using ha); rwa [show off + (i + 1) = off + 1 + i by omega] at this)
    refine ⟨v :: vs, by simp [hl], fun i a u ha hu => ?_⟩
    cases i with
    | zero => simp at ha hu; subst ha; subst hu; exact hv
    | succ n => simp at ha hu; have := hvs n a u ha hu; rwa [show off + 1 + n = off + (n + 1) by omega] at this

theorem choose_list1 {α : Type 1} {β : Type} {R : Nat → α → β → Prop} : ∀ (cs : List α) (off : Nat), (∀ i a, cs[i]? = some a → ∃ v, R (off + i) a v) →
    ∃ vs : List β, vs.length = cs.length ∧ ∀ i a v, cs[i]? = some a → vs[i]? = some v → R (off + i) a v
  | [], off, _ => ⟨[], rfl, fun i a v h => by simp at h⟩
  | c :: cs, off, h => by
    obtain ⟨v, hv⟩ := h 0 c rfl
    obtain ⟨vs, hl, hvs⟩ := choose_list1 cs (off + 1) (fun i a ha => by have := h (i + 1) a (by simpa using ha); rwa [show off + (i + 1) = off + 1 + i by omega] at this)
    refine ⟨v :: vs, by simp [hl], fun i a u ha hu => ?_⟩
    cases i with
    | zero => simp at ha hu; subst ha; subst hu; exact hv
    | succ n => simp at ha hu; have := hvs n a u ha hu; rwa [show off + 1 + n = off + (n + 1) by omega] at this

theorem takeN_spec : ∀ (n : Nat) (cs r : List SV), takeN n cs = some r → r.length = n ∧ ∀ (i : Nat) (sv : SV), r[i]? = some sv → cs[i]? = some sv
  | 0, cs, r, h => by simp [takeN] at h; subst h; simp
  | n + 1, [], r, h => by simp [takeN] at h
  | n + 1, x :: xs, r, h => by
    simp only [takeN] at h
    cases hr : takeN n xs with
    | none => simp [hr] at h
    | some r' =>
      simp only [hr, Option.some.injEq] at h
      subst h
      obtain ⟨h1, h2⟩ := takeN_spec n xs r' hr
      refine ⟨by simp [h1], fun i sv hi => ?_⟩
      cases i with
      | zero => simpa using hi
      | succ m => simp at hi ⊢; exact h2 m sv hi

theorem addr_add (b off i : Nat) : (⟨b, off, none⟩ : Addr).add i = ⟨b, off + i, none⟩ := by
  unfold Addr.add
  split
  · rename_i h; subst h; rfl
  · rfl

/-- a load of a variable -/
theorem load_sound {P : Program} {t : Nat} {ti : TI} (ht : TyOk P t ti) {X : PH} {ρ : Rho} {w : World} {b off : Nat} {cs : List SV} (hc : CellsAt X ρ w b off cs)
    {sv : SV} (h : loadSV ti cs = some sv) : ∃ v, (loadVar t ⟨b, off, none⟩).run P w = .ok v w ∧ Rv X ρ sv v := by
  unfold loadSV at h
  cases ha : isAggD ti.desc with
  | true =>
    simp only [ha] at h
    cases hr : takeN ti.size cs with
    | none => simp [hr] at h
    | some r =>
      simp only [hr, Option.some.injEq] at h
      subst h
      obtain ⟨hl, hcs⟩ := takeN_spec _ _ _ hr
      obtain ⟨vs, hvl, hvs⟩ := choose_list1 (R := fun i a v => w.cell? ⟨b, off + i, none⟩ = some v ∧ Rv X ρ a v) r 0 (fun i a hi => by simpa using hc i a (hcs i a hi))
      refine ⟨.agg vs.toArray, ?_, .agg _ _ _ (by simp [hvl]) fun i sv v hi hv => by have := (hvs i sv v hi (by simpa using hv)).2; exact this⟩
      simp only [loadVar, Sem.run_bind, ht.run_isAgg, Result.andThen, ha, if_true, ht.run_sizeOf]
      have : ti.size = vs.length := by rw [hvl, hl]
      rw [this, run_loadCells_list w ⟨b, off, none⟩ vs (fun j v hj => by
        rw [addr_add]
        obtain ⟨a, ha⟩ : ∃ a, r[j]? = some a := by
          have : j < r.length := by rw [← hvl]; exact (List.getElem?_eq_some_iff.1 hj).1
          exact ⟨r[j], by simp [this]⟩
        have := (hvs j a v ha hj).1
        simpa using this)]
      simp
  | false =>
    simp only [ha] at h
    cases cs with
    | nil => simp at h
    | cons c r =>
      simp only [Option.some.injEq] at h
      subst h
      obtain ⟨v, h1, h2⟩ := hc 0 c rfl
      refine ⟨v, ?_, h2⟩
      simp only [loadVar, Sem.run_bind, ht.run_isAgg, Result.andThen, ha, Bool.false_eq_true, if_false, run_load]
      simp only [Nat.add_zero] at h1
      rw [h1]

/-- the cells of a value that is to be stored -/
theorem cells_sound {ti : TI} {X : PH} {ρ : Rho} {sv : SV} {v : Value} (hv : Rv X ρ sv v) {cs : List SV} (h : cellsSV ti sv = some cs) :
    cs.length = ti.size ∧ v.cells.size = ti.size ∧ (∀ (i : Nat) (s : SV) (u : Value), cs[i]? = some s → v.cells[i]? = some u → Rv X ρ s u) ∧ ∀ u ∈ v.cells.toList, u.oneCell' = true := by
  unfold cellsSV at h
  cases ha : isAggD ti.desc with
  | true =>
    simp only [ha] at h
    cases sv with
    | agg c0 =>
      simp only at h
      cases h1 : allOne c0 with
      | false => simp [h1] at h
      | true =>
        cases h2 : Nat.beq c0.length ti.size with
        | false => simp [h1, h2] at h
        | true =>
          simp only [h1, h2, Option.some.injEq] at h
          subst h
          cases hv with
          | agg _ _ vs hs hh =>
            have hlen := Nat.eq_of_beq_eq_true h2
            refine ⟨hlen, by simp only [Value.cells]; omega, fun i s u hi hu => hh i s u hi hu, fun u hu => ?_⟩
            obtain ⟨i, hi, rfl⟩ := List.mem_iff_getElem.1 hu
            simp only [Value.cells, Array.length_toList] at hi
            have hi' : i < c0.length := by omega
            have hone : ∀ (l : List SV), allOne l = true → ∀ s ∈ l, oneC s = true := by
              intro l
              induction l with
              | nil => intro _ s hs; cases hs
              | cons x r ih =>
                intro hx s hs
                simp only [allOne] at hx
                cases hx1 : oneC x with
                | false => simp [hx1] at hx
                | true =>
                  simp only [hx1] at hx
                  rcases List.mem_cons.1 hs with rfl | hs
                  · exact hx1
                  · exact ih hx s hs
            exact (hh i c0[i] _ (by simp [hi']) (by simp [Value.cells, hi])).oneC (hone c0 h1 _ (List.getElem_mem _))
    | _ => simp at h
  | false =>
    simp only [ha] at h
    cases h1 : oneC sv with
    | false => simp [h1] at h
    | true =>
      cases h2 : Nat.beq 1 ti.size with
      | false => simp [h1, h2] at h
      | true =>
        simp only [h1, h2, Option.some.injEq] at h
        subst h
        have hone := hv.oneC h1
        have hvc : v.cells = #[v] := by cases v <;> first | rfl | (simp [Value.oneCell'] at hone)
        have hsz := Nat.eq_of_beq_eq_true h2
        refine ⟨hsz, by rw [hvc]; exact hsz, fun i s u hi hu => ?_, fun u hu => ?_⟩
        · rw [hvc] at hu
          cases i with
          | zero => simp at hi hu; subst hi; subst hu; exact hv.normB
          | succ n => simp at hi
        · rw [hvc] at hu; simp at hu; subst hu; exact hone

theorem splice_get {off : Nat} {vs cs : List SV} (h : off + vs.length ≤ cs.length) (i : Nat) :
    (splice off vs cs)[i]? = if off ≤ i ∧ i < off + vs.length then vs[i - off]? else cs[i]? := by
  unfold splice
  rw [List.append_assoc, List.getElem?_append, List.length_take, Nat.min_eq_left (by omega)]
  by_cases h1 : i < off
  · rw [if_pos h1, List.getElem?_take, if_pos h1, if_neg (by omega)]
  · rw [if_neg h1, List.getElem?_append]
    by_cases h2 : i - off < vs.length
    · rw [if_pos h2, if_pos (by omega)]
    · rw [if_neg h2, if_neg (by omega), List.getElem?_drop]
      congr 1; omega
theorem splice_length {off : Nat} {vs cs : List SV} (h : off + vs.length ≤ cs.length) : (splice off vs cs).length = cs.length := by
  unfold splice; simp; omega

/-- so many cells written into a block -/
def writes (c : Array Value) (off : Nat) (us : List Value) : Array Value := us.zipIdx.foldl (fun c p => c.setIfInBounds (off + p.2) p.1) c

theorem run_storeCells {P : Program} : ∀ (us : List Value) (w : World) (b off i : Nat) (c : Array Value) (ty : TypeId), w.heap[b]? = some (.cells c ty (0, 0)) → (∀ u ∈ us, u.oneCell' = true) → off + i + us.length ≤ c.size →
    ∃ w' c', (storeCells ⟨b, off, none⟩ us i).run P w = .ok () w' ∧ w'.heap[b]? = some (.cells c' ty (0, 0)) ∧ c'.size = c.size ∧ (Fr w w' ∧ ∀ k, k ≠ b → w'.heap[k]? = w.heap[k]?) ∧
      ∀ j, c'[j]? = if off + i ≤ j ∧ j < off + i + us.length then us[j - (off + i)]? else c[j]?
  | [], w, b, off, i, c, ty, hb, _, _ => ⟨w, c, rfl, hb, rfl, ⟨Fr.refl _, fun _ _ => rfl⟩, fun j => by simp; omega⟩
  | u :: us, w, b, off, i, c, ty, hb, ho, hl => by
    simp only [List.length_cons] at hl
    have hcell : w.cell? ⟨b, off + i, none⟩ = some (c[off + i]'(by omega)) := by
      rw [cell_of_heap hb]; simp
    have hfr : w.frozen? ⟨b, off + i, none⟩ = false := frozen_of_row w b _ c ty hb
    have hset := heap_setCell_same w b (off + i) c ty u hb
    obtain ⟨w', c', h1, h2, h3, h4, h5⟩ := run_storeCells (P := P) us (w.setCell ⟨b, off + i, none⟩ u) b off (i + 1) (c.setIfInBounds (off + i) u) ty hset (fun v hv => ho v (List.mem_cons_of_mem _ hv)) (by simp; omega)
    refine ⟨w', c', ?_, h2, by simpa using h3, ⟨(Fr.setCell _ _ _).trans h4.1, fun k hk => ?_⟩, fun j => ?_⟩
    · simp only [storeCells, Sem.run_bind, addr_add, run_store P w _ u .plain (ho u List.mem_cons_self), hcell, hfr, Bool.false_eq_true, if_false, Result.andThen, h1]
    · rw [h4.2 k hk, heap_setCell_other w ⟨b, off + i, none⟩ k u hk]
    · rw [h5 j]
      by_cases hj : off + (i + 1) ≤ j ∧ j < off + (i + 1) + us.length
      · rw [if_pos hj, if_pos (by simp only [List.length_cons]; omega)]
        rw [show j - (off + i) = (j - (off + (i + 1))) + 1 by omega]
        simp
      · rw [if_neg hj]
        by_cases hji : j = off + i
        · subst hji
          rw [if_pos (by simp only [List.length_cons]; omega)]
          have : off + i < c.size := by omega
          simp [this]
        · rw [if_neg (by simp only [List.length_cons]; omega)]
          rw [Array.getElem?_setIfInBounds, if_neg (fun e => hji e.symm)]
end Go.SX
