/- A PART OF THE PROOF. NO CONDITION. -/
import Derived.Test.YtgcedkklmmdabaaSxH
import Derived.Laws.Tables
import Derived.ChangeKeysEq
set_option linter.unusedSimpArgs false
set_option linter.unusedVariables false
set_option linter.unusedVariables false
set_option linter.unusedSimpArgs false
namespace Go.SX

/-! ### parts laid into an aggregate -/
/-- cells and what they are said to be -/
def Like (X : PH) (ρ : Rho) (cs : List SV) (zs : Array Value) : Prop :=
  zs.size = cs.length ∧ ∀ (i : Nat) (sv : SV), cs[i]? = some sv → ∃ v, zs[i]? = some v ∧ Rv X ρ sv v

theorem Like.agg {X : PH} {ρ : Rho} {cs : List SV} {zs : Array Value} (h : Like X ρ cs zs) : Rv X ρ (.agg cs) (.agg zs) :=
  .agg _ _ _ h.1 fun i sv v hi hv => by obtain ⟨u, hu, hr⟩ := h.2 i sv hi; rw [hv] at hu; cases hu; exact hr
theorem like_of_agg {X : PH} {ρ : Rho} {cs : List SV} {v : Value} (h : Rv X ρ (.agg cs) v) : ∃ zs, v = .agg zs ∧ Like X ρ cs zs := by
  cases h with
  | agg _ _ vs hs hh => exact ⟨vs, rfl, hs, fun i sv hi => by
      have : i < vs.size := by rw [hs]; exact (List.getElem?_eq_some_iff.1 hi).1
      exact ⟨vs[i], by simp [this], hh i sv _ hi (by simp [this])⟩⟩

theorem foldl_set (off : Nat) : ∀ (us : List Value) (k : Nat) (zs : Array Value) (j : Nat), off + k + us.length ≤ zs.size →
    ((us.zipIdx k).foldl (fun cs (p : Value × Nat) => cs.setIfInBounds (off + p.2) p.1) zs).size = zs.size ∧
    ((us.zipIdx k).foldl (fun cs (p : Value × Nat) => cs.setIfInBounds (off + p.2) p.1) zs)[j]? = if off + k ≤ j ∧ j < off + k + us.length then us[j - (off + k)]? else zs[j]?
  | [], k, zs, j, h => by simp; omega
  | u :: us, k, zs, j, h => by
    simp only [List.length_cons] at h
    simp only [List.zipIdx_cons, List.foldl_cons]
    obtain ⟨h1, h2⟩ := foldl_set off us (k + 1) (zs.setIfInBounds (off + k) u) j (by simp; omega)
    refine ⟨by rw [h1]; simp, ?_⟩
    rw [h2]
    by_cases hj : off + (k + 1) ≤ j ∧ j < off + (k + 1) + us.length
    · rw [if_pos hj, if_pos (by simp only [List.length_cons]; omega), show j - (off + k) = (j - (off + (k + 1))) + 1 by omega]
      simp
    · rw [if_neg hj]
      by_cases hji : j = off + k
      · subst hji
        rw [if_pos (by simp only [List.length_cons]; omega)]
        have : off + k < zs.size := by omega
        simp [this]
      · rw [if_neg (by simp only [List.length_cons]; omega), Array.getElem?_setIfInBounds, if_neg (fun e => hji e.symm)]

theorem fillS_sound {X : PH} {ρ : Rho} {cs cs' : List SV} {zs : Array Value} (hl : Like X ρ cs zs) {sv : SV} {v : Value} (hv : Rv X ρ sv v) {off size : Nat} (h : fillS off size sv cs = some cs') :
    v.cells.size = size ∧ off + v.cells.size ≤ zs.size ∧ Like X ρ cs' (v.cells.zipIdx.foldl (fun cs (c, j) => cs.setIfInBounds (off + j) c) zs) := by
  have main : ∀ vs : List SV, Like X ρ vs v.cells → vs.length = size → off + size ≤ cs.length → cs' = splice off vs cs →
      v.cells.size = size ∧ off + v.cells.size ≤ zs.size ∧ Like X ρ cs' (v.cells.zipIdx.foldl (fun cs (c, j) => cs.setIfInBounds (off + j) c) zs) := fun vs hvs hs hle he => by
    have hsz : v.cells.size = size := by rw [hvs.1, hs]
    refine ⟨hsz, by rw [hsz, hl.1]; exact hle, ?_⟩
    have hle2 : off + vs.length ≤ cs.length := by rw [hs]; exact hle
    rw [← Array.foldl_toList, Array.toList_zipIdx]
    have hb : off + 0 + v.cells.toList.length ≤ zs.size := by rw [Array.length_toList, hsz, hl.1]; omega
    refine ⟨by rw [(foldl_set off v.cells.toList 0 zs 0 hb).1, hl.1, he, splice_length hle2], fun i sv hi => ?_⟩
    rw [(foldl_set off v.cells.toList 0 zs i hb).2]
    rw [he, splice_get hle2] at hi
    by_cases hr : off ≤ i ∧ i < off + vs.length
    · rw [if_pos hr] at hi
      rw [if_pos (by rw [Array.length_toList, hsz]; omega)]
      obtain ⟨u, hu, hru⟩ := hvs.2 (i - off) sv hi
      exact ⟨u, by simpa using hu, hru⟩
    · rw [if_neg hr] at hi
      rw [if_neg (by rw [Array.length_toList, hsz]; omega)]
      exact hl.2 i sv hi
  have one : (match SX.oneC sv && Nat.beq 1 size, Nat.ble (off + 1) cs.length with | true, true => some (splice off [SX.normB sv] cs) | _, _ => none) = some cs' →
      v.cells.size = size ∧ off + v.cells.size ≤ zs.size ∧ Like X ρ cs' (v.cells.zipIdx.foldl (fun cs (c, j) => cs.setIfInBounds (off + j) c) zs) := fun h => by
    cases h1 : SX.oneC sv && Nat.beq 1 size with
    | false => simp only [h1] at h; cases h
    | true =>
      cases h2 : Nat.ble (off + 1) cs.length with
      | false => simp only [h1, h2] at h; cases h
      | true =>
        simp only [h1, h2, Option.some.injEq] at h
        rw [Bool.and_eq_true] at h1
        have hone := hv.oneC h1.1
        have hc : v.cells = #[v] := by cases v <;> first | rfl | (simp [Value.oneCell'] at hone)
        have hs := Nat.eq_of_beq_eq_true h1.2
        have hle := Nat.le_of_ble_eq_true h2
        refine main [SX.normB sv] ⟨by rw [hc]; rfl, fun i s hi => ?_⟩ hs (by omega) h.symm
        cases i with
        | zero => simp at hi; subst hi; exact ⟨v, by rw [hc]; rfl, hv.normB⟩
        | succ n => simp at hi
  cases sv with
  | agg c0 =>
    simp only [fillS] at h
    cases h1 : Nat.beq c0.length size with
    | false => simp only [h1] at h; cases h
    | true =>
      cases h2 : Nat.ble (off + size) cs.length with
      | false => simp only [h1, h2] at h; cases h
      | true =>
        simp only [h1, h2, Option.some.injEq] at h
        obtain ⟨zs2, e, hlike⟩ := like_of_agg hv
        cases e
        exact main c0 hlike (Nat.eq_of_beq_eq_true h1) (Nat.le_of_ble_eq_true h2) h.symm
  | _ => exact one h

theorem builds_sound {X : PH} {ρ : Rho} {r : Operand → SV} {ev : Operand → Value} (hev : ∀ x, Rv X ρ (r x) (ev x)) (place : Nat → Option (Nat × Nat)) :
    ∀ (l : List (Nat × Operand)) (cs cs' : List SV) (zs : Array Value), Like X ρ cs zs → builds place (l.map fun p => (p.1, r p.2)) cs = some cs' →
      ∃ zs', Instr.fill place zs (l.map fun p => (p.1, ev p.2)) = some zs' ∧ Like X ρ cs' zs'
  | [], cs, cs', zs, hl, h => by simp only [List.map_nil, builds, Option.some.injEq] at h; subst h; exact ⟨zs, rfl, hl⟩
  | (i, x) :: l, cs, cs', zs, hl, h => by
    simp only [List.map_cons, builds] at h
    cases hp : place i with
    | none => simp [hp] at h
    | some q =>
      obtain ⟨off, size⟩ := q
      simp only [hp] at h
      cases hf : fillS off size (r x) cs with
      | none => simp [hf] at h
      | some c1 =>
        simp only [hf] at h
        obtain ⟨h1, h2, h3⟩ := fillS_sound hl (hev x) hf
        obtain ⟨zs', h4, h5⟩ := builds_sound hev place l c1 cs' _ h3 h
        refine ⟨zs', ?_, h5⟩
        simp only [List.map_cons, Instr.fill, hp]
        rw [if_neg (by simp [h1]; omega)]
        exact h4

theorem placesOf_sound {P : Program} {E : Env} (hE : ∀ t ti, E.ty t = some ti → TyOk P t ti) : ∀ (fs : List Field) (pl : List (Nat × Nat)), placesOf E fs = some pl →
    fs.mapM (fun f => (P.info? f.type).map fun i => (f.offset, i.size)) = some pl
  | [], pl, h => by simp only [placesOf, Option.some.injEq] at h; subst h; rfl
  | f :: fs, pl, h => by
    simp only [placesOf] at h
    cases h1 : E.ty f.type with
    | none => simp [h1] at h
    | some ti =>
      cases h2 : placesOf E fs with
      | none => simp [h1, h2] at h
      | some r =>
        simp only [h1, h2, Option.some.injEq] at h
        subst h
        obtain ⟨i, z, g1, g2, _⟩ := (hE _ _ h1).info
        have ih := placesOf_sound hE fs r h2
        simp [List.mapM_cons, g1, g2, ih]

theorem like_zero {X : PH} {ρ : Rho} (z : Value) : Like X ρ (z.cells.toList.map SV.val) z.cells := by
  refine ⟨by simp, fun i sv hi => ?_⟩
  rw [List.getElem?_map] at hi
  obtain ⟨v, hv, rfl⟩ := Option.map_eq_some_iff.1 hi
  exact ⟨v, by simpa using hv, .val _ _⟩

theorem reps_get : ∀ (n : Nat) (z : List SV) (i : Nat) (sv : SV), (reps n z)[i]? = some sv → i < n * z.length ∧ z[i % z.length]? = some sv
  | 0, z, i, sv, h => by simp [reps] at h
  | n + 1, z, i, sv, h => by
    simp only [reps] at h
    by_cases hi : i < z.length
    · rw [List.getElem?_append_left hi] at h
      rw [Nat.mod_eq_of_lt hi]
      exact ⟨by rw [Nat.add_mul]; omega, h⟩
    · rw [List.getElem?_append_right (by omega)] at h
      obtain ⟨h1, h2⟩ := reps_get n z (i - z.length) sv h
      refine ⟨by rw [Nat.add_mul]; omega, ?_⟩
      rw [← Nat.mod_eq_sub_mod (by omega)] at h2
      exact h2
theorem reps_length : ∀ (n : Nat) (z : List SV), (reps n z).length = n * z.length
  | 0, z => by simp [reps]
  | n + 1, z => by simp [reps, reps_length n z, Nat.add_mul, Nat.add_comm]

/-! ### '==' -/
theorem part_sound {P : Program} {t : Nat} {ti : TI} (ht : TyOk P t ti) {X : PH} {ρ : Rho} {w : World} {cs : List SV} {vs : Array Value} (hl : Like X ρ cs vs) {off : Nat} {sv : SV}
    (h : loadSV ti (cs.drop off) = some sv) : ∃ v, (part t vs off).run P w = .ok v w ∧ Rv X ρ sv v := by
  unfold loadSV at h
  cases ha : isAggD ti.desc with
  | true =>
    simp only [ha] at h
    cases hr : takeN ti.size (cs.drop off) with
    | none => simp [hr] at h
    | some r =>
      simp only [hr, Option.some.injEq] at h
      subst h
      obtain ⟨h1, h2⟩ := takeN_spec _ _ _ hr
      refine ⟨.agg (vs.extract off (off + ti.size)), by simp [part, ht.run_isAgg, ht.run_sizeOf, ha], Like.agg ⟨?_, fun i s hi => ?_⟩⟩
      · have : ∀ i, i < r.length → off + i < vs.size := fun i hi => by
          have := h2 i r[i] (by simp [hi])
          rw [List.getElem?_drop] at this
          rw [hl.1]; exact (List.getElem?_eq_some_iff.1 this).1
        rw [Array.size_extract, h1]
        by_cases h0 : ti.size = 0
        · omega
        · have := this (ti.size - 1) (by omega); omega
      · have := h2 i s hi
        rw [List.getElem?_drop] at this
        obtain ⟨u, hu, hru⟩ := hl.2 _ _ this
        refine ⟨u, ?_, hru⟩
        have hi' : i < ti.size := by rw [← h1]; exact (List.getElem?_eq_some_iff.1 hi).1
        rw [Array.getElem?_extract]
        have hlt : off + i < vs.size := (Array.getElem?_eq_some_iff.1 hu).1
        rw [if_pos (by omega)]; exact hu
  | false =>
    simp only [ha] at h
    cases hc : cs.drop off with
    | nil => simp [hc] at h
    | cons c q =>
      simp only [hc, Option.some.injEq] at h
      subst h
      have h0 : (cs.drop off)[0]? = some c := by rw [hc]; rfl
      rw [List.getElem?_drop] at h0
      obtain ⟨u, hu, hru⟩ := hl.2 _ _ h0
      refine ⟨u, ?_, hru⟩
      simp only [Nat.add_zero] at hu
      simp [part, ht.run_isAgg, ha, hu]

theorem rv_bool {X : PH} {ρ : Rho} {sv : SV} {v : Value} (h : Rv X ρ sv v) {b : Bool} (hb : asB sv = some b) : v = .bool b := by
  cases h with
  | tt => cases hb; rfl
  | ff => cases hb; rfl
  | val _ v => cases v <;> first | (cases hb; rfl) | (exact absurd hb (by simp [asB]))
  | _ => exact absurd hb (by simp [asB])

theorem eqTy_sound {P : Program} {E : Env} (hE : ∀ t ti, E.ty t = some ti → TyOk P t ti) {X : PH} {ρ : Rho} : ∀ (n d t : Nat) (a b : SV) (va vb : Value) (w : World) (r : Bool), n ≤ d → Rv X ρ a va → Rv X ρ b vb →
    eqTy E n t a b = some r → (Op.equalIn d t va vb).run P w = .ok r w
  | 0, d, t, a, b, va, vb, w, r, _, _, _, h => by simp [eqTy] at h
  | n + 1, d, t, a, b, va, vb, w, r, hd, ha, hb, h => by
    obtain ⟨d, rfl⟩ : ∃ q, d = q + 1 := ⟨d - 1, by omega⟩
    simp only [eqTy] at h
    cases ht : E.ty t with
    | none => simp [ht] at h
    | some ti =>
      have hok := hE _ _ ht
      have hund := hok.und
      simp only [ht] at h
      cases hdesc : ti.desc <;> simp only [hdesc] at h <;> try (cases h; done)
      case int k =>
        rw [hdesc] at hund
        cases ha with
        | val =>
          cases hb with
          | val =>
            cases va <;> try (simp at h; done)
            cases vb <;> try (simp at h; done)
            rename_i k1 x k2 y
            simp only at h
            cases hk : kEq k1 k2 with
            | false => simp only [hk] at h; cases h
            | true =>
              simp only [hk, Option.some.injEq] at h
              subst h
              have : k1 = k2 := by cases k1 <;> cases k2 <;> first | rfl | (simp [kEq] at hk)
              subst this
              exact run_equalIn_int w d t k1 k x y hund
          | _ => simp at h
        | _ => simp at h
      case bool =>
        rw [hdesc] at hund
        cases h1 : asB a with
        | none => simp [h1] at h
        | some x =>
          cases h2 : asB b with
          | none => simp [h1, h2] at h
          | some y =>
            simp only [h1, h2, Option.some.injEq] at h
            subst h
            rw [rv_bool ha h1, rv_bool hb h2]
            exact run_equalIn_bool w d t x y hund
      case struct fs =>
        rw [hdesc] at hund
        cases a <;> try (simp at h; done)
        cases b <;> try (simp at h; done)
        rename_i xs ys
        cases hq : ti.eqk with
        | false => simp only [hq] at h; cases h
        | true =>
          simp only [hq] at h
          obtain ⟨vx, rfl, hlx⟩ := like_of_agg ha
          obtain ⟨vy, rfl, hly⟩ := like_of_agg hb
          have hfs : P.fieldsOf t = fs := by simp [Program.fieldsOf, hund]
          rw [run_equalIn_struct w d t vx vy (by rw [hfs]; exact hund) (hok.eqk hq).1, hfs]
          generalize fs.toList = l at h
          clear hund hfs hdesc
          induction l generalizing r with
          | nil => simp only [List.foldr_nil, Option.some.injEq] at h; subst h; simp [Op.eqFields]
          | cons f l ih =>
            simp only [List.foldr_cons] at h
            cases hf : E.ty f.type with
            | none => simp [hf] at h
            | some fi =>
              cases hn : decide (f.name = "_") with
              | true => simp only [hf, hn] at h; cases h
              | false =>
                have hn' : f.name ≠ "_" := by simpa using hn
                simp only [hf, hn] at h
                revert h
                generalize hacc : List.foldr _ (some true) l = acc
                intro h
                cases acc with
                | none => simp at h
                | some r0 =>
                  simp only at h
                  split at h
                  · rename_i u v hu hv
                    cases hc : eqTy E n f.type u v with
                    | none => simp [hc] at h
                    | some c =>
                      simp only [hc, Option.some.injEq] at h
                      subst h
                      obtain ⟨pu, hpu, hru⟩ := part_sound (w := w) (hE _ _ hf) hlx hu
                      obtain ⟨pv, hpv, hrv⟩ := part_sound (w := w) (hE _ _ hf) hly hv
                      have heq := eqTy_sound hE n d f.type u v pu pv w c (by omega) hru hrv hc
                      have ih' := ih _ hacc
                      simp only [Op.eqFields, if_pos hn', Sem.run_bind, hpu, hpv, heq, Result.andThen_ok, Sem.run_ite]
                      cases c with
                      | true => simpa using ih'
                      | false => simp
                  · cases h
      case array len e =>
        rw [hdesc] at hund
        cases a <;> try (simp at h; done)
        cases b <;> try (simp at h; done)
        rename_i xs ys
        cases he : E.ty e with
        | none => simp [he] at h
        | some te =>
          simp only [he] at h
          obtain ⟨vx, rfl, hlx⟩ := like_of_agg ha
          obtain ⟨vy, rfl, hly⟩ := like_of_agg hb
          have hte := hE _ _ he
          obtain ⟨ie, ze, g1, g2, g3⟩ := hte.info
          have hcells : P.cellsOf e = te.size := by simp [Program.cellsOf, g1, g2]
          rw [run_equalIn_array w d vx vy hund g1, hcells]
          generalize List.range len = l at h
          clear hund hdesc
          induction l generalizing r with
          | nil => simp only [List.foldr_nil, Option.some.injEq] at h; subst h; simp [Op.eqItems]
          | cons j l ih =>
            simp only [List.foldr_cons] at h
            revert h
            generalize hacc : List.foldr _ (some true) l = acc
            intro h
            cases acc with
            | none => simp at h
            | some r0 =>
              simp only at h
              split at h
              · rename_i u v hu hv
                cases hc : eqTy E n e u v with
                | none => simp [hc] at h
                | some c =>
                  simp only [hc, Option.some.injEq] at h
                  subst h
                  obtain ⟨pu, hpu, hru⟩ := part_sound (w := w) hte hlx hu
                  obtain ⟨pv, hpv, hrv⟩ := part_sound (w := w) hte hly hv
                  have heq := eqTy_sound hE n d e u v pu pv w c (by omega) hru hrv hc
                  have ih' := ih _ hacc
                  simp only [Op.eqItems, Sem.run_bind, hpu, hpv, heq, Result.andThen_ok, Sem.run_ite]
                  cases c with
                  | true => simpa using ih'
                  | false => simp
              · cases h
end Go.SX
