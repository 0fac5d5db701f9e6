/- A PART OF THE PROOF. NO CONDITION. -/
import Derived.Test.YtgcedkklmmdabaaSxX
set_option linter.unusedSimpArgs false
set_option linter.unusedVariables false
set_option linter.unusedVariables false
set_option linter.unusedSimpArgs false
namespace Go.SX

def resOne (tmps : Array Value) : ResultVar → Sem Value
  | .tmp t => pure (tmps.getD t undef)
  | .cell a t => do loadVar t (← asAddr (tmps.getD a undef))
theorem results_eq (fn : Func) (tmps : Array Value) : results fn tmps = (do let vs ← fn.results.mapM (resOne tmps); pure (if h : vs.size = 1 then vs[0] else .tuple vs)) := by
  unfold results
  congr 2

theorem resSV_sound {P : Program} {E : Env} (hE : EnvOk P E) {X : PH} {ρ : Rho} {ts : List SV} {B : Bl} {w : World} {tmps : Array Value} (hm : Mem X ρ B w) (hs : ∀ i, Rv X ρ (getSlot ts i) (tmps.getD i undef)) :
    ∀ (rs : List ResultVar) (K : List SV → Prop), resSV E ts B rs K → ∃ (svs : List SV) (vs : List Value), K svs ∧ vs.length = svs.length ∧ (∀ (i : Nat) sv v, svs[i]? = some sv → vs[i]? = some v → Rv X ρ sv v) ∧
      ((rs.mapM (resOne tmps)).run P w) = Result.ok vs w
  | [], K, h => ⟨[], [], h, rfl, fun i sv v hi => by simp at hi, rfl⟩
  | .tmp t :: r, K, h => by
    obtain ⟨svs, vs, hK, hl, hr, hrun⟩ := resSV_sound hE hm hs r _ h
    refine ⟨_, tmps.getD t undef :: vs, hK, by simp [hl], fun i sv v hi hv => ?_, ?_⟩
    · cases i with
      | zero => simp at hi hv; subst hi; subst hv; simpa using hs t
      | succ i => exact hr i sv v (by simpa using hi) (by simpa using hv)
    · simp only [List.mapM_cons, resOne, Sem.run_bind, Sem.run_pure, Result.andThen_ok, hrun]
  | .cell a t :: r, K, h => by
    simp only [resSV] at h
    cases ht : E.ty t with
    | none => simp [ht] at h
    | some ti =>
      simp only [ht] at h
      obtain ⟨b, off, cs, hv, h, hcs⟩ := atAddr_sound hm (hs a) h
      cases hl : loadSV ti cs with
      | none => simp [hl] at h
      | some sv =>
        simp only [hl] at h
        obtain ⟨v, hrun1, hrv⟩ := load_sound (hE.ty t ti ht) hcs hl
        obtain ⟨svs, vs, hK, hl, hr, hrun⟩ := resSV_sound hE hm hs r _ h
        refine ⟨_, v :: vs, hK, by simp [hl], fun i sv v hi hv => ?_, ?_⟩
        · cases i with
          | zero => simp at hi hv; subst hi; subst hv; exact hrv
          | succ i => exact hr i sv v (by simpa using hi) (by simpa using hv)
        · simp only [List.mapM_cons, resOne, Sem.run_bind, Sem.run_pure, Result.andThen_ok, hv, asAddr, hrun1, hrun]

theorem retSV_sound {P : Program} {E : Env} (hE : EnvOk P E) {X : PH} {ρ : Rho} {st : St} {a : Act} {w : World} (hm : Mem X ρ st.blks w) (hs : ∀ i, Rv X ρ (getSlot st.tmps i) (a.tmps.getD i undef)) {fn : Func} {K : SV → Bl → Prop}
    (h : retSV E fn.results.toList st K) : ∃ sv v, (results fn a.tmps).run P w = .ok v w ∧ Rv X ρ sv v ∧ K sv st.blks := by
  obtain ⟨svs, vs, hK, hl, hr, hrun⟩ := resSV_sound hE hm hs _ _ h
  have hall : (results fn a.tmps).run P w = .ok (if h : vs.toArray.size = 1 then vs.toArray[0] else .tuple vs.toArray) w := by
    rw [results_eq]
    rw [Array.mapM_eq_mapM_toList]
    simp only [Sem.run_bind, map_eq_pure_bind, bind_assoc, pure_bind]
    rw [hrun]
    rfl
  match svs, hl, hr, hK with
  | [sv], hl, hr, hK =>
    match vs, hl, hr, hall with
    | [v], hl, hr, hall => exact ⟨sv, v, by rw [hall]; rfl, hr 0 sv v rfl rfl, hK⟩
  | [], hl, hr, hK =>
    refine ⟨_, .tuple vs.toArray, by rw [hall]; simp [hl], .tup _ _ _ (by simpa using hl) fun i sv v hi hv => hr i sv v hi (by simpa using hv), hK⟩
  | x :: y :: r, hl, hr, hK =>
    refine ⟨_, .tuple vs.toArray, by rw [hall]; simp [hl], .tup _ _ _ (by simpa using hl) fun i sv v hi hv => hr i sv v hi (by simpa using hv), hK⟩

theorem getSlot_anys : ∀ (n i : Nat), getSlot (anys n) i = .any
  | 0, _ => rfl
  | n + 1, 0 => rfl
  | n + 1, i + 1 => getSlot_anys n i
theorem anys_length : ∀ n, (anys n).length = n
  | 0 => rfl
  | n + 1 => by simp [anys, anys_length n]

/-- A FUNCTION'S BODY, WALKED. -/
theorem fn_sound {P : Program} {E : Env} (hE : EnvOk P E) (hL : EnvLaw E) (hmx : P.follows .mixedOrders = true) {f : Nat} {fn : Func} (hf : P.funcs[f]? = some fn) {nx : Nat} {svs : List SV} {vs : Array Value} {B : Bl} {K : SV → Bl → Prop}
    {X : PH} {ρ : Rho} {w : World} (hm : Mem X ρ B w) (hfr : Fresh ρ B nx) (hl : Like X ρ svs vs) (h : vcOf E fn nx svs B K) :
    Calls P f vs w fun e w' => ∃ v, e = .returned v ∧ ∃ X' ρ' sv B', X.le X' ∧ RLe nx ρ ρ' ∧ Mem X' ρ' B' w' ∧ Rv X' ρ' sv v ∧ K sv B' := by
  unfold vcOf at h
  cases hb : fn.body with
  | none => simp [hb] at h
  | some c =>
    simp only [hb] at h
    have hc : Conc X ρ ⟨svs ++ anys (fn.ntmps - svs.length), B, nx⟩ { tmps := vs ++ Array.replicate (fn.ntmps - vs.size) undef, defers := [] } w := by
      refine ⟨hm, by simp [anys_length, hl.1], fun i => ?_, rfl, hfr⟩
      simp only
      rw [getSlot_eq]
      by_cases hi : i < svs.length
      · obtain ⟨v, hv, hr⟩ := hl.2 i svs[i] (by simp [hi])
        have hi' : i < vs.size := by rw [hl.1]; exact hi
        rw [List.getElem?_append_left hi, Array.getD_eq_getD_getElem?, Array.getElem?_append_left hi', hv]
        simp [hi]
        exact hr
      · rw [List.getElem?_append_right (by omega), ← getSlot_eq, getSlot_anys]
        exact .any _ _
    refine calls_of_wp hf hb (wp_mono (exec_sound hE hL hmx c _ _ X ρ _ w hc h) fun e a' w' hr => ?_)
    obtain ⟨X', ρ', st', h1, h2, h3, h4, h5, h6⟩ := hr
    cases e with
    | normal =>
      obtain ⟨sv, v, hrun, hrv, hK⟩ := retSV_sound hE h3.mem h3.slots h6
      exact ⟨h3.dfr, v, hrun, v, rfl, X', ρ', sv, st'.blks, h1, h2, h3.mem, hrv, hK⟩
    | ret =>
      obtain ⟨sv, v, hrun, hrv, hK⟩ := retSV_sound hE h3.mem h3.slots h6
      exact ⟨h3.dfr, v, hrun, v, rfl, X', ρ', sv, st'.blks, h1, h2, h3.mem, hrv, hK⟩
    | exit i => exact h6.elim
    | goto l => exact h6.elim
    | panic ch => exact h6.elim
    | outgrown => exact h6.elim
end Go.SX
