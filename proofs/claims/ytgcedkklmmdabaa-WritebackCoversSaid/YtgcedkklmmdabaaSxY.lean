/- A PART OF THE PROOF. NO CONDITION. -/
import Derived.Test.YtgcedkklmmdabaaSxW
section
set_option linter.unusedSimpArgs false
set_option linter.unusedVariables false
set_option linter.unusedVariables false
set_option linter.unusedSimpArgs false
namespace Go.SX

theorem FreshBut.mono {ρ : Rho} {B : Bl} {n : Nat} {u u' : Nat → Prop} (h : FreshBut ρ B n u) (hu : ∀ j, u j → u' j) : FreshBut ρ B n u' := fun key hk hn => h key hk fun i hi => hn i (hu i hi)

theorem symFull_sound {P : Program} {E : Env} (hE : EnvOk P E) {ops : Array Oper} {K : St → Prop} {Q : Exit → Act → World → Prop} {n : Nat} {ts0 : List SV} {X0 : PH} {ρ0 : Rho}
    (hQ : ∀ X' ρ' ts' B' a' w', X0.le X' → RLe n ρ0 ρ' → Conc0 X' ρ' ts' B' a' w' → FreshBut ρ' B' n (fun j => j < ops.size) → Agree (ops.toList.filterMap (·.dst)) ts0 ts' → K ⟨ts', B', n⟩ → Q .normal a' w') :
    ∀ (fuel : Nat) (listed : Array Bool) (X : PH) (ρ : Rho) (ts : List SV) (B : Bl) (a : Act) (w : World), X0.le X → RLe n ρ0 ρ → Conc0 X ρ ts B a w →
      FreshBut ρ B n (fun j => j < ops.size ∧ listed.getD j true = true) → Agree (ops.toList.filterMap (·.dst)) ts0 ts → symFull E ops K fuel listed ⟨ts, B, n⟩ → wpAnyIn (wideR none) 0 P .any ops Q fuel listed a w
  | 0, listed, X, ρ, ts, B, a, w, hX, hρ, hc, hf, hag, h => ⟨h.1, hQ X ρ ts B a w hX hρ hc (hf.mono fun j hj => hj.1) hag h.2⟩
  | fuel + 1, listed, X, ρ, ts, B, a, w, hX, hρ, hc, hf, hag, h => by
    refine ⟨fun h0 => hQ X ρ ts B a w hX hρ hc (hf.mono fun j hj => hj.1) hag (h.1 h0), fun i hi => ?_⟩
    obtain ⟨o, ho, hs⟩ := h.2 i hi
    obtain ⟨hun, _⟩ := mem_ready.1 hi
    have hlt : i < ops.size := (Array.getElem?_eq_some_iff.1 ho).1
    have hst := stepOp_sound (ro := none) (Q := Q) (st := ⟨ts, B, n⟩) hE hc hf (i := i) (o := o) (fun hu => by rw [hun] at hu; cases hu.2) hs (next := wpAnyIn (wideR none) 0 P .any ops Q fuel (listed.setIfInBounds i true))
      (fun X' ρ' ts' B' a' w' hX' hρ' hc' hfr' hag' hK => by
        refine symFull_sound hE hQ fuel _ X' ρ' ts' B' a' w' (PH.le_trans hX hX') (RLe.trans hρ hρ') hc' (hfr'.mono fun j hj => ?_) ?_ hK
        · by_cases hij : i = j
          · subst hij
            refine ⟨hlt, ?_⟩
            by_cases hls : i < listed.size
            · simp [hls]
            · simp [Array.getElem?_eq_none (Nat.le_of_not_lt hls)]
          · rw [getD_set_ne true hij]
            exact hj.resolve_right fun e => hij e.symm
        · refine (hag.trans hag').mono fun t ht => ?_
          rw [memN_append, ht, Bool.false_or]
          cases hd : o.dst with
          | none => rfl
          | some d =>
            have hm : d ∈ ops.toList.filterMap (·.dst) := List.mem_filterMap.2 ⟨o, Array.mem_toList_iff.2 (Array.mem_of_getElem? ho), hd⟩
            have : t ≠ d := fun e => by subst e; rw [memN_self hm] at ht; cases ht
            simp [memN, nbeq_false this])
    unfold wpOpIn
    rw [ho]
    simp only
    split
    · rename_i hw; rw [if_pos hw] at hst; exact hst
    · rename_i hw; rw [if_neg hw] at hst; exact ⟨fun _ _ => trivial, hst⟩

theorem Mem.world {X : PH} {ρ : Rho} {B : Bl} {w w' : World} (h : Mem X ρ B w) (hf : Fr w w') (hw : w'.heap = w.heap) : Mem X ρ B w' :=
  ⟨h.fr.trans hf, fun b o hb => by rw [hw]; exact h.sub b o hb, fun k lb hk => by simpa only [hw] using h.own k lb hk, h.inj⟩
theorem Conc0.world {X : PH} {ρ : Rho} {ts : List SV} {B : Bl} {a : Act} {w w' : World} (h : Conc0 X ρ ts B a w) (hf : Fr w w') (hw : w'.heap = w.heap) : Conc0 X ρ ts B a w' :=
  ⟨h.mem.world hf hw, h.size, h.slots, h.dfr⟩

theorem drawSnd {P : Program} {E : Env} (hE : EnvOk P E) (hL : EnvLaw E) (hm : P.follows .mixedOrders = true) : DrawSnd P E := by
  intro id ops st K X ρ a w hc h
  obtain ⟨ts, B, n⟩ := st
  have hf := symRun_full hL _ _ _ rfl (fun a' oa t ha _ _ _ hl => by
    have hlt := (Array.getElem?_eq_some_iff.1 ha).1
    simp [hlt] at hl) h
  refine wpIn_wide.1 (wpIn_region_any (F := wideR none) (n := 0) hm (symFull_sound hE (n := n) (ts0 := ts) (X0 := X) (ρ0 := ρ) (fun X' ρ' ts' B' a' w' hX hρ hc' hfr hag hK => ⟨rfl, X', ρ', ts', B', hX, hρ, hc', hfr, hag, hK⟩)
    ops.size _ X ρ ts B a _ X.le_refl (RLe.refl _ _) (hc.c0.world ⟨rfl, rfl, rfl, by simp⟩ rfl) ?_ (Agree.refl _ _) hf))
  intro key hk hn
  exact hc.fresh key hk

theorem exec_sound {P : Program} {E : Env} (hE : EnvOk P E) (hL : EnvLaw E) (hm : P.follows .mixedOrders = true) : ∀ (c : Code), Snd P E c
  | .skip => fun st Q X ρ a w hc h => wp_skip ⟨X, ρ, st, X.le_refl, (RLe.refl _ _), hc, Agree.refl _ _, Nat.le_refl _, h⟩
  | .exit i => fun st Q X ρ a w hc h => wp_exit ⟨X, ρ, st, X.le_refl, (RLe.refl _ _), hc, Agree.refl _ _, Nat.le_refl _, h⟩
  | .ret => fun st Q X ρ a w hc h => wp_ret ⟨X, ρ, st, X.le_refl, (RLe.refl _ _), hc, Agree.refl _ _, Nat.le_refl _, h⟩
  | .region id ops true => fun st Q X ρ a w hc h => by
    refine wp_mono (drawSnd hE hL hm id ops st _ X ρ a w hc h) fun e a' w' ⟨he, X', ρ', ts', B', hX, hρ, hc', hfr, hag, hK⟩ => ?_
    subst he
    exact ⟨X', ρ', ⟨ts', B', st.next + 8 * ops.toList.length⟩, hX, hρ, ⟨hc'.mem, hc'.size, hc'.slots, hc'.dfr, fun key hk => hfr key (by simp only at hk; omega) fun i hi => by simp only [Array.length_toList] at hk; omega⟩,
      hag, by simp only; omega, hK⟩
  | .region id ops false => fun st Q X ρ a w hc h => by
    refine wpIn_wide.1 (wpIn_region (F := wideR none) (n := 0) ?_)
    simp only [exec] at h
    have := runOps_sound (ro := none) (Q := Res X ρ st (dstsC (.region id ops false)) Q) hE (ops := ops) ops.toList 0 X ρ st a w _ (by simp) hc.c0 (fun key hk _ => hc.fresh key hk) h
      (fun X' ρ' ts' B' a' w' hX hρ hc' hfr hag hK => ⟨X', ρ', ⟨ts', B', st.next + 8 * ops.toList.length⟩, hX, hρ,
        ⟨hc'.mem, hc'.size, hc'.slots, hc'.dfr, fun key hk => hfr key (by simp only at hk; omega) fun i hi => by simp only at hk; omega⟩, hag, by simp only; omega, hK⟩)
    rw [List.range_eq_range']
    simpa using this
  | .seq x y => fun st Q X ρ a w hc h => by
    refine wp_seq (wp_mono (exec_sound hE hL hm x st _ X ρ a w hc h) fun e a' w' hr => ?_)
    obtain ⟨X', ρ', st', h1, h2, h3, h4, h5, h6⟩ := hr
    cases e with
    | normal => exact wp_mono (exec_sound hE hL hm y st' Q X' ρ' a' w' h3 h6) fun e a2 w2 hr => Res.trans h1 h2 h4 h5 hr
    | exit i => exact Res.weak ⟨X', ρ', st', h1, h2, h3, h4, h5, h6⟩ fun i hi => by simp only [dstsC, memN_append, Bool.or_eq_false_iff] at hi; exact hi.1
    | ret => exact Res.weak ⟨X', ρ', st', h1, h2, h3, h4, h5, h6⟩ fun i hi => by simp only [dstsC, memN_append, Bool.or_eq_false_iff] at hi; exact hi.1
    | goto l => exact h6.elim
    | panic ch => exact h6.elim
    | outgrown => exact h6.elim
  | .cond c x y => fun st Q X ρ a w hc h => by
    have hv := hc.c0.eval c
    simp only [exec] at h
    have w1 : ∀ e a' w', Res X ρ st (dstsC x) Q e a' w' → Res X ρ st (dstsC (.cond c x y)) Q e a' w' := fun e a' w' hr => hr.weak fun i hi => by simp only [dstsC, memN_append, Bool.or_eq_false_iff] at hi; exact hi.1
    have w2 : ∀ e a' w', Res X ρ st (dstsC y) Q e a' w' → Res X ρ st (dstsC (.cond c x y)) Q e a' w' := fun e a' w' hr => hr.weak fun i hi => by simp only [dstsC, memN_append, Bool.or_eq_false_iff] at hi; exact hi.2
    split at h
    · rename_i he; rw [he] at hv
      exact wp_cond_true (rv_tt hv) (wp_mono (exec_sound hE hL hm x st Q X ρ a w hc h) w1)
    · rename_i he; rw [he] at hv
      exact wp_cond_false (rv_ff hv) (wp_mono (exec_sound hE hL hm y st Q X ρ a w hc h) w2)
    · rename_i t he; rw [he] at hv
      cases t with
      | true => exact wp_cond_true (rv_val hv) (wp_mono (exec_sound hE hL hm x st Q X ρ a w hc (h.1 rfl)) w1)
      | false => exact wp_cond_false (rv_val hv) (wp_mono (exec_sound hE hL hm y st Q X ρ a w hc (h.2 rfl)) w2)
    · exact h.elim
  | .block id (.loop c) => loop_snd (exec_sound hE hL hm c)
  | .block id .skip => block_snd (exec_sound hE hL hm _) (fun q hq => by cases hq)
  | .block id (.exit _) => block_snd (exec_sound hE hL hm _) (fun q hq => by cases hq)
  | .block id .ret => block_snd (exec_sound hE hL hm _) (fun q hq => by cases hq)
  | .block id (.region a b c) => block_snd (exec_sound hE hL hm (.region a b c)) (fun q hq => by cases hq)
  | .block id (.seq a b) => block_snd (exec_sound hE hL hm (.seq a b)) (fun q hq => by cases hq)
  | .block id (.cond a b c) => block_snd (exec_sound hE hL hm (.cond a b c)) (fun q hq => by cases hq)
  | .block id (.block a b) => block_snd (exec_sound hE hL hm (.block a b)) (fun q hq => by cases hq)
  | .block id (.scope a) => block_snd (exec_sound hE hL hm (.scope a)) (fun q hq => by cases hq)
  | .block id (.label a) => block_snd (exec_sound hE hL hm (.label a)) (fun q hq => by cases hq)
  | .block id (.goto a) => block_snd (exec_sound hE hL hm (.goto a)) (fun q hq => by cases hq)
  | .block id (.rangeFunc a b c d) => block_snd (exec_sound hE hL hm (.rangeFunc a b c d)) (fun q hq => by cases hq)
  | .block id (.refuse s) => block_snd (exec_sound hE hL hm (.refuse s)) (fun q hq => by cases hq)
  | .rangeFunc a b c d => fun st Q X ρ a w hc h => by simp only [exec] at h
  | .refuse s => fun st Q X ρ a w hc h => by simp only [exec] at h
  | .loop c => fun st Q X ρ a w hc h => by simp only [exec] at h
  | .label l => fun st Q X ρ a w hc h => by simp only [exec] at h
  | .goto l => fun st Q X ρ a w hc h => by simp only [exec] at h
  | .scope c => fun st Q X ρ a w hc h => by simp only [exec] at h
end Go.SX
end
section
set_option linter.unusedSimpArgs false
set_option linter.unusedVariables false
set_option linter.unusedVariables false
set_option linter.unusedSimpArgs false
namespace Go.SX

def resOne (tmps : Array Value) : ResultVar → Sem Value
  | .tmp t => pure (tmps.getD t undef)
  | .cell a t => do loadVar t (← asAddr (tmps.getD a undef))
theorem results_eq (fn : Func) (tmps : Array Value) : results fn tmps = (do let vs ← fn.results.mapM (resOne tmps); pure (if h : vs.size = 1 then vs[0] else .tuple vs)) := by
  unfold results
  congr 2

theorem resSV_sound {P : Program} {E : Env} (hE : EnvOk P E) {X : PH} {ρ : Rho} {ts : List SV} {B : Bl} {w : World} {tmps : Array Value} (hm : Mem X ρ B w) (hs : ∀ i, Rv X ρ (getSlot ts i) (tmps.getD i undef)) :
    ∀ (rs : List ResultVar) (K : List SV → Prop), resSV E ts B rs K → ∃ (svs : List SV) (vs : List Value), K svs ∧ vs.length = svs.length ∧ (∀ (i : Nat) sv v, svs[i]? = some sv → vs[i]? = some v → Rv X ρ sv v) ∧
      ((rs.mapM (resOne tmps)).run P w) = Result.ok vs w
  | [], K, h => ⟨[], [], h, rfl, fun i sv v hi => by simp at hi, rfl⟩
  | .tmp t :: r, K, h => by
    obtain ⟨svs, vs, hK, hl, hr, hrun⟩ := resSV_sound hE hm hs r _ h
    refine ⟨_, tmps.getD t undef :: vs, hK, by simp [hl], fun i sv v hi hv => ?_, ?_⟩
    · cases i with
      | zero => simp at hi hv; subst hi; subst hv; simpa using hs t
      | succ i => exact hr i sv v (by simpa using hi) (by simpa using hv)
    · simp only [List.mapM_cons, resOne, Sem.run_bind, Sem.run_pure, Result.andThen_ok, hrun]
  | .cell a t :: r, K, h => by
    simp only [resSV] at h
    cases ht : E.ty t with
    | none => simp [ht] at h
    | some ti =>
      simp only [ht] at h
      obtain ⟨b, off, cs, hv, h, hcs⟩ := atAddr_sound hm (hs a) h
      cases hl : loadSV ti cs with
      | none => simp [hl] at h
      | some sv =>
        simp only [hl] at h
        obtain ⟨v, hrun1, hrv⟩ := load_sound (hE.ty t ti ht) hcs hl
        obtain ⟨svs, vs, hK, hl, hr, hrun⟩ := resSV_sound hE hm hs r _ h
        refine ⟨_, v :: vs, hK, by simp [hl], fun i sv v hi hv => ?_, ?_⟩
        · cases i with
          | zero => simp at hi hv; subst hi; subst hv; exact hrv
          | succ i => exact hr i sv v (by simpa using hi) (by simpa using hv)
        · simp only [List.mapM_cons, resOne, Sem.run_bind, Sem.run_pure, Result.andThen_ok, hv, asAddr, hrun1, hrun]

theorem retSV_sound {P : Program} {E : Env} (hE : EnvOk P E) {X : PH} {ρ : Rho} {st : St} {a : Act} {w : World} (hm : Mem X ρ st.blks w) (hs : ∀ i, Rv X ρ (getSlot st.tmps i) (a.tmps.getD i undef)) {fn : Func} {K : SV → Bl → Prop}
    (h : retSV E fn.results.toList st K) : ∃ sv v, (results fn a.tmps).run P w = .ok v w ∧ Rv X ρ sv v ∧ K sv st.blks := by
  obtain ⟨svs, vs, hK, hl, hr, hrun⟩ := resSV_sound hE hm hs _ _ h
  have hall : (results fn a.tmps).run P w = .ok (if h : vs.toArray.size = 1 then vs.toArray[0] else .tuple vs.toArray) w := by
    rw [results_eq]
    rw [Array.mapM_eq_mapM_toList]
    simp only [Sem.run_bind, map_eq_pure_bind, bind_assoc, pure_bind]
    rw [hrun]
    rfl
  match svs, hl, hr, hK with
  | [sv], hl, hr, hK =>
    match vs, hl, hr, hall with
    | [v], hl, hr, hall => exact ⟨sv, v, by rw [hall]; rfl, hr 0 sv v rfl rfl, hK⟩
  | [], hl, hr, hK =>
    refine ⟨_, .tuple vs.toArray, by rw [hall]; simp [hl], .tup _ _ _ (by simpa using hl) fun i sv v hi hv => hr i sv v hi (by simpa using hv), hK⟩
  | x :: y :: r, hl, hr, hK =>
    refine ⟨_, .tuple vs.toArray, by rw [hall]; simp [hl], .tup _ _ _ (by simpa using hl) fun i sv v hi hv => hr i sv v hi (by simpa using hv), hK⟩

theorem getSlot_anys : ∀ (n i : Nat), getSlot (anys n) i = .any
  | 0, _ => rfl
  | n + 1, 0 => rfl
  | n + 1, i + 1 => getSlot_anys n i
theorem anys_length : ∀ n, (anys n).length = n
  | 0 => rfl
  | n + 1 => by simp [anys, anys_length n]

/-- A FUNCTION'S BODY, WALKED. -/
theorem fn_sound {P : Program} {E : Env} (hE : EnvOk P E) (hL : EnvLaw E) (hmx : P.follows .mixedOrders = true) {f : Nat} {fn : Func} (hf : P.funcs[f]? = some fn) {nx : Nat} {svs : List SV} {vs : Array Value} {B : Bl} {K : SV → Bl → Prop}
    {X : PH} {ρ : Rho} {w : World} (hm : Mem X ρ B w) (hfr : Fresh ρ B nx) (hl : Like X ρ svs vs) (h : vcOf E fn nx svs B K) :
    Calls P f vs w fun e w' => ∃ v, e = .returned v ∧ ∃ X' ρ' sv B', X.le X' ∧ RLe nx ρ ρ' ∧ Mem X' ρ' B' w' ∧ Rv X' ρ' sv v ∧ K sv B' := by
  unfold vcOf at h
  cases hb : fn.body with
  | none => simp [hb] at h
  | some c =>
    simp only [hb] at h
    have hc : Conc X ρ ⟨svs ++ anys (fn.ntmps - svs.length), B, nx⟩ { tmps := vs ++ Array.replicate (fn.ntmps - vs.size) undef, defers := [] } w := by
      refine ⟨hm, by simp [anys_length, hl.1], fun i => ?_, rfl, hfr⟩
      simp only
      rw [getSlot_eq]
      by_cases hi : i < svs.length
      · obtain ⟨v, hv, hr⟩ := hl.2 i svs[i] (by simp [hi])
        have hi' : i < vs.size := by rw [hl.1]; exact hi
        rw [List.getElem?_append_left hi, Array.getD_eq_getD_getElem?, Array.getElem?_append_left hi', hv]
        simp [hi]
        exact hr
      · rw [List.getElem?_append_right (by omega), ← getSlot_eq, getSlot_anys]
        exact .any _ _
    refine calls_of_wp hf hb (wp_mono (exec_sound hE hL hmx c _ _ X ρ _ w hc h) fun e a' w' hr => ?_)
    obtain ⟨X', ρ', st', h1, h2, h3, h4, h5, h6⟩ := hr
    cases e with
    | normal =>
      obtain ⟨sv, v, hrun, hrv, hK⟩ := retSV_sound hE h3.mem h3.slots h6
      exact ⟨h3.dfr, v, hrun, v, rfl, X', ρ', sv, st'.blks, h1, h2, h3.mem, hrv, hK⟩
    | ret =>
      obtain ⟨sv, v, hrun, hrv, hK⟩ := retSV_sound hE h3.mem h3.slots h6
      exact ⟨h3.dfr, v, hrun, v, rfl, X', ρ', sv, st'.blks, h1, h2, h3.mem, hrv, hK⟩
    | exit i => exact h6.elim
    | goto l => exact h6.elim
    | panic ch => exact h6.elim
    | outgrown => exact h6.elim
end Go.SX
end
