/- A PART OF THE PROOF. NO CONDITION. -/
import Derived.Test.YtnjgeljpkblodaaSxV
set_option linter.unusedSimpArgs false
set_option linter.unusedVariables false
set_option linter.unusedVariables false
set_option linter.unusedSimpArgs false
namespace Go.SX

theorem stepOp_upon {E : Env} (hL : EnvLaw E) {all : List Oper} {i : Nat} {o : Oper} {st : St} {K K' : St → Prop}
    (hK : ∀ st', (keepsK E o = true → Sub st.blks st'.blks) → st'.next = st.next → Agree o.dst.toList st.tmps st'.tmps → K st' → K' st') (h : stepOp E all i o st K) : stepOp E all i o st K' := by
  unfold stepOp at *
  split at h
  · exact h.elim
  · exact hK _ (fun _ => Sub.refl _) rfl (agree_set _ _ _) h
  · refine act_upon hL (fun f => rfl) (fun v B' hs h => ?_) h
    unfold after at *
    split at h
    · exact ⟨fun hb => hK _ hs rfl (agree_set _ _ _) (h.1 hb), fun hb => hK _ hs rfl (agree_set _ _ _) (h.2 hb)⟩
    · exact hK _ hs rfl (agree_set _ _ _) h

theorem dstOf_eq {ops : Array Oper} {j : Nat} : dstOf ops.toList j = (ops[j]?).bind (·.dst) := by
  unfold dstOf
  rw [Array.getElem?_toList]
  cases ops[j]? <;> rfl

theorem wantedSV_congr {ops : Array Oper} {o : Oper} {ts ts' : List SV} (h : ∀ t ∈ o.looksAt ops, getSlot ts' t = getSlot ts t) : wantedSV ops.toList o ts' = wantedSV ops.toList o ts := by
  unfold wantedSV
  cases hg : o.guard with
  | none => rfl
  | some q =>
    obtain ⟨j, want⟩ := q
    simp only
    cases hd : dstOf ops.toList j with
    | none => rfl
    | some t =>
      have : t ∈ o.looksAt ops := by
        rw [dstOf_eq] at hd
        simp [Oper.looksAt, hg, hd]
      simp only
      rw [h t this]

theorem evalO_congr {ops : Array Oper} {o : Oper} {ts ts' : List SV} (h : ∀ t ∈ o.looksAt ops, getSlot ts' t = getSlot ts t) : ∀ x ∈ o.op.operands, evalO ts' x = evalO ts x := fun x hx => by
  cases x with
  | tmp t => exact h t (List.mem_append_left _ (List.mem_filterMap.2 ⟨.tmp t, by simpa using hx, rfl⟩))
  | const v => cases v <;> first | rfl | (rename_i b; cases b <;> rfl)
  | global g => rfl
  | func f => rfl

theorem act_congr {E : Env} {o : Oper} {kd : Nat} {ρ ρ' : Operand → SV} {B : Bl} {K : SV → Bl → Prop} (h : ∀ x ∈ o.op.operands, ρ x = ρ' x) : act E o kd ρ B K = act E o kd ρ' B K := by
  unfold act; rw [act0_congr h]

theorem setSlot_comm : ∀ (ts : List SV) (i j : Nat) (u v : SV), i ≠ j → setSlot (setSlot ts i u) j v = setSlot (setSlot ts j v) i u
  | [], _, _, _, _, _ => rfl
  | _ :: _, 0, 0, _, _, h => absurd rfl h
  | _ :: _, 0, _ + 1, _, _, _ => rfl
  | _ :: _, _ + 1, 0, _, _, _ => rfl
  | x :: r, i + 1, j + 1, u, v, h => by simp only [setSlot]; rw [setSlot_comm r i j u v (by omega)]
theorem setDst_comm (ts : List SV) (d e : Option Nat) (u v : SV) (h : ∀ x, d = some x → e ≠ some x) : setDst (setDst ts d u) e v = setDst (setDst ts e v) d u := by
  cases d with
  | none => rfl
  | some d =>
    cases e with
    | none => rfl
    | some e => exact setSlot_comm _ _ _ _ _ fun he => h d rfl (by rw [he])
theorem getSlot_setDst {ts : List SV} {d : Option Nat} {v : SV} {t : Nat} (h : d ≠ some t) : getSlot (setDst ts d v) t = getSlot ts t := by
  cases d with
  | none => rfl
  | some d => simp only [setDst, getSlot_set]; rw [if_neg]; rintro ⟨rfl, _⟩; exact h rfl

/-- an operation steps alike whether or not an apart one's value lies there -/
theorem stepOp_put {E : Env} {ops : Array Oper} {j : Nat} {o : Oper} {ts : List SV} {B : Bl} {n : Nat} {d : Option Nat} {v : SV} {K : St → Prop} (h1 : ∀ x, d = some x → x ∉ o.looksAt ops) (h2 : ∀ x, d = some x → o.dst ≠ some x)
    (h : stepOp E ops.toList j o ⟨setDst ts d v, B, n⟩ K) : stepOp E ops.toList j o ⟨ts, B, n⟩ fun st' => K ⟨setDst st'.tmps d v, st'.blks, st'.next⟩ := by
  have hl : ∀ t ∈ o.looksAt ops, getSlot (setDst ts d v) t = getSlot ts t := fun t ht => getSlot_setDst fun he => h1 t he ht
  unfold stepOp at *
  simp only at *
  rw [wantedSV_congr hl] at h
  split at h
  · exact h.elim
  · rw [setDst_comm _ _ _ _ _ h2] at h; exact h
  · rw [act_congr (evalO_congr hl)] at h
    simp only [after] at *
    simp only [setDst_comm _ _ _ _ _ h2] at h
    exact h

/-- an operation that may come up at any time, and yields this -/
def Pend (E : Env) (ops : Array Oper) (i : Nat) (o : Oper) (ts : List SV) (B : Bl) (n : Nat) (sv : SV) : Prop :=
  ∀ (ts' : List SV) (B' : Bl) (K' : St → Prop), (∀ t ∈ o.looksAt ops, getSlot ts' t = getSlot ts t) → (readsK o = true → Sub B B') → K' ⟨setDst ts' o.dst sv, B', n⟩ → stepOp E ops.toList i o ⟨ts', B', n⟩ K'

theorem after_elim {all : List Oper} {i : Nat} {o : Oper} {ts : List SV} {n : Nat} {v : SV} {B : Bl} {K : St → Prop} (h : after all i o ts n v B K) :
    ∃ sv, K ⟨setDst ts o.dst sv, B, n⟩ ∧ ∀ ts' B' n' (K' : St → Prop), K' ⟨setDst ts' o.dst sv, B', n'⟩ → after all i o ts' n' v B' K' := by
  unfold after at *
  split at h
  · rename_i b _
    cases b with
    | true => exact ⟨.tt, h.1 rfl, fun _ _ _ _ hK => ⟨fun _ => hK, fun hb => by cases hb⟩⟩
    | false => exact ⟨.ff, h.2 rfl, fun _ _ _ _ hK => ⟨fun hb => by (cases hb), fun _ => hK⟩⟩
  · exact ⟨_, h, fun _ _ _ _ hK => hK⟩

theorem quiet_plain {o : Oper} {ρ : Operand → SV} (h : quietK o ρ = true) : plainOp o = true := by
  unfold quietK at h
  unfold plainOp
  split at h <;> first | (simp_all; done) | (rename_i c hc; simp only [hc]; cases hcl : c.callee with
    | builtin b => cases b <;> simp_all
    | _ => simp_all)

theorem quiet_pend {E : Env} {ops : Array Oper} {i : Nat} {o : Oper} {ts : List SV} {B : Bl} {n : Nat} {K : St → Prop} (hq : quietK o (evalO ts) = true) (h : stepOp E ops.toList i o ⟨ts, B, n⟩ K) :
    ∃ sv, K ⟨setDst ts o.dst sv, B, n⟩ ∧ Pend E ops i o ts B n sv := by
  unfold stepOp at h
  simp only at h
  split at h
  · exact h.elim
  · rename_i hw
    refine ⟨_, h, fun ts' B' K' hts hB hK => ?_⟩
    unfold stepOp
    simp only
    rw [wantedSV_congr hts, hw]
    exact hK
  · rename_i hw
    unfold act at h
    rw [quiet_plain hq] at h
    simp only [Bool.true_or] at h
    obtain ⟨v, hv, hf⟩ := quiet_step hq h
    obtain ⟨sv, h1, h2⟩ := after_elim hv
    refine ⟨sv, h1, fun ts' B' K' hts hB hK => ?_⟩
    unfold stepOp
    simp only
    rw [wantedSV_congr hts, hw]
    simp only
    rw [act_congr (evalO_congr hts)]
    unfold act
    rw [quiet_plain hq]
    simp only [Bool.true_or]
    exact hf _ _ _ hB (h2 _ _ _ _ hK)

/-- all the orders -/
def symFull (E : Env) (ops : Array Oper) (K : St → Prop) : Nat → Array Bool → St → Prop
  | 0, listed, st => Region.ready .any ops listed = [] ∧ K st
  | fuel + 1, listed, st => (Region.ready .any ops listed = [] → K st) ∧
    ∀ i ∈ Region.ready .any ops listed, ∃ o, ops[i]? = some o ∧ stepOp E ops.toList i o st fun st' => symFull E ops K fuel (listed.setIfInBounds i true) st'

theorem symFull_first {E : Env} (hL : EnvLaw E) {ops : Array Oper} {K : St → Prop} {i : Nat} {oi : Oper} {n : Nat} {sv : SV} (hi : ops[i]? = some oi) :
    ∀ (fuel : Nat) (listed : Array Bool) (ts : List SV) (B : Bl),
      (∀ j oj, ops[j]? = some oj → j ≠ i → listed.getD j true = false → (∀ e ∈ oj.after, Region.binds .any e = true → e.on ≠ i) → oi.apart ops oj = true ∧ (readsK oi = true → keepsK E oj = true)) →
      i ∈ Region.ready .any ops listed → Pend E ops i oi ts B n sv →
      symFull E ops K fuel (listed.setIfInBounds i true) ⟨setDst ts oi.dst sv, B, n⟩ → symFull E ops K (fuel + 1) listed ⟨ts, B, n⟩ := by
  intro fuel
  induction fuel with
  | zero =>
    intro listed ts B _ hr hp H
    refine ⟨fun h => (by rw [h] at hr; cases hr), fun j hj => ?_⟩
    by_cases hji : j = i
    · subst hji; exact ⟨oi, hi, hp _ _ _ (fun _ _ => rfl) (fun _ => Sub.refl _) H⟩
    · have := ready_mono hj hji
      rw [H.1] at this
      cases this
  | succ fuel ih =>
    intro listed ts B hfree hr hp H
    refine ⟨fun h => (by rw [h] at hr; cases hr), fun j hj => ?_⟩
    by_cases hji : j = i
    · subst hji; exact ⟨oi, hi, hp _ _ _ (fun _ _ => rfl) (fun _ => Sub.refl _) H⟩
    · obtain ⟨oj, hoj, h1⟩ := H.2 j (ready_mono hj hji)
      refine ⟨oj, hoj, ?_⟩
      obtain ⟨hjun, oj', hoj', hall⟩ := mem_ready.1 hj
      rw [hoj] at hoj'; cases hoj'
      have hnot : ∀ e ∈ oj.after, Region.binds .any e = true → e.on ≠ i := fun e he hb heq => by
        have h1 := hall e he hb
        have h0 := (mem_ready.1 hr).1
        rw [heq] at h1
        rcases Nat.lt_or_ge i listed.size with h' | h'
        · simp [h'] at h0 h1; rw [h0] at h1; cases h1
        · simp [Array.getElem?_eq_none h'] at h1
      obtain ⟨hap, hkeep⟩ := hfree j oj hoj hji hjun hnot
      obtain ⟨a1, a2, a3⟩ := Oper.apart_spec hap
      refine stepOp_upon hL (fun st' hsub hnx hag h3 => ?_) (stepOp_put a1 a2 h1)
      have hfree' : ∀ k ok, ops[k]? = some ok → k ≠ i → (listed.setIfInBounds j true).getD k true = false →
          (∀ e ∈ ok.after, Region.binds .any e = true → e.on ≠ i) → oi.apart ops ok = true ∧ (readsK oi = true → keepsK E ok = true) := fun k ok hk hki hun hno => by
        refine hfree k ok hk hki ?_ hno
        by_cases hjk : j = k
        · subst hjk; exact hjun
        · rw [getD_set_ne true hjk] at hun; exact hun
      obtain ⟨ts', B', n'⟩ := st'
      simp only at hnx hag hsub
      subst hnx
      refine ih (listed.setIfInBounds j true) ts' B' hfree' (ready_mono hr (Ne.symm hji)) (fun ts2 B2 K2 hts2 hB2 hK2 => ?_) ?_
      · refine hp ts2 B2 K2 (fun t ht => ?_) (fun hrd => (hsub (hkeep hrd)).trans (hB2 hrd)) hK2
        rw [hts2 t ht]
        refine hag.2 t ?_
        cases hd : oj.dst with
        | none => rfl
        | some d =>
          have : t ≠ d := fun e => a3 d hd (e ▸ ht)
          simp [memN, nbeq_false this]
      · rw [Array.setIfInBounds_comm _ _ hji]
        exact h3

theorem pickQ_spec {E : Env} {ops : Array Oper} {listed : Array Bool} {ts : List SV} : ∀ {l : List Nat} {i : Nat}, pickQ E ops listed ts l = some i →
    i ∈ l ∧ ∃ o, ops[i]? = some o ∧ quietK o (evalO ts) = true ∧ Region.free .any ops listed i = true ∧ (readsK o = true → allKeep E listed i ops.toList 0 = true)
  | [], _, h => by simp [pickQ] at h
  | k :: r, i, h => by
    have rest : pickQ E ops listed ts r = some i → _ := fun h => let ⟨hm, hh⟩ := pickQ_spec h; (⟨List.mem_cons_of_mem _ hm, hh⟩ : i ∈ k :: r ∧ ∃ o, ops[i]? = some o ∧ quietK o (evalO ts) = true ∧ Region.free .any ops listed i = true ∧ (readsK o = true → allKeep E listed i ops.toList 0 = true))
    simp only [pickQ] at h
    cases ho : ops[k]? with
    | none => simp only [ho] at h; exact rest h
    | some o =>
      simp only [ho] at h
      split at h
      · rename_i hc _
        cases h
        rw [Bool.and_eq_true, Bool.and_eq_true] at hc
        refine ⟨by simp, o, ho, hc.1.1, hc.1.2, fun hr => ?_⟩
        have := hc.2
        rw [hr] at this
        simpa using this
      · exact rest h

theorem allKeep_spec {E : Env} {listed : Array Bool} {i : Nat} : ∀ {l : List Oper} {j0 : Nat}, allKeep E listed i l j0 = true → ∀ k o, l[k]? = some o → k + j0 ≠ i → listed.getD (k + j0) true = false →
    (∀ e ∈ o.after, Region.binds .any e = true → e.on ≠ i) → keepsK E o = true
  | [], _, _, k, o, hk, _, _, _ => by simp at hk
  | x :: r, j0, h, k, o, hk, hne, hun, hno => by
    simp only [allKeep] at h
    split at h
    · rename_i hc
      cases k with
      | zero =>
        simp at hk; subst hk
        rw [Nat.zero_add] at hne hun
        have hw : waitsOn x i = false := by
          unfold waitsOn
          rw [Array.any_eq_false']
          intro e he hb
          rw [Bool.and_eq_true] at hb
          exact hno e he hb.1 (by simpa using hb.2)
        rw [nbeq_false hne, hun, hw] at hc
        simpa using hc
      | succ k =>
        exact allKeep_spec h k o (by simpa using hk) (by rw [Nat.add_right_comm] at hne; exact hne) (by rw [Nat.add_right_comm] at hun; exact hun) hno
    · cases h

theorem allOf_spec {f : Nat → Prop} : ∀ {l : List Nat}, allOf f l → ∀ i ∈ l, f i
  | [], _, _, h => by cases h
  | [i], h, j, hj => by simp at hj; subst hj; exact h
  | i :: k :: r, h, j, hj => by
    rcases List.mem_cons.1 hj with rfl | hj
    · exact h.1
    · exact allOf_spec (l := k :: r) h.2 j hj

theorem symRun_full {E : Env} (hL : EnvLaw E) {ops : Array Oper} {K : St → Prop} : ∀ (fuel : Nat) (listed : Array Bool) (st : St), symRun E ops K fuel listed st → symFull E ops K fuel listed st
  | 0, listed, st, h => by
    simp only [symRun] at h
    split at h
    · rename_i hr; exact ⟨hr, h⟩
    · exact h.elim
  | fuel + 1, listed, st, h => by
    simp only [symRun] at h
    split at h
    · rename_i hr; exact ⟨fun _ => h, fun i hi => by rw [hr] at hi; cases hi⟩
    · rename_i i0 rs hr
      split at h
      · rename_i i hp
        obtain ⟨hm, o, ho, hq, hfree, hread⟩ := pickQ_spec hp
        rw [ho] at h
        simp only at h
        obtain ⟨ts, B, n⟩ := st
        obtain ⟨sv, hK, hpend⟩ := quiet_pend hq h
        refine symFull_first hL ho fuel listed ts B (fun j oj hj hne hun hno => ⟨Region.free_spec ho hfree j oj hj hne hun hno, fun hrd => ?_⟩) (hr ▸ hm) hpend (symRun_full hL fuel _ _ hK)
        exact allKeep_spec (hread hrd) j oj (by simpa using hj) (by simpa using hne) (by simpa using hun) hno
      · refine ⟨fun h0 => (by rw [hr] at h0; cases h0), fun i hi => ?_⟩
        rw [hr] at hi
        have := allOf_spec h i hi
        split at this
        · rename_i o ho
          exact ⟨o, ho, stepOp_upon hL (fun st' _ _ _ hq => symRun_full hL fuel _ _ hq) this⟩
        · exact this.elim
end Go.SX
