/- A PART OF THE PROOF. NO CONDITION. -/
import Derived.Test.YtgcedkklmmdabaaSxR
set_option linter.unusedSimpArgs false
set_option linter.unusedVariables false
set_option linter.unusedVariables false
set_option linter.unusedSimpArgs false
namespace Go.SX

theorem atAddr_mono {B : Bl} {p : SV} {K K' : List SV → Prop} (hK : ∀ cs, K cs → K' cs) (h : atAddr B p K) : atAddr B p K' := by
  unfold atAddr at *
  repeat' split at h
  all_goals first
    | exact h.elim
    | exact hK _ h
    | exact ⟨h.1, hK _ h.2⟩
    | (obtain ⟨c, h1, h2⟩ := h; exact ⟨c, h1, hK _ h2⟩)
    | (obtain ⟨h0, c, h1, h2⟩ := h; exact ⟨h0, c, h1, hK _ h2⟩)
theorem storeAt_mono {B : Bl} {p : SV} {vs : List SV} {K K' : Bl → Prop} (hK : ∀ cs, K cs → K' cs) (h : storeAt B p vs K) : storeAt B p vs K' := by
  unfold storeAt at *
  repeat' split at h
  all_goals first
    | exact h.elim
    | exact hK _ h
    | exact ⟨h.1, hK _ h.2⟩
    | (obtain ⟨h0, c, h1, h2⟩ := h; exact ⟨h0, c, h1, hK _ h2⟩)
theorem binInt_mono {op : BinOp} {k : IntKind} {x y : Int} {K K' : SV → Prop} (hK : ∀ v, K v → K' v) (h : binInt op k x y K) : binInt op k x y K' := by
  cases op <;> simp only [binInt] at * <;> first
    | exact hK _ h
    | exact ⟨h.1, hK _ h.2⟩
    | exact ⟨h.1, h.2.1, hK _ h.2.2⟩
theorem eqSV_mono {E : Env} {t : Nat} {a b : SV} {K K' : Bool → Prop} (hK : ∀ v, K v → K' v) (h : eqSV E t a b K) : eqSV E t a b K' := by
  unfold eqSV at *
  repeat' split at h
  all_goals first
    | exact h.elim
    | exact hK _ h
    | exact fun c hc => hK _ (h c hc)
theorem lenSV_mono {s : SV} {K K' : SV → Prop} (hK : ∀ v, K v → K' v) (h : lenSV s K) : lenSV s K' := by
  unfold lenSV at *
  repeat' split at h
  all_goals first
    | exact h.elim
    | exact hK _ h
theorem lenM_mono {B : Bl} {s : SV} {K K' : SV → Prop} (hK : ∀ v, K v → K' v) (h : lenM B s K) : lenM B s K' := by
  unfold lenM at *
  repeat' split at h
  all_goals first
    | exact h.elim
    | exact hK _ h
theorem clearSV_mono {te : TI} {B : Bl} {s : SV} {K K' : Bl → Prop} (hK : ∀ v, K v → K' v) (h : clearSV te B s K) : clearSV te B s K' := by
  unfold clearSV at *
  repeat' split at h
  all_goals first
    | exact h.elim
    | exact hK _ h
    | (obtain ⟨h1, z, h2, h3⟩ := h; exact ⟨h1, z, h2, hK _ h3⟩)
theorem makeMapSV_mono {E : Env} {t kd : Nat} {B : Bl} {K K' : SV → Bl → Prop} (hK : ∀ v b, K v (Bl.ins B kd b) → K' v (Bl.ins B kd b)) (h : makeMapSV E t kd B K) : makeMapSV E t kd B K' := by
  unfold makeMapSV at *
  repeat' split at h
  all_goals first
    | exact h.elim
    | exact ⟨h.1, hK _ _ h.2⟩
theorem updMapSV_mono {E : Env} {t : Nat} {B : Bl} {m k v : SV} {K K' : Bl → Prop} (hK : ∀ v, K v → K' v) (h : updMapSV E t B m k v K) : updMapSV E t B m k v K' := by
  unfold updMapSV at *
  repeat' split at h
  all_goals first
    | exact h.elim
    | (obtain ⟨h1, z, h2, h3⟩ := h; exact ⟨h1, z, h2, hK _ h3⟩)
theorem lookMapSV_mono {E : Env} {t : Nat} {B : Bl} {m k : SV} {ok : Bool} {K K' : SV → Prop} (hK : ∀ v, K v → K' v) (h : lookMapSV E t B m k ok K) : lookMapSV E t B m k ok K' := by
  unfold lookMapSV at *
  repeat' split at h
  all_goals first
    | exact h.elim
    | (obtain ⟨h1, z, h2, h3⟩ := h
       refine ⟨h1, z, h2, ?_⟩
       split at h3
       · exact hK _ h3
       · exact hK _ h3
       · exact h3.elim)
theorem sliceLH_mono {l h : Option SV} {n : Nat} {K K' : Nat → Nat → Prop} (hK : ∀ v u, K v u → K' v u) (hh : sliceLH l h n K) : sliceLH l h n K' := by
  unfold sliceLH at *
  repeat' split at hh
  all_goals first
    | exact hh.elim
    | exact hK _ _ hh
    | exact ⟨hh.1, hK _ _ hh.2⟩
theorem sliceSV_mono {s : SV} {l h : Option SV} {K K' : SV → Prop} (hK : ∀ v, K v → K' v) (hh : sliceSV s l h K) : sliceSV s l h K' := by
  unfold sliceSV at *
  repeat' split at hh
  all_goals first
    | exact hh.elim
    | exact sliceLH_mono (fun _ _ => hK _) hh
theorem rowsOf_mono {B : Bl} {k : Nat} {s : SV} {K K' : List (List SV) → Prop} (hK : ∀ v, K v → K' v) (h : rowsOf B k s K) : rowsOf B k s K' := by
  unfold rowsOf at *
  repeat' split at h
  all_goals first
    | exact h.elim
    | exact hK _ h
    | exact ⟨h.1, hK _ h.2⟩
theorem appendSV_mono {E : Env} {kd elem : Nat} {B : Bl} {s x : SV} {K K' : SV → Bl → Prop} (hK : ∀ v B, K v B → K' v B) (h : appendSV E kd elem B s x K) : appendSV E kd elem B s x K' := by
  unfold appendSV at *
  split at h
  · exact h.elim
  split at h
  · exact h.elim
  refine rowsOf_mono (fun rows h => ?_) h
  repeat' split at h
  all_goals first
    | exact h.elim
    | (obtain ⟨h0, c, h1, h2, h3⟩ := h; exact ⟨h0, c, h1, h2, hK _ _ h3⟩)
    | (obtain ⟨c, h1, h2, h3⟩ := h; exact ⟨c, h1, h2, hK _ _ h3⟩)

/-- the blocks of the one are blocks of the other -/
def Sub (B B' : Bl) : Prop := ∀ key b, Bl.get B key = some b → Bl.get B' key = some b
theorem Sub.refl (B : Bl) : Sub B B := fun _ _ h => h
theorem Sub.trans {A B C : Bl} (h : Sub A B) (h' : Sub B C) : Sub A C := fun _ _ hk => h' _ _ (h _ _ hk)
theorem Sub.ins {B : Bl} {kd : Nat} {b : LB} (h : Bl.get B kd = none) : Sub B (Bl.ins B kd b) := fun key c hk => by
  by_cases he : key = kd
  · subst he; rw [h] at hk; cases hk
  · rw [Bl.get_ins_other _ _ _ _ he]; exact hk
theorem freshB_get : ∀ {B : Bl} {kd key : Nat}, freshB kd B = true → kd ≤ key → key < kd + 8 → Bl.get B key = none
  | [], _, _, _, _, _ => rfl
  | (k, b) :: r, kd, key, h, h1, h2 => by
    simp only [freshB] at h
    cases hk : Nat.ble kd k && Nat.blt k (kd + 8) with
    | true => simp [hk] at h
    | false =>
      simp only [hk] at h
      have hne : k ≠ key := fun e => by
        subst e
        have : (Nat.ble kd k && Nat.blt k (kd + 8)) = true := by
          rw [Bool.and_eq_true]; exact ⟨Nat.ble_eq ▸ h1, by simp [Nat.blt_eq]; exact h2⟩
        rw [this] at hk; cases hk
      simp only [Bl.get, nbeq_false hne]
      exact freshB_get h h1 h2

/-- what the specifications keep to -/
structure EnvLaw (E : Env) : Prop where
  mono : ∀ g sp, E.spec g = some sp → ∀ (kd : Nat) (svs : List SV) (B : Bl) (K K' : SV → Bl → Prop), (∀ v B, K v B → K' v B) → sp kd svs B K → sp kd svs B K'
  keep : ∀ g sp, E.spec g = some sp → E.keep g = true → ∀ (kd : Nat) (svs : List SV) (B : Bl) (K : SV → Bl → Prop), freshB kd B = true → sp kd svs B K → sp kd svs B (fun v B' => Sub B B' ∧ K v B')
  yld : ∀ l sp, E.yield l = some sp → ∀ (kd : Nat) (svs : List SV) (B : Bl) (K K' : SV → Bl → Prop), (∀ v B, K v B → K' v B) → sp kd svs B K → sp kd svs B K'

theorem act_upon {E : Env} (hL : EnvLaw E) {o : Oper} {kd : Nat} {ρ : Operand → SV} {B : Bl} {K K' : SV → Bl → Prop} (hfun : ∀ f, ρ (.func f) = .clo f [])
    (hK : ∀ v B', (keepsK E o = true → Sub B B') → K v B' → K' v B') (h : act E o kd ρ B K) : act E o kd ρ B K' := by
  unfold act at *
  cases hpf : plainOp o || freshB kd B with
  | false => simp [hpf] at h
  | true =>
  simp only [hpf] at h ⊢
  have hfr : plainOp o = false → freshB kd B = true := fun hp => by rw [hp] at hpf; simpa using hpf
  have hS : ∀ v, K v B → K' v B := fun v => hK v B fun _ => Sub.refl B
  have hins : plainOp o = false → ∀ v b, K v (Bl.ins B kd b) → K' v (Bl.ins B kd b) := fun hp v b => hK v _ fun _ => Sub.ins (freshB_get (hfr hp) (Nat.le_refl _) (by omega))
  cases ho : o.op with
  | move x => simp only [act0, ho] at h ⊢; exact hS _ h
  | assign x => simp only [act0, ho] at h ⊢; exact hS _ h
  | pick c a b =>
    simp only [act0, ho] at h ⊢
    repeat' split at h
    all_goals first
      | exact h.elim
      | exact hS _ h
      | exact ⟨fun q => hS _ (h.1 q), fun q => hS _ (h.2 q)⟩
  | alloc t =>
    simp only [act0, ho] at h ⊢
    have hi := hins (by simp [plainOp, ho])
    repeat' split at h
    all_goals first
      | exact h.elim
      | exact hi _ _ h
  | box t x =>
    simp only [act0, ho] at h ⊢
    have hi := hins (by simp [plainOp, ho])
    repeat' split at h
    all_goals first
      | exact h.elim
      | exact hi _ _ h
  | build t ps =>
    simp only [act0, ho] at h ⊢
    repeat' split at h
    all_goals first
      | exact h.elim
      | exact hS _ h
  | buildSlice t n ps =>
    simp only [act0, ho] at h ⊢
    have hi := hins (by simp [plainOp, ho])
    repeat' split at h
    all_goals first
      | exact h.elim
      | exact hi _ _ h
  | load t x =>
    simp only [act0, ho] at h ⊢
    split at h
    · refine atAddr_mono (fun cs h => ?_) h
      repeat' split at h
      all_goals first
        | exact h.elim
        | exact hS _ h
    · exact h.elim
  | store t x y =>
    simp only [act0, ho] at h ⊢
    have hk : ∀ v B', K v B' → K' v B' := fun v B' => hK v B' (by simp [keepsK, ho])
    split at h
    · split at h
      · exact storeAt_mono (fun cs h => hk _ _ h) h
      · exact h.elim
    · exact h.elim
  | nilCheck x =>
    simp only [act0, ho] at h ⊢
    repeat' split at h
    all_goals first
      | exact h.elim
      | exact hS _ h
  | binOp op t x y yt =>
    simp only [act0, ho] at h ⊢
    repeat' split at h
    all_goals first
      | exact h.elim
      | exact binInt_mono hS h
      | exact eqSV_mono (fun _ => hS _) h
  | unOp op t x =>
    cases op <;> simp only [act0, ho] at h ⊢ <;> repeat' split at h
    all_goals first
      | exact h.elim
      | exact hS _ h
      | exact ⟨h.1, hS _ h.2⟩
  | convert s t x =>
    simp only [act0, ho] at h ⊢
    repeat' split at h
    all_goals first
      | exact h.elim
      | exact ⟨h.1, hS _ h.2⟩
  | makeFunc fn a b =>
    cases fn <;> simp only [act0, ho] at h ⊢ <;> repeat' split at h
    all_goals first
      | exact h.elim
      | exact hS _ h
  | slice t x l hh m =>
    simp only [act0, ho] at h ⊢
    repeat' split at h
    all_goals first
      | exact h.elim
      | exact hS _ h
      | exact sliceSV_mono hS h
  | fieldAddr t x f =>
    simp only [act0, ho] at h ⊢
    repeat' split at h
    all_goals first
      | exact h.elim
      | exact hS _ h
  | field t x f =>
    simp only [act0, ho] at h ⊢
    repeat' split at h
    all_goals first
      | exact h.elim
      | exact hS _ h
  | indexAddr t x i =>
    simp only [act0, ho] at h ⊢
    repeat' split at h
    all_goals first
      | exact h.elim
      | exact hS _ h
      | exact ⟨h.1, hS _ h.2⟩
      | exact h.2.elim
      | (obtain ⟨h0, h⟩ := h; repeat' split at h
         all_goals first
           | exact h.elim
           | exact ⟨h0, hS _ h⟩)
  | index t x i =>
    simp only [act0, ho] at h ⊢
    repeat' split at h
    all_goals first
      | exact h.elim
      | (obtain ⟨h0, h⟩ := h; repeat' split at h
         all_goals first
           | exact h.elim
           | exact ⟨h0, hS _ h⟩
           | (obtain ⟨c, h1, h2⟩ := h; exact ⟨h0, c, h1, hS _ h2⟩))
  | extract x i =>
    simp only [act0, ho] at h ⊢
    repeat' split at h
    all_goals first
      | exact h.elim
      | exact hS _ h
  | call c =>
    simp only [act0, ho, actC] at h ⊢
    split at h
    · rename_i f hcal
      split at h
      · rename_i g caps hg
        split at h
        · rename_i sp hsp
          have hfr' := hfr (by simp [plainOp, ho, hcal])
          by_cases hkp : E.keep g = true
          · refine hL.mono g sp hsp _ _ _ _ _ (fun v B' hq => hK v B' (fun _ => hq.1) hq.2) (hL.keep g sp hsp hkp _ _ _ _ hfr' h)
          · refine hL.mono g sp hsp _ _ _ _ _ (fun v B' hq => hK v B' (fun hkk => ?_) hq) h
            refine absurd ?_ hkp
            simp only [keepsK, ho, hcal] at hkk
            cases f with
            | func g' => rw [hfun] at hg; cases hg; exact hkk
            | _ => simp at hkk
        · exact h.elim
      · rename_i l qa qb hg
        split at h
        · rename_i sp hz hsp
          refine hL.yld l sp hsp _ _ _ _ _ (fun v B' hq => hK v B' (fun hkk => ?_) hq) h
          simp only [keepsK, ho, hcal] at hkk
          cases f with
          | func g' => rw [hfun] at hg; cases hg
          | _ => simp at hkk
        · exact h.elim
      · exact h.elim
    · repeat' split at h
      all_goals first
        | exact h.elim
        | exact lenSV_mono hS h
        | exact lenM_mono hS h
    · have hk : ∀ v B', K v B' → K' v B' := fun v B' => hK v B' (by simp [keepsK, ho, *])
      repeat' split at h
      all_goals first
        | exact h.elim
        | exact appendSV_mono hk h
    · have hk : ∀ v B', K v B' → K' v B' := fun v B' => hK v B' (by simp [keepsK, ho, *])
      repeat' split at h
      all_goals first
        | exact h.elim
        | exact clearSV_mono (fun _ => hk _ _) h
    · split at h
      · split at h
        · exact hS _ h
        · exact h.elim
      · exact h.elim
    · exact h.elim
  | makeMap t q =>
    simp only [act0, ho] at h ⊢
    have hi := hins (by simp [plainOp, ho])
    split at h
    · exact makeMapSV_mono (fun v b => hi v b) h
    · exact h.elim
  | mapUpdate t m k x =>
    simp only [act0, ho] at h ⊢
    have hk : ∀ v B', K v B' → K' v B' := fun v B' => hK v B' (by simp [keepsK, ho])
    exact updMapSV_mono (fun _ => hk _ _) h
  | lookup t m k ok =>
    simp only [act0, ho] at h ⊢
    exact lookMapSV_mono hS h
  | _ => simp only [act0, ho] at h
end Go.SX
