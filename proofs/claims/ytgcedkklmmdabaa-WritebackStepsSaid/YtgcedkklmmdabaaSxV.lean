/- A PART OF THE PROOF. NO CONDITION. -/
import Derived.Test.YtgcedkklmmdabaaSxS
section
set_option linter.unusedSimpArgs false
set_option linter.unusedVariables false
set_option linter.unusedVariables false
set_option linter.unusedSimpArgs false
namespace Go.SX

theorem act0_congr {E : Env} {o : Oper} {kd : Nat} {ρ ρ' : Operand → SV} {B : Bl} {K : SV → Bl → Prop} (h : ∀ x ∈ o.op.operands, ρ x = ρ' x) : act0 E o kd ρ B K = act0 E o kd ρ' B K := by
  have pairs : ∀ ps : Array (Nat × Operand), (∀ x ∈ ps.map (·.2), ρ x = ρ' x) → (ps.toList.map fun p => (p.1, ρ p.2)) = (ps.toList.map fun p => (p.1, ρ' p.2)) := fun ps hp =>
    List.map_congr_left fun p hm => by
      have : ρ p.2 = ρ' p.2 := hp p.2 (Array.mem_map.2 ⟨p, by simpa using hm, rfl⟩)
      rw [this]
  cases ho : o.op <;> rw [ho] at h <;> simp only [Op.operands] at h
  case build t ps => simp only [act0, ho]; rw [pairs ps fun x hx => h x (by simpa using hx)]
  case buildSlice t n ps => simp only [act0, ho]; rw [pairs ps fun x hx => h x (by simpa using hx)]
  case makeFunc fn first captured =>
    have hc : captured.toList.map ρ = captured.toList.map ρ' := List.map_congr_left fun x hx => h x (by simp at hx; simp [hx])
    cases fn <;> simp only [act0, ho]
    rw [hc]
  case call c =>
    have hargs : c.args.toList.map ρ = c.args.toList.map ρ' := List.map_congr_left fun x hx => h x (by simp at hx; simp [Call.operands, hx])
    have ha : ∀ x ∈ c.args.toList, ρ x = ρ' x := fun x hx => h x (by simp at hx; simp [Call.operands, hx])
    simp only [act0, ho, actC]
    cases hc : c.callee with
    | value f =>
      have hf : ρ f = ρ' f := h f (by simp [Call.operands, hc])
      simp only [hf, hargs]
    | invoke r m => rfl
    | builtin b =>
      cases b <;> simp only
      case len =>
        match hl : c.args.toList with
        | [x] => have e1 := ha x (by simp [hl]); split <;> simp_all
        | [] => rfl
        | _ :: _ :: _ => rfl
      case clear =>
        match hl : c.args.toList with
        | [x] => have e1 := ha x (by simp [hl]); split <;> simp_all
        | [] => rfl
        | _ :: _ :: _ => rfl
      case append =>
        match hl : c.args.toList with
        | [x, y] => have e1 := ha x (by simp [hl]); have e2 := ha y (by simp [hl]); split <;> simp_all
        | [] => rfl
        | [_] => rfl
        | _ :: _ :: _ :: _ => rfl
      case min =>
        match hl : c.args.toList with
        | [x, y] => have e1 := ha x (by simp [hl]); have e2 := ha y (by simp [hl]); split <;> simp_all
        | [] => rfl
        | [_] => rfl
        | _ :: _ :: _ :: _ => rfl
  case slice t x lo hi mx =>
    have e1 : ρ x = ρ' x := h x (by simp)
    have e2 : lo.map ρ = lo.map ρ' := by cases lo <;> simp_all
    have e3 : hi.map ρ = hi.map ρ' := by cases hi <;> simp_all
    simp only [act0, ho]
    rw [e1, e2, e3]
  case unOp op t x => cases op <;> simp only [act0, ho] <;> rw [h x (by simp)]
  case pick c a b => simp only [act0, ho]; rw [h c (by simp), h a (by simp), h b (by simp)]
  case binOp op t x y yt => simp only [act0, ho]; rw [h x (by simp), h y (by simp)]
  case store t x y => simp only [act0, ho]; rw [h x (by simp), h y (by simp)]
  case indexAddr t x y => simp only [act0, ho]; rw [h x (by simp), h y (by simp)]
  case index t x y => simp only [act0, ho]; rw [h x (by simp), h y (by simp)]
  case makeMap t q =>
    have e2 : q.map ρ = q.map ρ' := by cases q <;> simp_all
    simp only [act0, ho]; rw [e2]
  case mapUpdate t m k x => simp only [act0, ho]; rw [h m (by simp), h k (by simp), h x (by simp)]
  case lookup t m k ok => simp only [act0, ho]; rw [h m (by simp), h k (by simp)]
  all_goals (simp only [act0, ho])
  all_goals (rename_i x; first | rfl | (rw [h _ (by simp)]; done))
end Go.SX
end
section
set_option linter.unusedSimpArgs false
set_option linter.unusedVariables false
set_option linter.unusedVariables false
set_option linter.unusedSimpArgs false
namespace Go.SX

theorem atAddr_frame {B : Bl} {p : SV} {K : List SV → Prop} (h : atAddr B p K) : ∃ cs, K cs ∧ ∀ B' K', Sub B B' → K' cs → atAddr B' p K' := by
  unfold atAddr at *
  split at h
  · split at h
    · rename_i hg; exact ⟨_, h, fun B' K' hs hK => by simp only [hs _ _ hg]; exact hK⟩
    · rename_i hg
      split at h
      · rename_i hk ho; exact ⟨_, h.2, fun B' K' hs hK => by simp only [hs _ _ hg, hk, ho]; exact ⟨h.1, hK⟩⟩
      · exact h.elim
    · exact h.elim
  · split at h
    · rename_i hg; obtain ⟨c, h1, h2⟩ := h; exact ⟨_, h2, fun B' K' hs hK => by simp only [hs _ _ hg]; exact ⟨c, h1, hK⟩⟩
    · exact h.elim
  · split at h
    · rename_i hg
      split at h
      · rename_i hk; exact ⟨_, h.2, fun B' K' hs hK => by simp only [hs _ _ hg, hk]; exact ⟨h.1, hK⟩⟩
      · exact h.elim
    · exact h.elim
  · split at h
    · rename_i hg
      split at h
      · rename_i hk; obtain ⟨h0, c, h1, h2⟩ := h; exact ⟨_, h2, fun B' K' hs hK => by simp only [hs _ _ hg, hk]; exact ⟨h0, c, h1, hK⟩⟩
      · exact h.elim
    · exact h.elim
  · exact ⟨_, h.2, fun B' K' hs hK => ⟨h.1, hK⟩⟩
  · obtain ⟨h0, c, h1, h2⟩ := h; exact ⟨_, h2, fun B' K' hs hK => ⟨h0, c, h1, hK⟩⟩
  · exact h.elim
theorem binInt_frame {op : BinOp} {k : IntKind} {x y : Int} {K : SV → Prop} (h : binInt op k x y K) : ∃ v, K v ∧ ∀ K' : SV → Prop, K' v → binInt op k x y K' := by
  cases op <;> simp only [binInt] at * <;> first
    | exact ⟨_, h, fun _ hK => hK⟩
    | exact ⟨_, h.2, fun _ hK => ⟨h.1, hK⟩⟩
    | exact ⟨_, h.2.2, fun _ hK => ⟨h.1, h.2.1, hK⟩⟩
theorem eqSV_frame {E : Env} {t : Nat} {a b : SV} {K : Bool → Prop} (hb : isNilS b = false) (h : eqSV E t a b K) : ∃ v, K v ∧ ∀ K' : Bool → Prop, K' v → eqSV E t a b K' := by
  unfold eqSV at *
  cases ht : E.ty t with
  | none => simp [ht] at h
  | some ti =>
    simp only [ht] at h ⊢
    split at h
    · exact ⟨_, h, fun _ hK => hK⟩
    · split at h <;> simp_all
theorem lenSV_frame {s : SV} {K : SV → Prop} (h : lenSV s K) : ∃ v, K v ∧ ∀ K' : SV → Prop, K' v → lenSV s K' := by
  unfold lenSV at *
  repeat' split at h
  all_goals first
    | exact h.elim
    | exact ⟨_, h, fun _ hK => hK⟩
theorem sliceLH_frame {l h : Option SV} {n : Nat} {K : Nat → Nat → Prop} (hh : sliceLH l h n K) : ∃ a b, K a b ∧ ∀ K' : Nat → Nat → Prop, K' a b → sliceLH l h n K' := by
  unfold sliceLH at *
  repeat' split at hh
  all_goals first
    | exact hh.elim
    | exact ⟨_, _, hh, fun _ hK => hK⟩
    | exact ⟨_, _, hh.2, fun _ hK => ⟨hh.1, hK⟩⟩
theorem sliceSV_frame {s : SV} {l h : Option SV} {K : SV → Prop} (hh : sliceSV s l h K) : ∃ v, K v ∧ ∀ K' : SV → Prop, K' v → sliceSV s l h K' := by
  unfold sliceSV at *
  repeat' split at hh
  all_goals first
    | exact hh.elim
    | (obtain ⟨a, b, h1, h2⟩ := sliceLH_frame hh; exact ⟨_, h1, fun K' hK => h2 _ hK⟩)

theorem quiet_step {E : Env} {o : Oper} {kd : Nat} {ρ : Operand → SV} {B : Bl} {K : SV → Bl → Prop} (hq : quietK o ρ = true) (h : act0 E o kd ρ B K) :
    ∃ v, K v B ∧ ∀ kd' B' (K' : SV → Bl → Prop), (readsK o = true → Sub B B') → K' v B' → act0 E o kd' ρ B' K' := by
  cases ho : o.op with
  | move x => simp only [act0, ho] at h ⊢; exact ⟨_, h, fun _ _ _ _ hK => hK⟩
  | assign x => simp only [act0, ho] at h ⊢; exact ⟨_, h, fun _ _ _ _ hK => hK⟩
  | pick c a b =>
    simp only [act0, ho] at h ⊢
    split at h
    · exact ⟨_, h, fun _ _ _ _ hK => hK⟩
    · exact ⟨_, h, fun _ _ _ _ hK => hK⟩
    · split at h
      · exact ⟨_, h, fun _ _ _ _ hK => hK⟩
      · rename_i t _ _ _ _
        cases t with
        | true => exact ⟨_, h.1 rfl, fun _ _ _ _ hK => ⟨fun _ => hK, fun q => by cases q⟩⟩
        | false => exact ⟨_, h.2 rfl, fun _ _ _ _ hK => ⟨fun q => by (cases q), fun _ => hK⟩⟩
    · exact h.elim
  | build t ps =>
    simp only [act0, ho] at h ⊢
    repeat' split at h
    all_goals first
      | exact h.elim
      | exact ⟨_, h, fun _ _ _ _ hK => hK⟩
  | load t x =>
    simp only [act0, ho] at h ⊢
    split at h
    · obtain ⟨cs, h1, h2⟩ := atAddr_frame h
      split at h1
      · rename_i hl
        exact ⟨_, h1, fun _ B' K' hs hK => h2 B' _ (hs (by simp [readsK, ho])) (by simp only [hl]; exact hK)⟩
      · exact h1.elim
    · exact h.elim
  | nilCheck x =>
    simp only [act0, ho] at h ⊢
    repeat' split at h
    all_goals first
      | exact h.elim
      | exact ⟨_, h, fun _ _ _ _ hK => hK⟩
  | binOp op t x y yt =>
    simp only [act0, ho] at h ⊢
    simp only [quietK, ho, Bool.not_eq_true'] at hq
    repeat' split at h
    all_goals first
      | exact h.elim
      | (obtain ⟨v, h1, h2⟩ := binInt_frame h; exact ⟨v, h1, fun _ _ _ _ hK => h2 _ hK⟩)
      | (obtain ⟨v, h1, h2⟩ := eqSV_frame hq h; exact ⟨_, h1, fun _ _ _ _ hK => h2 _ hK⟩)
  | unOp op t x =>
    cases op <;> simp only [act0, ho] at h ⊢ <;> repeat' split at h
    all_goals first
      | exact h.elim
      | exact ⟨_, h, fun _ _ _ _ hK => hK⟩
      | exact ⟨_, h.2, fun _ _ _ _ hK => ⟨h.1, hK⟩⟩
  | convert s t x =>
    simp only [act0, ho] at h ⊢
    repeat' split at h
    all_goals first
      | exact h.elim
      | exact ⟨_, h.2, fun _ _ _ _ hK => ⟨h.1, hK⟩⟩
  | makeFunc fn a b =>
    cases fn <;> simp only [act0, ho] at h ⊢ <;> repeat' split at h
    all_goals first
      | exact h.elim
      | exact ⟨_, h, fun _ _ _ _ hK => hK⟩
  | slice t x l hh m =>
    simp only [act0, ho] at h ⊢
    repeat' split at h
    all_goals first
      | exact h.elim
      | exact ⟨_, h, fun _ _ _ _ hK => hK⟩
      | (obtain ⟨v, h1, h2⟩ := sliceSV_frame h; exact ⟨v, h1, fun _ _ _ _ hK => h2 _ hK⟩)
  | fieldAddr t x f =>
    simp only [act0, ho] at h ⊢
    repeat' split at h
    all_goals first
      | exact h.elim
      | exact ⟨_, h, fun _ _ _ _ hK => hK⟩
  | field t x f =>
    simp only [act0, ho] at h ⊢
    repeat' split at h
    all_goals first
      | exact h.elim
      | exact ⟨_, h, fun _ _ _ _ hK => hK⟩
  | indexAddr t x i =>
    have hr : readsK o = true := by simp [readsK, ho]
    simp only [act0, ho] at h ⊢
    split at h
    · split at h
      · split at h
        · split at h
          · exact h.elim
          · obtain ⟨h0, h⟩ := h
            split at h
            · have hg := ‹Bl.get B _ = some _›; exact ⟨_, h, fun _ _ _ hs hK => ⟨h0, by simp only [hs hr _ _ hg]; exact hK⟩⟩
            · have hg := ‹Bl.get B _ = some _›; exact ⟨_, h, fun _ _ _ hs hK => ⟨h0, by simp only [hs hr _ _ hg]; exact hK⟩⟩
            · have hg := ‹Bl.get B _ = some _›; exact ⟨_, h, fun _ _ _ hs hK => ⟨h0, by simp only [hs hr _ _ hg]; exact hK⟩⟩
            · exact h.elim
        · split at h
          · exact ⟨_, h.2, fun _ _ _ _ hK => ⟨h.1, hK⟩⟩
          · exact h.elim
        · exact h.elim
      · split at h
        · split at h
          · exact h.elim
          · obtain ⟨h0, h⟩ := h
            split at h
            · exact ⟨_, h, fun _ _ _ _ hK => ⟨h0, hK⟩⟩
            · split at h
              · have hg := ‹Bl.get B _ = some _›
                split at h
                · exact ⟨_, h, fun _ _ _ hs hK => ⟨h0, by simp only [hs hr _ _ hg, *] <;> exact hK⟩⟩
                · split at h
                  · exact ⟨_, h, fun _ _ _ hs hK => ⟨h0, by simp only [hs hr _ _ hg, *] <;> exact hK⟩⟩
                  · exact h.elim
              · have hg := ‹Bl.get B _ = some _›; exact ⟨_, h, fun _ _ _ hs hK => ⟨h0, by simp only [hs hr _ _ hg]; exact hK⟩⟩
              · exact h.elim
            · exact ⟨_, h, fun _ _ _ _ hK => ⟨h0, hK⟩⟩
            · split at h
              · have hg := ‹Bl.get B _ = some _›
                split at h
                · exact ⟨_, h, fun _ _ _ hs hK => ⟨h0, by simp only [hs hr _ _ hg, *] <;> exact hK⟩⟩
                · split at h
                  · exact ⟨_, h, fun _ _ _ hs hK => ⟨h0, by simp only [hs hr _ _ hg, *] <;> exact hK⟩⟩
                  · exact h.elim
              · exact h.elim
            · exact ⟨_, h, fun _ _ _ _ hK => ⟨h0, hK⟩⟩
            · exact ⟨_, h, fun _ _ _ _ hK => ⟨h0, hK⟩⟩
            · exact h.elim
        · exact h.elim
    · exact h.elim
  | index t x i =>
    simp only [act0, ho] at h ⊢
    repeat' split at h
    all_goals first
      | exact h.elim
      | (obtain ⟨h0, h⟩ := h; repeat' split at h
         all_goals first
           | exact h.elim
           | exact ⟨_, h, fun _ _ _ _ hK => ⟨h0, hK⟩⟩
           | (obtain ⟨c, h1, h2⟩ := h; exact ⟨_, h2, fun _ _ _ _ hK => ⟨h0, c, h1, hK⟩⟩))
  | extract x i =>
    simp only [act0, ho] at h ⊢
    repeat' split at h
    all_goals first
      | exact h.elim
      | exact ⟨_, h, fun _ _ _ _ hK => hK⟩
  | call c =>
    simp only [quietK, ho] at hq
    simp only [act0, ho, actC] at h ⊢
    cases hc : c.callee with
    | builtin b =>
      cases b <;> simp only [hc] at hq h ⊢ <;> try (cases hq; done)
      case len =>
        split at h
        · rename_i x t hx ht
          simp only [hx] at hq
          have hnm : ∀ key, ρ x ≠ .mapv key := fun key e => by rw [e] at hq; cases hq
          split at h
          · obtain ⟨v, h1, h2⟩ := lenSV_frame h; exact ⟨v, h1, fun _ _ _ _ hK => by simp only [hx, ht, *] <;> exact h2 _ hK⟩
          · unfold lenM at h
            split at h
            · rename_i key e; exact absurd e (hnm key)
            · exact h.elim
          · exact h.elim
        · exact h.elim
      case min =>
        split at h
        · split at h
          · exact ⟨_, h, fun _ _ _ _ hK => hK⟩
          · exact h.elim
        · exact h.elim
    | _ => simp [hc] at hq
  | _ => simp only [quietK, ho] at hq <;> cases hq
end Go.SX
end
