/- A PART OF THE PROOF. NO CONDITION. -/
import Derived.Test.YtgcedkklmmdabaaSxS
set_option linter.unusedSimpArgs false
set_option linter.unusedVariables false
set_option linter.unusedVariables false
set_option linter.unusedSimpArgs false
namespace Go.SX

theorem act0_congr {E : Env} {o : Oper} {kd : Nat} {ρ ρ' : Operand → SV} {B : Bl} {K : SV → Bl → Prop} (h : ∀ x ∈ o.op.operands, ρ x = ρ' x) : act0 E o kd ρ B K = act0 E o kd ρ' B K := by
  have pairs : ∀ ps : Array (Nat × Operand), (∀ x ∈ ps.map (·.2), ρ x = ρ' x) → (ps.toList.map fun p => (p.1, ρ p.2)) = (ps.toList.map fun p => (p.1, ρ' p.2)) := fun ps hp =>
    List.map_congr_left fun p hm => by
      have : ρ p.2 = ρ' p.2 := hp p.2 (Array.mem_map.2 ⟨p, by simpa using hm, rfl⟩)
      rw [this]
  cases ho : o.op <;> rw [ho] at h <;> simp only [Op.operands] at h
  case build t ps => simp only [act0, ho]; rw [pairs ps fun x hx => h x (by simpa using hx)]
  case buildSlice t n ps => simp only [act0, ho]; rw [pairs ps fun x hx => h x (by simpa using hx)]
  case makeFunc fn first captured =>
    have hc : captured.toList.map ρ = captured.toList.map ρ' := List.map_congr_left fun x hx => h x (by simp at hx; simp [hx])
    cases fn <;> simp only [act0, ho]
    rw [hc]
  case call c =>
    have hargs : c.args.toList.map ρ = c.args.toList.map ρ' := List.map_congr_left fun x hx => h x (by simp at hx; simp [Call.operands, hx])
    have ha : ∀ x ∈ c.args.toList, ρ x = ρ' x := fun x hx => h x (by simp at hx; simp [Call.operands, hx])
    simp only [act0, ho, actC]
    cases hc : c.callee with
    | value f =>
      have hf : ρ f = ρ' f := h f (by simp [Call.operands, hc])
      simp only [hf, hargs]
    | invoke r m => rfl
    | builtin b =>
      cases b <;> simp only
      case len =>
        match hl : c.args.toList with
        | [x] => have e1 := ha x (by simp [hl]); split <;> simp_all
        | [] => rfl
        | _ :: _ :: _ => rfl
      case clear =>
        match hl : c.args.toList with
        | [x] => have e1 := ha x (by simp [hl]); split <;> simp_all
        | [] => rfl
        | _ :: _ :: _ => rfl
      case append =>
        match hl : c.args.toList with
        | [x, y] => have e1 := ha x (by simp [hl]); have e2 := ha y (by simp [hl]); split <;> simp_all
        | [] => rfl
        | [_] => rfl
        | _ :: _ :: _ :: _ => rfl
      case min =>
        match hl : c.args.toList with
        | [x, y] => have e1 := ha x (by simp [hl]); have e2 := ha y (by simp [hl]); split <;> simp_all
        | [] => rfl
        | [_] => rfl
        | _ :: _ :: _ :: _ => rfl
  case slice t x lo hi mx =>
    have e1 : ρ x = ρ' x := h x (by simp)
    have e2 : lo.map ρ = lo.map ρ' := by cases lo <;> simp_all
    have e3 : hi.map ρ = hi.map ρ' := by cases hi <;> simp_all
    simp only [act0, ho]
    rw [e1, e2, e3]
  case unOp op t x => cases op <;> simp only [act0, ho] <;> rw [h x (by simp)]
  case pick c a b => simp only [act0, ho]; rw [h c (by simp), h a (by simp), h b (by simp)]
  case binOp op t x y yt => simp only [act0, ho]; rw [h x (by simp), h y (by simp)]
  case store t x y => simp only [act0, ho]; rw [h x (by simp), h y (by simp)]
  case indexAddr t x y => simp only [act0, ho]; rw [h x (by simp), h y (by simp)]
  case index t x y => simp only [act0, ho]; rw [h x (by simp), h y (by simp)]
  case makeMap t q =>
    have e2 : q.map ρ = q.map ρ' := by cases q <;> simp_all
    simp only [act0, ho]; rw [e2]
  case mapUpdate t m k x => simp only [act0, ho]; rw [h m (by simp), h k (by simp), h x (by simp)]
  case lookup t m k ok => simp only [act0, ho]; rw [h m (by simp), h k (by simp)]
  all_goals (simp only [act0, ho])
  all_goals (rename_i x; first | rfl | (rw [h _ (by simp)]; done))
end Go.SX
