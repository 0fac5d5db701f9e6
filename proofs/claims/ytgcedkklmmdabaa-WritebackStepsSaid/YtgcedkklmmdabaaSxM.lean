/- A PART OF THE PROOF. NO CONDITION. -/
import Derived.Test.YtgcedkklmmdabaaSxL
set_option linter.unusedSimpArgs false
set_option linter.unusedVariables false
set_option linter.unusedVariables false
set_option linter.unusedSimpArgs false
namespace Go.SX

section acts
variable {P : Program} {E : Env} (hE : EnvOk P E) {X : PH} {ρ : Rho} {B : Bl} {w : World} (hm : Mem X ρ B w) {kd : Nat} (hf : ∀ key, kd ≤ key → key < kd + 8 → ρ key = none ∧ Bl.get B key = none)
  {r : Operand → SV} {ev : Operand → Value} (hev : ∀ x, Rv X ρ (r x) (ev x)) {K : SV → Bl → Prop} {o : Oper}

include hE hm hev in
theorem act_slice (hconst : ∀ v, ev (.const v) = v) {t : Nat} {x : Operand} {l h m : Option Operand} (ho : o.op = .slice t x l h m) (hh : act0 E o kd r B K) : OpOk P o ev w (Out X ρ B kd K) := by
  simp only [act0, ho] at hh
  cases he : elemSl E t with
  | none => simp [he] at hh
  | some e =>
    simp only [he] at hh
    have hu := elemSl_und hE he
    cases hte : E.ty e with
    | none => simp [hte] at hh
    | some te =>
      simp only [hte] at hh
      have hsz := (hE.ty e te hte).run_sizeOf
      have hx := hev x
      cases m with
      | some mm =>
        simp only at hh
        split at hh <;> first | exact hh.elim | skip
        all_goals
          rename_i hz hr
          rw [Bool.and_eq_true, Bool.and_eq_true] at hz
          obtain ⟨⟨hz1, hz2⟩, hz3⟩ := hz
          have hl : l = none := by cases l with | none => rfl | some q => simp at hz3
          subst hl
          have hzero : ∀ q : Option Operand, isZero q = true → ∃ k, q = some (.const (.int k 0)) := fun q hq => by
            unfold isZero at hq
            split at hq
            · exact ⟨_, rfl⟩
            · cases hq
          obtain ⟨k1, rfl⟩ := hzero h hz1
          obtain ⟨k2, hm2⟩ := hzero (some mm) hz2
          cases hm2
          have fin : ∀ A n c, ev x = .slice A n c → OpOk P o ev w (Out X ρ B kd K) := fun A n c hv => by
            refine OpOk.value (v := .slice A 0 0) (w' := w) ?_ (Out.same hm (.e0 ρ A) hh)
            simp [execOp, ho, hv, hconst, Instr.sliceAt, Instr.slice, Instr.sliceBounds, run_sliceBound', run_underlying hu, hsz]
          rw [hr] at hx
          generalize hv : ev x = v at hx
          cases hx
          exact fin _ _ _ hv
      | none =>
        simp only at hh
        have bnd : ∀ n c : Nat, n ≤ c → ∀ K' : Nat → Nat → Prop, sliceLH (l.map r) (h.map r) n K' → ∃ a b, K' a b ∧ a ≤ b ∧ b ≤ n ∧ (Instr.sliceBounds true n c (l.map ev) (h.map ev) none).run P w = .ok (a, b, c) w := fun n c hnc K' hK =>
          sliceLH_sound (fun s hs => by
            cases l with
            | none => cases hs
            | some q => cases hs; exact ⟨_, rfl, hev q⟩) (fun hn => by cases l with | none => rfl | some q => cases hn) (fun s hs => by
            cases h with
            | none => cases hs
            | some q => cases hs; exact ⟨_, rfl, hev q⟩) (fun hn => by cases h with | none => rfl | some q => cases hn) hnc hK w
        split at hh
        · rename_i key k q n hr
          rw [hr] at hx
          cases hk : Nat.beq k te.size with
          | false => simp only [hk] at hh
          | true =>
            simp only [hk, sliceSV] at hh
            have hks := Nat.eq_of_beq_eq_true hk
            generalize hv : ev x = v at hx
            cases hx with
            | sl _ _ _ _ _ c A hn hA =>
              obtain ⟨a, b, hK, hab, hbn, hrun⟩ := bnd n c hn _ hh
              refine OpOk.value (v := .slice (if c = a then A else A.map (·.add (a * te.size))) (b - a) (c - a)) (w' := w) ?_ (Out.same hm (sv := .sl key k (q + a) (b - a)) (by rw [← hks]; exact slice_sl hn hA hab hbn) hK)
              simp [execOp, ho, hv, Instr.sliceAt, Instr.slice, run_underlying hu, hrun, hsz]
        · rename_i α d enc xs hr
          rw [hr] at hx
          cases hk : Nat.beq te.size (enc d).length with
          | false => simp only [hk] at hh
          | true =>
            simp only [hk, sliceSV] at hh
            have hks := Nat.eq_of_beq_eq_true hk
            generalize hv : ev x = v at hx
            have hx2 := hx
            cases hx with
            | ro _ _ _ _ _ A c b0 p cs ty fz cell hc hA hkk hcs hrr =>
              obtain ⟨a, b, hK, hab, hbn, hrun⟩ := bnd xs.length c hc _ hh
              refine OpOk.value (v := .slice (if c = a then A else A.map (·.add (a * te.size))) (b - a) (c - a)) (w' := w) ?_ (Out.same hm (by rw [hks]; exact slice_ro hx2 hab hbn) hK)
              simp [execOp, ho, hv, Instr.sliceAt, Instr.slice, run_underlying hu, hrun, hsz]
        · exact hh.elim
end acts
end Go.SX
