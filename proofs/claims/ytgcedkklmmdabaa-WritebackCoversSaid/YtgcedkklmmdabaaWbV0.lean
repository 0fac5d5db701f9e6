/- A PART OF THE PROOF. NO CONDITION. -/
import Derived.Test.YtgcedkklmmdabaaWbU
noncomputable section
set_option linter.unusedVariables false
set_option linter.unusedVariables false
set_option linter.unusedSimpArgs false
namespace Go.WbW
open Go.Proofs Go.SX Go.Wb
/-! the plain laws on what runs cover -/
theorem allL_perm {l : List DP} (hc : chk l = 0) : (allL l 4).Perm (l.map plO) := by
  refine (List.perm_ext_iff_of_nodup ((allL_sorted l 4 (Nat.le_refl _)).imp fun {a b} h e => ?_) (places_nodup hc)).2 fun x => ?_
  · subst e; unfold ltP at h; omega
  · rw [mem_places hc]
theorem runsO_chop {l : List DP} {most : Int} (hc : chk l = 0) (hm : 1 ≤ most) : runsO ⟨l, most⟩ = chop most.toNat (allL l 4).length (allL l 4) := by
  have he : runsE ⟨l, most⟩ = 0 := by rw [runsE, if_pos hc, if_neg (by show ¬ most < 1; omega)]
  rw [runsO, if_pos he]
  show runsTo l most 4 = _
  rw [← chR_runs hm]; rfl
theorem runs_flat {l : List DP} {most : Int} (hc : chk l = 0) (hm : 1 ≤ most) : (runsO ⟨l, most⟩).flatMap expand = allL l 4 := by
  rw [runsO_chop hc hm]
  exact chop_flat (by omega) _ _ (Nat.le_refl _)
theorem runsInside {l : List DP} {most : Int} (hc : chk l = 0) (hm : 1 ≤ most) {x : DR} (hx : x ∈ runsO ⟨l, most⟩) : 0 ≤ x.file ∧ x.file < 4 ∧ 0 ≤ x.index ∧ 1 ≤ x.count ∧ x.count ≤ most ∧ x.index + x.count ≤ 16 := by
  have h1 : 1 ≤ x.count ∧ x.count ≤ most.toNat := by
    rw [runsO_chop hc hm] at hx
    exact chop_count (by omega) _ _ _ hx
  have hin : ∀ k : Nat, (k : Int) < x.count → (⟨x.file, x.index + k⟩ : PL) ∈ allL l 4 := fun k hk => by
    rw [← runs_flat hc hm]
    exact List.mem_flatMap.2 ⟨x, hx, List.mem_map.2 ⟨k, List.mem_range.2 (by omega), rfl⟩⟩
  have a := hin 0 (by omega)
  have b := hin (x.count - 1).toNat (by omega)
  rw [allL_mem l 4 (Nat.le_refl _)] at a b
  obtain ⟨a1, a2, j, a3, a4, _⟩ := a
  obtain ⟨b1, b2, j', b3, b4, _⟩ := b
  simp only at a1 a2 a3 b1 b2 b3
  refine ⟨by omega, by omega, by omega, by omega, by omega, by omega⟩
theorem run_apart {l : List DP} {most : Int} (hc : chk l = 0) (hm : 1 ≤ most) {i : Nat} (hi : i + 1 < (runsO ⟨l, most⟩).length) (h1 : ((runsO ⟨l, most⟩).getD i dDR).file = ((runsO ⟨l, most⟩).getD (i + 1) dDR).file)
    (h2 : ((runsO ⟨l, most⟩).getD i dDR).index + ((runsO ⟨l, most⟩).getD i dDR).count = ((runsO ⟨l, most⟩).getD (i + 1) dDR).index) : ((runsO ⟨l, most⟩).getD i dDR).count = most := by
  rw [runsO_chop hc hm] at hi h1 h2 ⊢
  have := chop_apart (most := most.toNat) (by omega) _ _ (Nat.le_refl _) i hi h1 h2
  omega
end Go.WbW
