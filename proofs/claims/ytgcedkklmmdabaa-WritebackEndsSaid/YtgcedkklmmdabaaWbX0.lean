/- A PART OF THE PROOF. NO CONDITION. -/
import Derived.Test.YtgcedkklmmdabaaWbU
import Derived.Test.YtgcedkklmmdabaaSxAD
section
noncomputable section
set_option linter.unusedVariables false
set_option linter.unusedVariables false
set_option linter.unusedSimpArgs false
namespace Go.WbW
open Go.Proofs Go.SX Go.Wb
/-! the plain laws on what runs cover -/
theorem allL_perm {l : List DP} (hc : chk l = 0) : (allL l 4).Perm (l.map plO) := by
  refine (List.perm_ext_iff_of_nodup ((allL_sorted l 4 (Nat.le_refl _)).imp fun {a b} h e => ?_) (places_nodup hc)).2 fun x => ?_
  · subst e; unfold ltP at h; omega
  · rw [mem_places hc]
theorem runsO_chop {l : List DP} {most : Int} (hc : chk l = 0) (hm : 1 ≤ most) : runsO ⟨l, most⟩ = chop most.toNat (allL l 4).length (allL l 4) := by
  have he : runsE ⟨l, most⟩ = 0 := by rw [runsE, if_pos hc, if_neg (by show ¬ most < 1; omega)]
  rw [runsO, if_pos he]
  show runsTo l most 4 = _
  rw [← chR_runs hm]; rfl
theorem runs_flat {l : List DP} {most : Int} (hc : chk l = 0) (hm : 1 ≤ most) : (runsO ⟨l, most⟩).flatMap expand = allL l 4 := by
  rw [runsO_chop hc hm]
  exact chop_flat (by omega) _ _ (Nat.le_refl _)
theorem runsInside {l : List DP} {most : Int} (hc : chk l = 0) (hm : 1 ≤ most) {x : DR} (hx : x ∈ runsO ⟨l, most⟩) : 0 ≤ x.file ∧ x.file < 4 ∧ 0 ≤ x.index ∧ 1 ≤ x.count ∧ x.count ≤ most ∧ x.index + x.count ≤ 16 := by
  have h1 : 1 ≤ x.count ∧ x.count ≤ most.toNat := by
    rw [runsO_chop hc hm] at hx
    exact chop_count (by omega) _ _ _ hx
  have hin : ∀ k : Nat, (k : Int) < x.count → (⟨x.file, x.index + k⟩ : PL) ∈ allL l 4 := fun k hk => by
    rw [← runs_flat hc hm]
    exact List.mem_flatMap.2 ⟨x, hx, List.mem_map.2 ⟨k, List.mem_range.2 (by omega), rfl⟩⟩
  have a := hin 0 (by omega)
  have b := hin (x.count - 1).toNat (by omega)
  rw [allL_mem l 4 (Nat.le_refl _)] at a b
  obtain ⟨a1, a2, j, a3, a4, _⟩ := a
  obtain ⟨b1, b2, j', b3, b4, _⟩ := b
  simp only at a1 a2 a3 b1 b2 b3
  refine ⟨by omega, by omega, by omega, by omega, by omega, by omega⟩
theorem run_apart {l : List DP} {most : Int} (hc : chk l = 0) (hm : 1 ≤ most) {i : Nat} (hi : i + 1 < (runsO ⟨l, most⟩).length) (h1 : ((runsO ⟨l, most⟩).getD i dDR).file = ((runsO ⟨l, most⟩).getD (i + 1) dDR).file)
    (h2 : ((runsO ⟨l, most⟩).getD i dDR).index + ((runsO ⟨l, most⟩).getD i dDR).count = ((runsO ⟨l, most⟩).getD (i + 1) dDR).index) : ((runsO ⟨l, most⟩).getD i dDR).count = most := by
  rw [runsO_chop hc hm] at hi h1 h2 ⊢
  have := chop_apart (most := most.toNat) (by omega) _ _ (Nat.le_refl _) i hi h1 h2
  omega
end Go.WbW
end
end
section
noncomputable section
set_option linter.unusedVariables false
set_option linter.unusedVariables false
set_option linter.unusedSimpArgs false
namespace Go.WbW
open Go.Proofs Go.SX Go.Wb
set_option maxRecDepth 100000
/-! Clone and Reverse of runs -/
def cCloneR : Con := newCon (List DR) Unit (fun l => [roR l]) (fun l => l.length ≤ 1000000000) (fun _ _ => True) (fun l _ => .sl 0 3 0 l.length) (fun l _ => .arr DR dDR encDR l)
theorem vCloneR_eq : (cCloneR.body (fun g => env [] (noLoops g)) Try.f26) = (∀ (g : List DR), List.length g ≤ (1000000000 : Nat) → ∀ (c : Bool), (c = true → g = []) → (c = true → ∃ (b : Unit), True ∧ ((SV.val (Value.slice none (0 : Nat) (0 : Nat)) = SV.val
  (Value.slice none (0 : Nat) (0 : Nat)) ∧ (0 : Nat) = (0 : Nat) ∧ List.length g = (0 : Nat)) ∧ (∀ (x : DR), allFlat (encDR x) = true) ∧ g = [] ∧ ∀ (x : DR), (3 : Nat) = (3 : Nat) ∧
  allOne (encDR x) = true) ∧ (0 : Nat) = (0 : Nat) ∧ True) ∧ (c = false → ∃ (ys : List (Enc.α (Enc.mk (DR) (dDR) (encDR)))), relaxL (Enc.enc (Enc.mk (DR) (dDR) (encDR)) (Enc.d
  (Enc.mk (DR) (dDR) (encDR)))) (List.map encDR g) = List.map (Enc.enc (Enc.mk (DR) (dDR) (encDR))) ys ∧ (List.length ys * (24 : Nat) ≤ (140737488355328 : Nat) ∧ ∀ (x : Enc.α (Enc.mk
  (DR) (dDR) (encDR))), (3 : Nat) = (3 : Nat) ∧ allOne (Enc.enc (Enc.mk (DR) (dDR) (encDR)) x) = true) ∧ ∃ (b : Unit), True ∧ ((SV.sl (48 : Nat) (3 : Nat) (0 : Nat) (List.length ys)
  = SV.sl (48 : Nat) (3 : Nat) (0 : Nat) (List.length ys) ∧ (0 : Nat) = (0 : Nat) ∧ (3 : Nat) = (3 : Nat) ∧ List.length ys = List.length g) ∧ (∀ (x : DR), allFlat (encDR x) = true) ∧
  (0 : Nat) + List.length ys ≤ List.length ys ∧ LB.arr (Enc.α (Enc.mk (DR) (dDR) (encDR))) (Enc.d (Enc.mk (DR) (dDR) (encDR))) (Enc.enc (Enc.mk (DR) (dDR) (encDR))) (List.take
  (List.length ys) (List.drop (0 : Nat) ys)) = LB.arr DR dDR encDR g) ∧ (0 : Nat) = (0 : Nat) ∧ True)) := by kernel_rfl
theorem vCloneR : cCloneR.body (fun g => env [] (noLoops g)) Try.f26 := by
  rw [vCloneR_eq]
  intro l hlen c hc
  refine ⟨fun h => ⟨(), trivial, ⟨⟨rfl, rfl, by rw [hc h]; rfl⟩, fun _ => rfl, hc h, okDR⟩, rfl, trivial⟩, fun _ => ⟨l, rfl, ⟨by omega, okDR⟩, (), trivial, ⟨⟨rfl, rfl, rfl, rfl⟩, fun _ => rfl, by omega, ?_⟩, rfl, trivial⟩⟩
  rw [List.drop_zero, List.take_length]
theorem sCloneR : SpecOk P 26 cCloneR.spec := spec_of cCloneR (tab_nil P) mixed (fn := Try.f26) (by kernel_rfl) (by kernel_rfl) (by kernel_rfl) (Nat.zero_le _) (noIns fun _ => rfl) vCloneR
/-- the list after i swaps -/
def rv (l : List DR) (i : Nat) : List DR := (List.range l.length).map fun p => if p < i ∨ l.length - i ≤ p then l.getD (l.length - 1 - p) dDR else l.getD p dDR
def cRev : Con := { γ := List DR, β := Unit, keys := fun svs => slKeys (getSlot svs 0), m := 1, args := fun l => [.sl 0 3 0 l.length], ins := fun l => [.arr DR dDR encDR l], pre := fun l => l.length ≤ 1000000000, post := fun _ _ => True, res := fun _ _ => .tup [], outs := fun l _ => [.arr DR dDR encDR l.reverse], new := fun _ _ => none }
def lRev (l : List DR) : Loops := loop1 0 { γ := Nat, slots := [2, 3], vals := fun _ i => [I i, I ((l.length : Int) - 1 - i)], blks := fun _ i => [(0, .arr DR dDR encDR (rv l i))], inv := fun i => 2 * i ≤ l.length, μ := fun i => l.length - i }
theorem vRev_eq : (cRev.body (fun g => env [] (lRev g)) Try.f27) = (∀ (g : List DR), List.length g ≤ (1000000000 : Nat) → inK IntKind.i64 ((↑(List.length g) : Int) - (1 : Int)) ∧ (∃ (g_1 : Nat), (2 : Nat) * g_1 ≤ List.length g ∧ ((0 : Int) = (↑g_1
  : Int) ∧ (↑(List.length g) : Int) - (1 : Int) = (↑(List.length g) : Int) - (1 : Int) - (↑g_1 : Int)) ∧ (LB.arr DR dDR encDR g = LB.arr DR dDR encDR (rv g g_1) ∧ True) ∧ True) ∧ ∀
  (g_1 : Nat), (2 : Nat) * g_1 ≤ List.length g → (decide ((↑g_1 : Int) < (↑(List.length g) : Int) - (1 : Int) - (↑g_1 : Int)) = true → ((0 : Int) ≤ (↑(List.length g) : Int) - (1 :
  Int) - (↑g_1 : Int) ∧ (↑(List.length g) : Int) - (1 : Int) - (↑g_1 : Int) < (↑(List.length g) : Int)) ∧ (0 : Nat) + Int.toNat ((↑(List.length g) : Int) - (1 : Int) - (↑g_1 : Int))
  < List.length (rv g g_1) ∧ ((0 : Int) ≤ (↑g_1 : Int) ∧ (↑g_1 : Int) < (↑(List.length g) : Int)) ∧ (0 : Nat) + Int.toNat (↑g_1 : Int) < List.length (rv g g_1) ∧ ((0 : Int) ≤ (↑g_1 :
  Int) ∧ (↑g_1 : Int) < (↑(List.length g) : Int)) ∧ (0 : Nat) + Int.toNat (↑g_1 : Int) < List.length (rv g g_1) ∧ ∃ (x : DR), [SV.val (Value.int IntKind.i64 (DR.file x)), SV.val
  (Value.int IntKind.i64 (DR.index x)), SV.val (Value.int IntKind.i64 (DR.count x))] = [SV.val (Value.int IntKind.i64 (DR.file (List.getD (rv g g_1) ((0 : Nat) + Int.toNat
  ((↑(List.length g) : Int) - (1 : Int) - (↑g_1 : Int))) dDR))), SV.val (Value.int IntKind.i64 (DR.index (List.getD (rv g g_1) ((0 : Nat) + Int.toNat ((↑(List.length g) : Int) - (1 :
  Int) - (↑g_1 : Int))) dDR))), SV.val (Value.int IntKind.i64 (DR.count (List.getD (rv g g_1) ((0 : Nat) + Int.toNat ((↑(List.length g) : Int) - (1 : Int) - (↑g_1 : Int))) dDR)))] ∧
  ((0 : Int) ≤ (↑(List.length g) : Int) - (1 : Int) - (↑g_1 : Int) ∧ (↑(List.length g) : Int) - (1 : Int) - (↑g_1 : Int) < (↑(List.length g) : Int)) ∧ (0 : Nat) + Int.toNat
  ((↑(List.length g) : Int) - (1 : Int) - (↑g_1 : Int)) < List.length (List.set (rv g g_1) ((0 : Nat) + Int.toNat (↑g_1 : Int)) x) ∧ ∃ (x_1 : DR), [SV.val (Value.int IntKind.i64
  (DR.file x_1)), SV.val (Value.int IntKind.i64 (DR.index x_1)), SV.val (Value.int IntKind.i64 (DR.count x_1))] = [SV.val (Value.int IntKind.i64 (DR.file (List.getD (rv g g_1) ((0 :
  Nat) + Int.toNat (↑g_1 : Int)) dDR))), SV.val (Value.int IntKind.i64 (DR.index (List.getD (rv g g_1) ((0 : Nat) + Int.toNat (↑g_1 : Int)) dDR))), SV.val (Value.int IntKind.i64
  (DR.count (List.getD (rv g g_1) ((0 : Nat) + Int.toNat (↑g_1 : Int)) dDR)))] ∧ inK IntKind.i64 ((↑g_1 : Int) + (1 : Int)) ∧ inK IntKind.i64 ((↑(List.length g) : Int) - (1 : Int) -
  (↑g_1 : Int) - (1 : Int)) ∧ ∃ (g' : Nat), (2 : Nat) * g' ≤ List.length g ∧ List.length g - g' < List.length g - g_1 ∧ ((↑g_1 : Int) + (1 : Int) = (↑g' : Int) ∧ (↑(List.length g) :
  Int) - (1 : Int) - (↑g_1 : Int) - (1 : Int) = (↑(List.length g) : Int) - (1 : Int) - (↑g' : Int)) ∧ (LB.arr DR dDR encDR (List.set (List.set (rv g g_1) ((0 : Nat) + Int.toNat (↑g_1
  : Int)) x) ((0 : Nat) + Int.toNat ((↑(List.length g) : Int) - (1 : Int) - (↑g_1 : Int))) x_1) = LB.arr DR dDR encDR (rv g g') ∧ True) ∧ True) ∧ (decide ((↑g_1 : Int) <
  (↑(List.length g) : Int) - (1 : Int) - (↑g_1 : Int)) = false → ∃ (b : Unit), True ∧ True ∧ (1 : Nat) = (1 : Nat) ∧ some (LB.arr DR dDR encDR (rv g g_1)) = some (LB.arr DR dDR encDR
  (List.reverse g)) ∧ ∀ (x : DR), allFlat (encDR x) = true)) := by kernel_rfl
theorem rv_len (l : List DR) (i : Nat) : (rv l i).length = l.length := by rw [rv, List.length_map, List.length_range]
theorem rv_get {l : List DR} {i p : Nat} (h : p < l.length) : (rv l i).getD p dDR = if p < i ∨ l.length - i ≤ p then l.getD (l.length - 1 - p) dDR else l.getD p dDR := by
  rw [rv, List.getD_eq_getElem?_getD, List.getElem?_map, List.getElem?_range h]; rfl
theorem dr_ext {a b : List DR} (hl : a.length = b.length) (h : ∀ p, p < b.length → a.getD p dDR = b.getD p dDR) : a = b := by
  apply List.ext_getElem hl
  intro p h1 h2
  have := h p h2
  simpa [List.getD_eq_getElem?_getD, List.getElem?_eq_getElem h1, List.getElem?_eq_getElem h2] using this
theorem getD_setR {l : List DR} {i p : Nat} {x : DR} (hi : i < l.length) : (l.set i x).getD p dDR = if i = p then x else l.getD p dDR := by
  rw [List.getD_eq_getElem?_getD, List.getElem?_set]
  by_cases e : i = p
  · rw [if_pos e, if_pos e, if_pos hi]; rfl
  · rw [if_neg e, if_neg e, ← List.getD_eq_getElem?_getD]
theorem rv_zero (l : List DR) : rv l 0 = l := dr_ext (rv_len l 0) fun p hp => by rw [rv_get hp, if_neg (by omega)]
theorem rv_next {l : List DR} {i : Nat} (h : 2 * i + 1 < l.length) : ((rv l i).set i ((rv l i).getD (l.length - 1 - i) dDR)).set (l.length - 1 - i) ((rv l i).getD i dDR) = rv l (i + 1) := by
  refine dr_ext (by rw [List.length_set, List.length_set, rv_len, rv_len]) fun p hp => ?_
  rw [rv_len] at hp
  rw [getD_setR (by rw [List.length_set, rv_len]; omega), getD_setR (by rw [rv_len]; omega), rv_get hp, rv_get (show i < l.length by omega), rv_get (show l.length - 1 - i < l.length by omega), rv_get hp]
  by_cases e1 : l.length - 1 - i = p
  · subst e1
    rw [if_pos rfl, if_neg (by omega), if_pos (by omega)]
    congr 1; omega
  · rw [if_neg e1]
    by_cases e2 : i = p
    · subst e2
      rw [if_pos rfl, if_neg (by omega), if_pos (by omega)]
    · rw [if_neg e2]
      by_cases e3 : p < i ∨ l.length - i ≤ p
      · rw [if_pos e3, if_pos (by omega)]
      · rw [if_neg e3, if_neg (by omega)]
theorem rv_end {l : List DR} {i : Nat} (h1 : 2 * i ≤ l.length) (h2 : l.length ≤ 2 * i + 1) : rv l i = l.reverse := by
  refine dr_ext (by rw [rv_len, List.length_reverse]) fun p hp => ?_
  rw [List.length_reverse] at hp
  have e : l.reverse.getD p dDR = l.getD (l.length - 1 - p) dDR := by
    rw [List.getD_eq_getElem?_getD, List.getElem?_reverse hp, ← List.getD_eq_getElem?_getD]
  rw [rv_get hp, e]
  by_cases e3 : p < i ∨ l.length - i ≤ p
  · rw [if_pos e3]
  · rw [if_neg e3]; congr 1; omega
theorem vRev : cRev.body (fun g => env [] (lRev g)) Try.f27 := by
  rw [vRev_eq]
  intro l hl
  refine ⟨inI (by omega) (by omega), ⟨0, Nat.zero_le _, ⟨rfl, by omega⟩, ⟨by rw [rv_zero], trivial⟩, trivial⟩, fun i hi => ⟨fun hlt => ?_, fun hge => ?_⟩⟩
  · have hlt : (i : Int) < (l.length : Int) - 1 - i := of_decide_eq_true hlt
    have hj : ((l.length : Int) - 1 - i).toNat = l.length - 1 - i := by omega
    simp only [hj, Nat.zero_add, Int.toNat_natCast]
    refine ⟨⟨by omega, by omega⟩, by rw [rv_len]; omega, ⟨by omega, by omega⟩, by rw [rv_len]; omega, ⟨by omega, by omega⟩, by rw [rv_len]; omega, _, rfl, ⟨by omega, by omega⟩, by rw [List.length_set, rv_len]; omega, _, rfl, inI (by omega) (by omega), inI (by omega) (by omega), i + 1, by omega, by omega, ⟨by omega, by omega⟩, ⟨?_, trivial⟩, trivial⟩
    rw [rv_next (by omega)]
  · have hge : ¬ (i : Int) < (l.length : Int) - 1 - i := of_decide_eq_false hge
    refine ⟨(), trivial, trivial, rfl, by rw [rv_end hi (by omega)], flDR⟩
theorem sRev : SpecOk P 27 cRev.spec := spec_of cRev (tab_nil P) mixed (fn := Try.f27) (by kernel_rfl) (by kernel_rfl) (by kernel_rfl) (by decide) (fun g lb _ hm => by rcases List.mem_cons.1 hm with rfl | hm; exact trivial; cases hm) vRev
end Go.WbW
end
end
