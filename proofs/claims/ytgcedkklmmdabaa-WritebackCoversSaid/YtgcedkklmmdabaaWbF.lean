/- A PART OF THE PROOF. NO CONDITION. -/
import Derived.Test.YtgcedkklmmdabaaWbD
section
noncomputable section
set_option linter.unusedVariables false
set_option linter.unusedVariables false
set_option linter.unusedSimpArgs false
namespace Go.Wb
open Go.Proofs Go.SX
set_option maxRecDepth 100000

/-! Clone, Index, Equal -/
def cClone : Con := newCon (List DP) Unit (fun l => [roP l]) (fun l => l.length ≤ 1000000000) (fun _ _ => True) (fun l _ => .sl 0 3 0 l.length) (fun l _ => .arr DP dDP encDP l)
theorem vClone_eq : (cClone.body (fun g => env [] (noLoops g)) Try.f28) = (∀ (g : List DP), List.length g ≤ (1000000000 : Nat) → ∀ (c : Bool), (c = true → g = []) → (c = true → ∃ (b : Unit), True ∧ ((SV.val (Value.slice none (0 : Nat) (0 : Nat)) = SV.val
  (Value.slice none (0 : Nat) (0 : Nat)) ∧ (0 : Nat) = (0 : Nat) ∧ List.length g = (0 : Nat)) ∧ (∀ (x : DP), allFlat (encDP x) = true) ∧ g = [] ∧ ∀ (x : DP), (3 : Nat) = (3 : Nat) ∧
  allOne (encDP x) = true) ∧ (0 : Nat) = (0 : Nat) ∧ True) ∧ (c = false → ∃ (ys : List (Enc.α (Enc.mk (DP) (dDP) (encDP)))), relaxL (Enc.enc (Enc.mk (DP) (dDP) (encDP)) (Enc.d
  (Enc.mk (DP) (dDP) (encDP)))) (List.map encDP g) = List.map (Enc.enc (Enc.mk (DP) (dDP) (encDP))) ys ∧ (List.length ys * (24 : Nat) ≤ (140737488355328 : Nat) ∧ ∀ (x : Enc.α (Enc.mk
  (DP) (dDP) (encDP))), (3 : Nat) = (3 : Nat) ∧ allOne (Enc.enc (Enc.mk (DP) (dDP) (encDP)) x) = true) ∧ ∃ (b : Unit), True ∧ ((SV.sl (48 : Nat) (3 : Nat) (0 : Nat) (List.length ys)
  = SV.sl (48 : Nat) (3 : Nat) (0 : Nat) (List.length ys) ∧ (0 : Nat) = (0 : Nat) ∧ (3 : Nat) = (3 : Nat) ∧ List.length ys = List.length g) ∧ (∀ (x : DP), allFlat (encDP x) = true) ∧
  (0 : Nat) + List.length ys ≤ List.length ys ∧ LB.arr (Enc.α (Enc.mk (DP) (dDP) (encDP))) (Enc.d (Enc.mk (DP) (dDP) (encDP))) (Enc.enc (Enc.mk (DP) (dDP) (encDP))) (List.take
  (List.length ys) (List.drop (0 : Nat) ys)) = LB.arr DP dDP encDP g) ∧ (0 : Nat) = (0 : Nat) ∧ True)) := by kernel_rfl
theorem vClone : cClone.body (fun g => env [] (noLoops g)) Try.f28 := by
  rw [vClone_eq]
  intro l hlen c hc
  refine ⟨fun h => ⟨(), trivial, ⟨⟨rfl, rfl, by rw [hc h]; rfl⟩, fun _ => rfl, hc h, okDP⟩, rfl, trivial⟩, fun _ => ⟨l, rfl, ⟨by omega, okDP⟩, (), trivial, ⟨⟨rfl, rfl, rfl, rfl⟩, fun _ => rfl, by omega, ?_⟩, rfl, trivial⟩⟩
  rw [List.drop_zero, List.take_length]
theorem sClone : SpecOk P 28 cClone.spec := spec_of cClone (tab_nil P) mixed (fn := Try.f28) (by kernel_rfl) (by kernel_rfl) (by kernel_rfl) (Nat.zero_le _) (noIns fun _ => rfl) vClone
def eqDP (p q : DP) : Bool := p.file == q.file && (p.index == q.index && (p.since == q.since && true))
def idx (p : DP) : List DP → Nat → Int
  | [], _ => -1
  | q :: r, i => if eqDP p q = true then i else idx p r (i + 1)
def cIndex : Con := pureCon (List DP × DP) Unit (fun g => [roP g.1, .agg (encDP g.2)]) (fun g => g.1.length ≤ 1000000000) (fun _ _ => True) (fun g _ => I (idx g.2 g.1 0))
def lIndex (g : List DP × DP) : Loops := loop1 0 { γ := Nat, slots := [8], vals := fun _ i => [I i], inv := fun i => i ≤ g.1.length ∧ idx g.2 (g.1.drop i) i = idx g.2 g.1 0, μ := fun i => g.1.length - i }
theorem vIndex_eq : (cIndex.body (fun g => env [] (lIndex g)) Try.f35) = (∀ (g : List DP × DP), List.length (Prod.fst g) ≤ (1000000000 : Nat) → (∃ (g_1 : Nat), (g_1 ≤ List.length (Prod.fst g) ∧ idx (Prod.snd g) (List.drop g_1 (Prod.fst g)) g_1 = idx
  (Prod.snd g) (Prod.fst g) (0 : Nat)) ∧ (0 : Int) = (↑g_1 : Int) ∧ True ∧ LB.cells [SV.val (Value.int IntKind.i64 (DP.file (Prod.snd g))), SV.val (Value.int IntKind.i64 (DP.index
  (Prod.snd g))), SV.val (Value.int IntKind.i64 (DP.since (Prod.snd g)))] = LB.cells [SV.val (Value.int IntKind.i64 (DP.file (Prod.snd g))), SV.val (Value.int IntKind.i64 (DP.index
  (Prod.snd g))), SV.val (Value.int IntKind.i64 (DP.since (Prod.snd g)))] ∧ True) ∧ ∀ (g_1 : Nat), g_1 ≤ List.length (Prod.fst g) ∧ idx (Prod.snd g) (List.drop g_1 (Prod.fst g)) g_1
  = idx (Prod.snd g) (Prod.fst g) (0 : Nat) → (decide ((↑g_1 : Int) < (↑(List.length (Prod.fst g)) : Int)) = true → ((0 : Int) ≤ (↑g_1 : Int) ∧ (↑g_1 : Int) < (↑(List.length
  (Prod.fst g)) : Int)) ∧ Int.toNat (↑g_1 : Int) < List.length (Prod.fst g) ∧ ((DP.file (Prod.snd g) == DP.file (List.getD (Prod.fst g) (Int.toNat (↑g_1 : Int)) dDP) && (DP.index
  (Prod.snd g) == DP.index (List.getD (Prod.fst g) (Int.toNat (↑g_1 : Int)) dDP) && (DP.since (Prod.snd g) == DP.since (List.getD (Prod.fst g) (Int.toNat (↑g_1 : Int)) dDP) &&
  true))) = true → ∃ (b : Unit), True ∧ SV.val (Value.int IntKind.i64 (↑g_1 : Int)) = SV.val (Value.int IntKind.i64 (idx (Prod.snd g) (Prod.fst g) (0 : Nat))) ∧ (0 : Nat) = (0 : Nat)
  ∧ True) ∧ ((DP.file (Prod.snd g) == DP.file (List.getD (Prod.fst g) (Int.toNat (↑g_1 : Int)) dDP) && (DP.index (Prod.snd g) == DP.index (List.getD (Prod.fst g) (Int.toNat (↑g_1 :
  Int)) dDP) && (DP.since (Prod.snd g) == DP.since (List.getD (Prod.fst g) (Int.toNat (↑g_1 : Int)) dDP) && true))) = false → inK IntKind.i64 ((↑g_1 : Int) + (1 : Int)) ∧ ∃ (g' :
  Nat), (g' ≤ List.length (Prod.fst g) ∧ idx (Prod.snd g) (List.drop g' (Prod.fst g)) g' = idx (Prod.snd g) (Prod.fst g) (0 : Nat)) ∧ List.length (Prod.fst g) - g' < List.length
  (Prod.fst g) - g_1 ∧ (↑g_1 : Int) + (1 : Int) = (↑g' : Int) ∧ True ∧ LB.cells [SV.val (Value.int IntKind.i64 (DP.file (Prod.snd g))), SV.val (Value.int IntKind.i64 (DP.index
  (Prod.snd g))), SV.val (Value.int IntKind.i64 (DP.since (Prod.snd g)))] = LB.cells [SV.val (Value.int IntKind.i64 (DP.file (Prod.snd g))), SV.val (Value.int IntKind.i64 (DP.index
  (Prod.snd g))), SV.val (Value.int IntKind.i64 (DP.since (Prod.snd g)))] ∧ True)) ∧ (decide ((↑g_1 : Int) < (↑(List.length (Prod.fst g)) : Int)) = false → ∃ (b : Unit), True ∧
  SV.val (Value.int IntKind.i64 (-1 : Int)) = SV.val (Value.int IntKind.i64 (idx (Prod.snd g) (Prod.fst g) (0 : Nat))) ∧ (0 : Nat) = (0 : Nat) ∧ True)) := by kernel_rfl
theorem vIndex : cIndex.body (fun g => env [] (lIndex g)) Try.f35 := by
  rw [vIndex_eq]
  rintro ⟨l, p⟩ hlen
  dsimp only at hlen ⊢
  refine ⟨⟨0, ⟨Nat.zero_le _, rfl⟩, rfl, trivial, rfl, trivial⟩, fun i hinv => ⟨fun hlt => ?_, fun hge => ⟨(), trivial, ?_, rfl, trivial⟩⟩⟩
  · obtain ⟨hi, ho⟩ := hinv
    have hlt : (i : Int) < l.length := of_decide_eq_true hlt
    have hi' : i < l.length := by omega
    have hd : l.drop i = l.getD i dDP :: l.drop (i + 1) := by
      rw [List.drop_eq_getElem_cons hi', List.getD_eq_getElem?_getD, List.getElem?_eq_getElem hi']; rfl
    rw [hd, idx] at ho
    rw [Int.toNat_natCast]
    refine ⟨⟨by omega, hlt⟩, hi', fun h => ⟨(), trivial, ?_, rfl, trivial⟩, fun h => ⟨inI (by omega) (by omega), i + 1, ⟨hi', ?_⟩, by omega, by omega, trivial, rfl, trivial⟩⟩
    · rw [if_pos (show eqDP p (l.getD i dDP) = true from h)] at ho; rw [ho]
    · rw [if_neg (by rw [show eqDP p (l.getD i dDP) = false from h]; decide)] at ho; exact ho
  · obtain ⟨hi, ho⟩ := hinv
    have hge : ¬ (i : Int) < l.length := of_decide_eq_false hge
    rw [List.drop_eq_nil_of_le (by omega)] at ho
    rw [← ho]; rfl
theorem sIndex : SpecOk P 35 cIndex.spec := spec_of cIndex (tab_nil P) mixed (fn := Try.f35) (by kernel_rfl) (by kernel_rfl) (by kernel_rfl) (Nat.zero_le _) (noIns fun _ => rfl) vIndex
end Go.Wb
end
end
section
noncomputable section
set_option linter.unusedVariables false
set_option linter.unusedVariables false
set_option linter.unusedSimpArgs false
namespace Go.Wb
open Go.Proofs Go.SX
set_option maxRecDepth 100000

/-! MinFunc -/
def minTo (l : List DP) : Nat → DP
  | 0 => dDP
  | 1 => l.getD 0 dDP
  | i + 2 => if compareI (l.getD (i + 1) dDP) (minTo l (i + 1)) < 0 then l.getD (i + 1) dDP else minTo l (i + 1)
def cMin : Con := pureCon (List DP) Unit (fun l => [roP l, .clo 31 []]) (fun l => l.length ≤ 1000000000 ∧ 0 < l.length) (fun _ _ => True) (fun l _ => .agg (encDP (minTo l l.length)))
def lMin (l : List DP) : Loops := loop1 0 { γ := Nat, slots := [6], vals := fun _ i => [I i], blks := fun _ i => [(64, .cells (encDP (minTo l i)))], inv := fun i => 1 ≤ i ∧ i ≤ l.length, μ := fun i => l.length - i }
theorem vMin_eq : (cMin.body (fun g => env [(31, cCompare)] (lMin g)) Try.f36) = (∀ (g : List DP), List.length g ≤ (1000000000 : Nat) ∧ (0 : Nat) < List.length g → (decide ((↑(List.length g) : Int) < (1 : Int)) = true → False) ∧ (decide ((↑(List.length g) : Int)
  < (1 : Int)) = false → ((0 : Int) ≤ (0 : Int) ∧ (0 : Int) < (↑(List.length g) : Int)) ∧ (0 : Nat) < List.length g ∧ (∃ (g_1 : Nat), ((1 : Nat) ≤ g_1 ∧ g_1 ≤ List.length g) ∧ (1 :
  Int) = (↑g_1 : Int) ∧ ((DP.file (List.getD g (0 : Nat) dDP) = DP.file (minTo g g_1) ∧ DP.index (List.getD g (0 : Nat) dDP) = DP.index (minTo g g_1) ∧ DP.since (List.getD g (0 :
  Nat) dDP) = DP.since (minTo g g_1)) ∧ True) ∧ LB.cells [SV.val (Value.int IntKind.i64 (0 : Int)), SV.val (Value.int IntKind.i64 (0 : Int)), SV.val (Value.int IntKind.i64 (0 :
  Int))] = LB.cells [SV.val (Value.int IntKind.i64 (0 : Int)), SV.val (Value.int IntKind.i64 (0 : Int)), SV.val (Value.int IntKind.i64 (0 : Int))] ∧ True) ∧ ∀ (g_1 : Nat), (1 : Nat)
  ≤ g_1 ∧ g_1 ≤ List.length g → (decide ((↑g_1 : Int) < (↑(List.length g) : Int)) = true → ((0 : Int) ≤ (↑g_1 : Int) ∧ (↑g_1 : Int) < (↑(List.length g) : Int)) ∧ Int.toNat (↑g_1 :
  Int) < List.length g ∧ ∃ (g_2 : DP × DP), ((SV.val (Value.int IntKind.i64 (DP.file (List.getD g (Int.toNat (↑g_1 : Int)) dDP))) = SV.val (Value.int IntKind.i64 (DP.file (Prod.fst
  g_2))) ∧ SV.val (Value.int IntKind.i64 (DP.index (List.getD g (Int.toNat (↑g_1 : Int)) dDP))) = SV.val (Value.int IntKind.i64 (DP.index (Prod.fst g_2))) ∧ SV.val (Value.int
  IntKind.i64 (DP.since (List.getD g (Int.toNat (↑g_1 : Int)) dDP))) = SV.val (Value.int IntKind.i64 (DP.since (Prod.fst g_2))) ∧ True) ∧ SV.val (Value.int IntKind.i64 (DP.file
  (minTo g g_1))) = SV.val (Value.int IntKind.i64 (DP.file (Prod.snd g_2))) ∧ SV.val (Value.int IntKind.i64 (DP.index (minTo g g_1))) = SV.val (Value.int IntKind.i64 (DP.index
  (Prod.snd g_2))) ∧ SV.val (Value.int IntKind.i64 (DP.since (minTo g g_1))) = SV.val (Value.int IntKind.i64 (DP.since (Prod.snd g_2))) ∧ True) ∧ True ∧ True ∧ ∀ (b : Unit), True →
  (decide (compareI (Prod.fst g_2) (Prod.snd g_2) < (0 : Int)) = true → ((0 : Int) ≤ (↑g_1 : Int) ∧ (↑g_1 : Int) < (↑(List.length g) : Int)) ∧ Int.toNat (↑g_1 : Int) < List.length g
  ∧ inK IntKind.i64 ((↑g_1 : Int) + (1 : Int)) ∧ ∃ (g' : Nat), ((1 : Nat) ≤ g' ∧ g' ≤ List.length g) ∧ List.length g - g' < List.length g - g_1 ∧ (↑g_1 : Int) + (1 : Int) = (↑g' :
  Int) ∧ ((DP.file (List.getD g (Int.toNat (↑g_1 : Int)) dDP) = DP.file (minTo g g') ∧ DP.index (List.getD g (Int.toNat (↑g_1 : Int)) dDP) = DP.index (minTo g g') ∧ DP.since
  (List.getD g (Int.toNat (↑g_1 : Int)) dDP) = DP.since (minTo g g')) ∧ True) ∧ LB.cells [SV.val (Value.int IntKind.i64 (0 : Int)), SV.val (Value.int IntKind.i64 (0 : Int)), SV.val
  (Value.int IntKind.i64 (0 : Int))] = LB.cells [SV.val (Value.int IntKind.i64 (0 : Int)), SV.val (Value.int IntKind.i64 (0 : Int)), SV.val (Value.int IntKind.i64 (0 : Int))] ∧ True)
  ∧ (decide (compareI (Prod.fst g_2) (Prod.snd g_2) < (0 : Int)) = false → inK IntKind.i64 ((↑g_1 : Int) + (1 : Int)) ∧ ∃ (g' : Nat), ((1 : Nat) ≤ g' ∧ g' ≤ List.length g) ∧
  List.length g - g' < List.length g - g_1 ∧ (↑g_1 : Int) + (1 : Int) = (↑g' : Int) ∧ ((DP.file (minTo g g_1) = DP.file (minTo g g') ∧ DP.index (minTo g g_1) = DP.index (minTo g g')
  ∧ DP.since (minTo g g_1) = DP.since (minTo g g')) ∧ True) ∧ LB.cells [SV.val (Value.int IntKind.i64 (0 : Int)), SV.val (Value.int IntKind.i64 (0 : Int)), SV.val (Value.int
  IntKind.i64 (0 : Int))] = LB.cells [SV.val (Value.int IntKind.i64 (0 : Int)), SV.val (Value.int IntKind.i64 (0 : Int)), SV.val (Value.int IntKind.i64 (0 : Int))] ∧ True)) ∧ (decide
  ((↑g_1 : Int) < (↑(List.length g) : Int)) = false → ∃ (b : Unit), True ∧ (SV.val (Value.int IntKind.i64 (DP.file (minTo g g_1))) = SV.val (Value.int IntKind.i64 (DP.file (minTo g
  (List.length g)))) ∧ SV.val (Value.int IntKind.i64 (DP.index (minTo g g_1))) = SV.val (Value.int IntKind.i64 (DP.index (minTo g (List.length g)))) ∧ SV.val (Value.int IntKind.i64
  (DP.since (minTo g g_1))) = SV.val (Value.int IntKind.i64 (DP.since (minTo g (List.length g))))) ∧ (0 : Nat) = (0 : Nat) ∧ True))) := by kernel_rfl
theorem minTo_next (l : List DP) {i : Nat} (h : 1 ≤ i) : minTo l (i + 1) = if compareI (l.getD i dDP) (minTo l i) < 0 then l.getD i dDP else minTo l i := by
  obtain ⟨j, rfl⟩ : ∃ j, i = j + 1 := ⟨i - 1, by omega⟩
  rfl
theorem vMin : cMin.body (fun g => env [(31, cCompare)] (lMin g)) Try.f36 := by
  rw [vMin_eq]
  rintro l ⟨hlen, hpos⟩
  refine ⟨fun h => ?_, fun _ => ⟨⟨by omega, by omega⟩, hpos, ⟨1, ⟨by omega, by omega⟩, rfl, ⟨⟨rfl, rfl, rfl⟩, trivial⟩, rfl, trivial⟩, fun i hinv => ⟨fun hlt => ?_, fun hge => ?_⟩⟩⟩
  · have h := of_decide_eq_true h
    omega
  · obtain ⟨h1, h2⟩ := hinv
    have hlt : (i : Int) < l.length := of_decide_eq_true hlt
    have hi' : i < l.length := by omega
    have hn := minTo_next l h1
    rw [Int.toNat_natCast]
    refine ⟨⟨by omega, hlt⟩, hi', (l.getD i dDP, minTo l i), ⟨⟨rfl, rfl, rfl, trivial⟩, rfl, rfl, rfl, trivial⟩, trivial, trivial, fun _ _ => ⟨fun hc => ⟨⟨by omega, hlt⟩, hi', inI (by omega) (by omega), i + 1, ⟨by omega, by omega⟩, by omega, by omega, ⟨?_, trivial⟩, rfl, trivial⟩, fun hc => ⟨inI (by omega) (by omega), i + 1, ⟨by omega, by omega⟩, by omega, by omega, ⟨?_, trivial⟩, rfl, trivial⟩⟩⟩
    · rw [hn, if_pos (of_decide_eq_true hc)]; exact ⟨rfl, rfl, rfl⟩
    · rw [hn, if_neg (of_decide_eq_false hc)]; exact ⟨rfl, rfl, rfl⟩
  · obtain ⟨h1, h2⟩ := hinv
    have hge : ¬ (i : Int) < l.length := of_decide_eq_false hge
    have he : i = l.length := by omega
    rw [he]
    exact ⟨(), trivial, ⟨rfl, rfl, rfl⟩, rfl, trivial⟩
theorem sMin : SpecOk P 36 cMin.spec := spec_of cMin (tab_cons sCompare (tab_nil P)) mixed (fn := Try.f36) (by kernel_rfl) (by kernel_rfl) (by kernel_rfl) (Nat.zero_le _) (noIns fun _ => rfl) vMin
end Go.Wb
end
end
