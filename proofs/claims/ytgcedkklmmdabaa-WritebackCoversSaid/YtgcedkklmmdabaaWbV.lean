/- A PART OF THE PROOF. NO CONDITION. -/
import Derived.Test.YtgcedkklmmdabaaWbV0
import Derived.Test.YtgcedkklmmdabaaSxAD
noncomputable section
set_option linter.unusedVariables false
set_option linter.unusedVariables false
set_option linter.unusedSimpArgs false
namespace Go.WbW
open Go.Proofs Go.SX Go.Wb
set_option maxRecDepth 100000
/-! the law on what the runs cover: how often each place occurs in a list of places, as the law's array counts it -/
def numP (p : PL) : Nat := (p.file * 16 + p.index).toNat
theorem cnts_ex : ∃ f : List Nat → List Int, ∀ ns, f ns = (List.range 64).map fun n => ((ns.count n : Nat) : Int) := ⟨_, fun _ => rfl⟩
def cnts : List Nat → List Int := Classical.choose cnts_ex
theorem cnts_eq (ns : List Nat) : cnts ns = (List.range 64).map fun n => ((ns.count n : Nat) : Int) := Classical.choose_spec cnts_ex ns
def covA (g : GRn) (i : Nat) : List Nat := (((runsO g).take i).flatMap expand).map numP
def covB (x : DR) (j : Nat) : List Nat := (List.range j).map fun k : Nat => numP ⟨x.file, x.index + k⟩
def left (g : GRn) (i : Nat) : List Nat := ((g.l.drop i).map plO).map numP
def cCovers : Con := pureCon GRn Unit (fun g => [roP g.l, I g.most]) (fun g => g.l.length ≤ 9223372036854775807 ∧ g.most ≤ 9223372036854775807) (fun _ _ => True) (fun _ _ => Bo true)
def lCovers (g : GRn) : Loops := fun id st => match Nat.beq id 0, Nat.beq id 2, Nat.beq id 4 with
  | true, _, _ => some { γ := Nat, slots := [29], vals := fun _ i => [I i], blks := fun _ i => [(136, .arr Int 0 encI (cnts (covA g i)))], inv := fun i => i ≤ (runsO g).length, μ := fun i => (runsO g).length - i }
  | _, true, _ => withInt st 29 fun x => some { γ := Nat, slots := [114], vals := fun _ j => [I j], blks := fun _ j => [(136, .arr Int 0 encI (cnts (covA g x.toNat ++ covB ((runsO g).getD x.toNat dDR) j)))], inv := fun j => (j : Int) ≤ ((runsO g).getD x.toNat dDR).count, μ := fun j => ((runsO g).getD x.toNat dDR).count.toNat - j }
  | _, _, true => some { γ := Nat, slots := [133], vals := fun _ i => [I i], blks := fun _ i => [(136, .arr Int 0 encI (cnts (left g i)))], inv := fun i => i ≤ g.l.length, μ := fun i => g.l.length - i }
  | _, _, _ => none
theorem vCovers_eq : (cCovers.body (fun g => env [(21, cRuns), (10, cFew), (11, cAwake)] (lCovers g)) Try.f7) = (∀ (g : GRn), List.length (GRn.l g) ≤ (9223372036854775807 : Nat) ∧ GRn.most g ≤ (9223372036854775807 : Int) → ∃ (g_1 : GRn), (SV.ro DP dDP encDP (GRn.l g) = SV.ro DP dDP encDP
  (GRn.l g_1) ∧ SV.val (Value.int IntKind.i64 (GRn.most g)) = SV.val (Value.int IntKind.i64 (GRn.most g_1))) ∧ True ∧ (List.length (GRn.l g_1) ≤ (9223372036854775807 : Nat) ∧
  GRn.most g_1 ≤ (9223372036854775807 : Int)) ∧ ∀ (b : Unit), True → ∃ (g_2 : List DP), SV.ro DP dDP encDP (GRn.l g) = SV.ro DP dDP encDP g_2 ∧ True ∧ True ∧ ∀ (b : Unit), True →
  ((!decide ((↑(List.length g_2) : Int) ≤ (100 : Int))) = true → ∃ (g : Unit), True ∧ True ∧ True ∧ ∀ (b : Unit), True → ∃ (b : Unit), True ∧ SV.val (Value.bool true) = SV.val
  (Value.bool true) ∧ (0 : Nat) = (0 : Nat) ∧ True) ∧ ((!decide ((↑(List.length g_2) : Int) ≤ (100 : Int))) = false → ((runsE g_1 != (0 : Int)) = true → ∃ (g : Unit), True ∧ True ∧
  True ∧ ∀ (b : Unit), True → ∃ (b : Unit), True ∧ SV.val (Value.bool true) = SV.val (Value.bool true) ∧ (0 : Nat) = (0 : Nat) ∧ True) ∧ ((runsE g_1 != (0 : Int)) = false → (∃ (g_3 :
  Nat), g_3 ≤ List.length (runsO g) ∧ (0 : Int) = (↑g_3 : Int) ∧ (([SV.val (Value.int IntKind.i64 (0 : Int)), SV.val (Value.int IntKind.i64 (0 : Int)), SV.val (Value.int IntKind.i64
  (0 : Int)), SV.val (Value.int IntKind.i64 (0 : Int)), SV.val (Value.int IntKind.i64 (0 : Int)), SV.val (Value.int IntKind.i64 (0 : Int)), SV.val (Value.int IntKind.i64 (0 : Int)),
  SV.val (Value.int IntKind.i64 (0 : Int)), SV.val (Value.int IntKind.i64 (0 : Int)), SV.val (Value.int IntKind.i64 (0 : Int)), SV.val (Value.int IntKind.i64 (0 : Int)), SV.val
  (Value.int IntKind.i64 (0 : Int)), SV.val (Value.int IntKind.i64 (0 : Int)), SV.val (Value.int IntKind.i64 (0 : Int)), SV.val (Value.int IntKind.i64 (0 : Int)), SV.val (Value.int
  IntKind.i64 (0 : Int)), SV.val (Value.int IntKind.i64 (0 : Int)), SV.val (Value.int IntKind.i64 (0 : Int)), SV.val (Value.int IntKind.i64 (0 : Int)), SV.val (Value.int IntKind.i64
  (0 : Int)), SV.val (Value.int IntKind.i64 (0 : Int)), SV.val (Value.int IntKind.i64 (0 : Int)), SV.val (Value.int IntKind.i64 (0 : Int)), SV.val (Value.int IntKind.i64 (0 : Int)),
  SV.val (Value.int IntKind.i64 (0 : Int)), SV.val (Value.int IntKind.i64 (0 : Int)), SV.val (Value.int IntKind.i64 (0 : Int)), SV.val (Value.int IntKind.i64 (0 : Int)), SV.val
  (Value.int IntKind.i64 (0 : Int)), SV.val (Value.int IntKind.i64 (0 : Int)), SV.val (Value.int IntKind.i64 (0 : Int)), SV.val (Value.int IntKind.i64 (0 : Int)), SV.val (Value.int
  IntKind.i64 (0 : Int)), SV.val (Value.int IntKind.i64 (0 : Int)), SV.val (Value.int IntKind.i64 (0 : Int)), SV.val (Value.int IntKind.i64 (0 : Int)), SV.val (Value.int IntKind.i64
  (0 : Int)), SV.val (Value.int IntKind.i64 (0 : Int)), SV.val (Value.int IntKind.i64 (0 : Int)), SV.val (Value.int IntKind.i64 (0 : Int)), SV.val (Value.int IntKind.i64 (0 : Int)),
  SV.val (Value.int IntKind.i64 (0 : Int)), SV.val (Value.int IntKind.i64 (0 : Int)), SV.val (Value.int IntKind.i64 (0 : Int)), SV.val (Value.int IntKind.i64 (0 : Int)), SV.val
  (Value.int IntKind.i64 (0 : Int)), SV.val (Value.int IntKind.i64 (0 : Int)), SV.val (Value.int IntKind.i64 (0 : Int)), SV.val (Value.int IntKind.i64 (0 : Int)), SV.val (Value.int
  IntKind.i64 (0 : Int)), SV.val (Value.int IntKind.i64 (0 : Int)), SV.val (Value.int IntKind.i64 (0 : Int)), SV.val (Value.int IntKind.i64 (0 : Int)), SV.val (Value.int IntKind.i64
  (0 : Int)), SV.val (Value.int IntKind.i64 (0 : Int)), SV.val (Value.int IntKind.i64 (0 : Int)), SV.val (Value.int IntKind.i64 (0 : Int)), SV.val (Value.int IntKind.i64 (0 : Int)),
  SV.val (Value.int IntKind.i64 (0 : Int)), SV.val (Value.int IntKind.i64 (0 : Int)), SV.val (Value.int IntKind.i64 (0 : Int)), SV.val (Value.int IntKind.i64 (0 : Int)), SV.val
  (Value.int IntKind.i64 (0 : Int)), SV.val (Value.int IntKind.i64 (0 : Int))] = (List.brecOn.go (List.map Wb.encI (cnts (covA g g_3))) List.flatten._f).1 ∧ ∀ (x : Int), (1 : Nat) =
  (1 : Nat) ∧ allOne (Wb.encI x) = true) ∧ True) ∧ LB.arr DR dDR encDR (runsO g_1) = LB.arr DR dDR encDR (runsO g_1) ∧ True) ∧ ∀ (g_3 : Nat), g_3 ≤ List.length (runsO g) → (decide
  ((↑g_3 : Int) < (↑(List.length (runsO g_1)) : Int)) = true → ((0 : Int) ≤ (↑g_3 : Int) ∧ (↑g_3 : Int) < (↑(List.length (runsO g_1)) : Int)) ∧ (0 : Nat) + Int.toNat (↑g_3 : Int) <
  List.length (runsO g_1) ∧ (decide (DR.file (List.getD (runsO g_1) ((0 : Nat) + Int.toNat (↑g_3 : Int)) dDR) < (0 : Int)) = true → ∃ (b : Unit), True ∧ true = false ∧ (0 : Nat) = (0
  : Nat) ∧ True) ∧ (decide (DR.file (List.getD (runsO g_1) ((0 : Nat) + Int.toNat (↑g_3 : Int)) dDR) < (0 : Int)) = false → (decide (DR.file (List.getD (runsO g_1) ((0 : Nat) +
  Int.toNat (↑g_3 : Int)) dDR) ≥ (4 : Int)) = true → ∃ (b : Unit), True ∧ true = false ∧ (0 : Nat) = (0 : Nat) ∧ True) ∧ (decide (DR.file (List.getD (runsO g_1) ((0 : Nat) +
  Int.toNat (↑g_3 : Int)) dDR) ≥ (4 : Int)) = false → (decide (DR.index (List.getD (runsO g_1) ((0 : Nat) + Int.toNat (↑g_3 : Int)) dDR) < (0 : Int)) = true → ∃ (b : Unit), True ∧
  true = false ∧ (0 : Nat) = (0 : Nat) ∧ True) ∧ (decide (DR.index (List.getD (runsO g_1) ((0 : Nat) + Int.toNat (↑g_3 : Int)) dDR) < (0 : Int)) = false → (decide (DR.index
  (List.getD (runsO g_1) ((0 : Nat) + Int.toNat (↑g_3 : Int)) dDR) ≥ (16 : Int)) = true → ∃ (b : Unit), True ∧ true = false ∧ (0 : Nat) = (0 : Nat) ∧ True) ∧ (decide (DR.index
  (List.getD (runsO g_1) ((0 : Nat) + Int.toNat (↑g_3 : Int)) dDR) ≥ (16 : Int)) = false → (decide (DR.count (List.getD (runsO g_1) ((0 : Nat) + Int.toNat (↑g_3 : Int)) dDR) < (1 :
  Int)) = true → ∃ (b : Unit), True ∧ true = false ∧ (0 : Nat) = (0 : Nat) ∧ True) ∧ (decide (DR.count (List.getD (runsO g_1) ((0 : Nat) + Int.toNat (↑g_3 : Int)) dDR) < (1 : Int)) =
  false → (decide (DR.count (List.getD (runsO g_1) ((0 : Nat) + Int.toNat (↑g_3 : Int)) dDR) > GRn.most g) = true → ∃ (b : Unit), True ∧ true = false ∧ (0 : Nat) = (0 : Nat) ∧ True)
  ∧ (decide (DR.count (List.getD (runsO g_1) ((0 : Nat) + Int.toNat (↑g_3 : Int)) dDR) > GRn.most g) = false → inK IntKind.i64 ((16 : Int) - DR.index (List.getD (runsO g_1) ((0 :
  Nat) + Int.toNat (↑g_3 : Int)) dDR)) ∧ (decide (DR.count (List.getD (runsO g_1) ((0 : Nat) + Int.toNat (↑g_3 : Int)) dDR) > (16 : Int) - DR.index (List.getD (runsO g_1) ((0 : Nat)
  + Int.toNat (↑g_3 : Int)) dDR)) = true → ∃ (b : Unit), True ∧ true = false ∧ (0 : Nat) = (0 : Nat) ∧ True) ∧ (decide (DR.count (List.getD (runsO g_1) ((0 : Nat) + Int.toNat (↑g_3 :
  Int)) dDR) > (16 : Int) - DR.index (List.getD (runsO g_1) ((0 : Nat) + Int.toNat (↑g_3 : Int)) dDR)) = false → (decide ((↑g_3 : Int) > (0 : Int)) = true → inK IntKind.i64 ((↑g_3 :
  Int) - (1 : Int)) ∧ ((0 : Int) ≤ (↑g_3 : Int) - (1 : Int) ∧ (↑g_3 : Int) - (1 : Int) < (↑(List.length (runsO g_1)) : Int)) ∧ (0 : Nat) + Int.toNat ((↑g_3 : Int) - (1 : Int)) <
  List.length (runsO g_1) ∧ ((DR.file (List.getD (runsO g_1) ((0 : Nat) + Int.toNat ((↑g_3 : Int) - (1 : Int))) dDR) == DR.file (List.getD (runsO g_1) ((0 : Nat) + Int.toNat (↑g_3 :
  Int)) dDR)) = true → inK IntKind.i64 ((↑g_3 : Int) - (1 : Int)) ∧ ((0 : Int) ≤ (↑g_3 : Int) - (1 : Int) ∧ (↑g_3 : Int) - (1 : Int) < (↑(List.length (runsO g_1)) : Int)) ∧ (0 : Nat)
  + Int.toNat ((↑g_3 : Int) - (1 : Int)) < List.length (runsO g_1) ∧ inK IntKind.i64 ((↑g_3 : Int) - (1 : Int)) ∧ ((0 : Int) ≤ (↑g_3 : Int) - (1 : Int) ∧ (↑g_3 : Int) - (1 : Int) <
  (↑(List.length (runsO g_1)) : Int)) ∧ (0 : Nat) + Int.toNat ((↑g_3 : Int) - (1 : Int)) < List.length (runsO g_1) ∧ inK IntKind.i64 (DR.index (List.getD (runsO g_1) ((0 : Nat) +
  Int.toNat ((↑g_3 : Int) - (1 : Int))) dDR) + DR.count (List.getD (runsO g_1) ((0 : Nat) + Int.toNat ((↑g_3 : Int) - (1 : Int))) dDR)) ∧ ((DR.index (List.getD (runsO g_1) ((0 : Nat)
  + Int.toNat ((↑g_3 : Int) - (1 : Int))) dDR) + DR.count (List.getD (runsO g_1) ((0 : Nat) + Int.toNat ((↑g_3 : Int) - (1 : Int))) dDR) == DR.index (List.getD (runsO g_1) ((0 : Nat)
  + Int.toNat (↑g_3 : Int)) dDR)) = true → inK IntKind.i64 ((↑g_3 : Int) - (1 : Int)) ∧ ((0 : Int) ≤ (↑g_3 : Int) - (1 : Int) ∧ (↑g_3 : Int) - (1 : Int) < (↑(List.length (runsO g_1))
  : Int)) ∧ (0 : Nat) + Int.toNat ((↑g_3 : Int) - (1 : Int)) < List.length (runsO g_1) ∧ ((DR.count (List.getD (runsO g_1) ((0 : Nat) + Int.toNat ((↑g_3 : Int) - (1 : Int))) dDR) !=
  GRn.most g) = true → ∃ (b : Unit), True ∧ true = false ∧ (0 : Nat) = (0 : Nat) ∧ True) ∧ ((DR.count (List.getD (runsO g_1) ((0 : Nat) + Int.toNat ((↑g_3 : Int) - (1 : Int))) dDR)
  != GRn.most g) = false → (∃ (g_4 : Nat), (↑g_4 : Int) ≤ DR.count (List.getD (runsO g) (Int.toNat (↑g_3 : Int)) dDR) ∧ (0 : Int) = (↑g_4 : Int) ∧ (LB.arr Int (0 : Int) Wb.encI (cnts
  (covA g g_3)) = LB.arr Int (0 : Int) Wb.encI (cnts (covA g (Int.toNat (↑g_3 : Int)) ++ covB (List.getD (runsO g) (Int.toNat (↑g_3 : Int)) dDR) g_4)) ∧ True) ∧ LB.arr DR dDR encDR
  (runsO g_1) = LB.arr DR dDR encDR (runsO g_1) ∧ LB.cells [SV.val (Value.int IntKind.i64 (DR.file (List.getD (runsO g_1) ((0 : Nat) + Int.toNat (↑g_3 : Int)) dDR))), SV.val
  (Value.int IntKind.i64 (DR.index (List.getD (runsO g_1) ((0 : Nat) + Int.toNat (↑g_3 : Int)) dDR))), SV.val (Value.int IntKind.i64 (DR.count (List.getD (runsO g_1) ((0 : Nat) +
  Int.toNat (↑g_3 : Int)) dDR)))] = LB.cells [SV.val (Value.int IntKind.i64 (DR.file (List.getD (runsO g_1) ((0 : Nat) + Int.toNat (↑g_3 : Int)) dDR))), SV.val (Value.int IntKind.i64
  (DR.index (List.getD (runsO g_1) ((0 : Nat) + Int.toNat (↑g_3 : Int)) dDR))), SV.val (Value.int IntKind.i64 (DR.count (List.getD (runsO g_1) ((0 : Nat) + Int.toNat (↑g_3 : Int))
  dDR)))] ∧ True) ∧ ∀ (g_4 : Nat), (↑g_4 : Int) ≤ DR.count (List.getD (runsO g) (Int.toNat (↑g_3 : Int)) dDR) → (decide ((↑g_4 : Int) < DR.count (List.getD (runsO g_1) ((0 : Nat) +
  Int.toNat (↑g_3 : Int)) dDR)) = true → inK IntKind.i64 (DR.index (List.getD (runsO g_1) ((0 : Nat) + Int.toNat (↑g_3 : Int)) dDR) + (↑g_4 : Int)) ∧ ((0 : Int) ≤ DR.file (List.getD
  (runsO g_1) ((0 : Nat) + Int.toNat (↑g_3 : Int)) dDR) ∧ DR.file (List.getD (runsO g_1) ((0 : Nat) + Int.toNat (↑g_3 : Int)) dDR) < (↑(4 : Nat) : Int)) ∧ ((0 : Int) ≤ DR.index
  (List.getD (runsO g_1) ((0 : Nat) + Int.toNat (↑g_3 : Int)) dDR) + (↑g_4 : Int) ∧ DR.index (List.getD (runsO g_1) ((0 : Nat) + Int.toNat (↑g_3 : Int)) dDR) + (↑g_4 : Int) < (↑(16 :
  Nat) : Int)) ∧ Int.toNat (DR.file (List.getD (runsO g_1) ((0 : Nat) + Int.toNat (↑g_3 : Int)) dDR)) * (16 : Nat) + (0 : Nat) + Int.toNat (DR.index (List.getD (runsO g_1) ((0 : Nat)
  + Int.toNat (↑g_3 : Int)) dDR) + (↑g_4 : Int)) < List.length (cnts (covA g (Int.toNat (↑g_3 : Int)) ++ covB (List.getD (runsO g) (Int.toNat (↑g_3 : Int)) dDR) g_4)) ∧ inK
  IntKind.i64 (List.getD (cnts (covA g (Int.toNat (↑g_3 : Int)) ++ covB (List.getD (runsO g) (Int.toNat (↑g_3 : Int)) dDR) g_4)) (Int.toNat (DR.file (List.getD (runsO g_1) ((0 : Nat)
  + Int.toNat (↑g_3 : Int)) dDR)) * (16 : Nat) + (0 : Nat) + Int.toNat (DR.index (List.getD (runsO g_1) ((0 : Nat) + Int.toNat (↑g_3 : Int)) dDR) + (↑g_4 : Int))) (0 : Int) + (1 :
  Int)) ∧ ((0 : Int) ≤ DR.file (List.getD (runsO g_1) ((0 : Nat) + Int.toNat (↑g_3 : Int)) dDR) ∧ DR.file (List.getD (runsO g_1) ((0 : Nat) + Int.toNat (↑g_3 : Int)) dDR) < (↑(4 :
  Nat) : Int)) ∧ ((0 : Int) ≤ DR.index (List.getD (runsO g_1) ((0 : Nat) + Int.toNat (↑g_3 : Int)) dDR) + (↑g_4 : Int) ∧ DR.index (List.getD (runsO g_1) ((0 : Nat) + Int.toNat (↑g_3
  : Int)) dDR) + (↑g_4 : Int) < (↑(16 : Nat) : Int)) ∧ Int.toNat (DR.file (List.getD (runsO g_1) ((0 : Nat) + Int.toNat (↑g_3 : Int)) dDR)) * (16 : Nat) + (0 : Nat) + Int.toNat
  (DR.index (List.getD (runsO g_1) ((0 : Nat) + Int.toNat (↑g_3 : Int)) dDR) + (↑g_4 : Int)) < List.length (cnts (covA g (Int.toNat (↑g_3 : Int)) ++ covB (List.getD (runsO g)
  (Int.toNat (↑g_3 : Int)) dDR) g_4)) ∧ ∃ (x : Int), [SV.val (Value.int IntKind.i64 x)] = [SV.val (Value.int IntKind.i64 (List.getD (cnts (covA g (Int.toNat (↑g_3 : Int)) ++ covB
  (List.getD (runsO g) (Int.toNat (↑g_3 : Int)) dDR) g_4)) (Int.toNat (DR.file (List.getD (runsO g_1) ((0 : Nat) + Int.toNat (↑g_3 : Int)) dDR)) * (16 : Nat) + (0 : Nat) + Int.toNat
  (DR.index (List.getD (runsO g_1) ((0 : Nat) + Int.toNat (↑g_3 : Int)) dDR) + (↑g_4 : Int))) (0 : Int) + (1 : Int)))] ∧ inK IntKind.i64 ((↑g_4 : Int) + (1 : Int)) ∧ ∃ (g' : Nat),
  (↑g' : Int) ≤ DR.count (List.getD (runsO g) (Int.toNat (↑g_3 : Int)) dDR) ∧ Int.toNat (DR.count (List.getD (runsO g) (Int.toNat (↑g_3 : Int)) dDR)) - g' < Int.toNat (DR.count
  (List.getD (runsO g) (Int.toNat (↑g_3 : Int)) dDR)) - g_4 ∧ (↑g_4 : Int) + (1 : Int) = (↑g' : Int) ∧ (LB.arr Int (0 : Int) Wb.encI (List.set (cnts (covA g (Int.toNat (↑g_3 : Int))
  ++ covB (List.getD (runsO g) (Int.toNat (↑g_3 : Int)) dDR) g_4)) (Int.toNat (DR.file (List.getD (runsO g_1) ((0 : Nat) + Int.toNat (↑g_3 : Int)) dDR)) * (16 : Nat) + (0 : Nat) +
  Int.toNat (DR.index (List.getD (runsO g_1) ((0 : Nat) + Int.toNat (↑g_3 : Int)) dDR) + (↑g_4 : Int))) x) = LB.arr Int (0 : Int) Wb.encI (cnts (covA g (Int.toNat (↑g_3 : Int)) ++
  covB (List.getD (runsO g) (Int.toNat (↑g_3 : Int)) dDR) g')) ∧ True) ∧ LB.arr DR dDR encDR (runsO g_1) = LB.arr DR dDR encDR (runsO g_1) ∧ LB.cells [SV.val (Value.int IntKind.i64
  (DR.file (List.getD (runsO g_1) ((0 : Nat) + Int.toNat (↑g_3 : Int)) dDR))), SV.val (Value.int IntKind.i64 (DR.index (List.getD (runsO g_1) ((0 : Nat) + Int.toNat (↑g_3 : Int))
  dDR))), SV.val (Value.int IntKind.i64 (DR.count (List.getD (runsO g_1) ((0 : Nat) + Int.toNat (↑g_3 : Int)) dDR)))] = LB.cells [SV.val (Value.int IntKind.i64 (DR.file (List.getD
  (runsO g_1) ((0 : Nat) + Int.toNat (↑g_3 : Int)) dDR))), SV.val (Value.int IntKind.i64 (DR.index (List.getD (runsO g_1) ((0 : Nat) + Int.toNat (↑g_3 : Int)) dDR))), SV.val
  (Value.int IntKind.i64 (DR.count (List.getD (runsO g_1) ((0 : Nat) + Int.toNat (↑g_3 : Int)) dDR)))] ∧ True) ∧ (decide ((↑g_4 : Int) < DR.count (List.getD (runsO g_1) ((0 : Nat) +
  Int.toNat (↑g_3 : Int)) dDR)) = false → inK IntKind.i64 ((↑g_3 : Int) + (1 : Int)) ∧ ∃ (g' : Nat), g' ≤ List.length (runsO g) ∧ List.length (runsO g) - g' < List.length (runsO g) -
  g_3 ∧ (↑g_3 : Int) + (1 : Int) = (↑g' : Int) ∧ (LB.arr Int (0 : Int) Wb.encI (cnts (covA g (Int.toNat (↑g_3 : Int)) ++ covB (List.getD (runsO g) (Int.toNat (↑g_3 : Int)) dDR) g_4))
  = LB.arr Int (0 : Int) Wb.encI (cnts (covA g g')) ∧ True) ∧ LB.arr DR dDR encDR (runsO g_1) = LB.arr DR dDR encDR (runsO g_1) ∧ True))) ∧ ((DR.index (List.getD (runsO g_1) ((0 :
  Nat) + Int.toNat ((↑g_3 : Int) - (1 : Int))) dDR) + DR.count (List.getD (runsO g_1) ((0 : Nat) + Int.toNat ((↑g_3 : Int) - (1 : Int))) dDR) == DR.index (List.getD (runsO g_1) ((0 :
  Nat) + Int.toNat (↑g_3 : Int)) dDR)) = false → (∃ (g_4 : Nat), (↑g_4 : Int) ≤ DR.count (List.getD (runsO g) (Int.toNat (↑g_3 : Int)) dDR) ∧ (0 : Int) = (↑g_4 : Int) ∧ (LB.arr Int
  (0 : Int) Wb.encI (cnts (covA g g_3)) = LB.arr Int (0 : Int) Wb.encI (cnts (covA g (Int.toNat (↑g_3 : Int)) ++ covB (List.getD (runsO g) (Int.toNat (↑g_3 : Int)) dDR) g_4)) ∧ True)
  ∧ LB.arr DR dDR encDR (runsO g_1) = LB.arr DR dDR encDR (runsO g_1) ∧ LB.cells [SV.val (Value.int IntKind.i64 (DR.file (List.getD (runsO g_1) ((0 : Nat) + Int.toNat (↑g_3 : Int))
  dDR))), SV.val (Value.int IntKind.i64 (DR.index (List.getD (runsO g_1) ((0 : Nat) + Int.toNat (↑g_3 : Int)) dDR))), SV.val (Value.int IntKind.i64 (DR.count (List.getD (runsO g_1)
  ((0 : Nat) + Int.toNat (↑g_3 : Int)) dDR)))] = LB.cells [SV.val (Value.int IntKind.i64 (DR.file (List.getD (runsO g_1) ((0 : Nat) + Int.toNat (↑g_3 : Int)) dDR))), SV.val
  (Value.int IntKind.i64 (DR.index (List.getD (runsO g_1) ((0 : Nat) + Int.toNat (↑g_3 : Int)) dDR))), SV.val (Value.int IntKind.i64 (DR.count (List.getD (runsO g_1) ((0 : Nat) +
  Int.toNat (↑g_3 : Int)) dDR)))] ∧ True) ∧ ∀ (g_4 : Nat), (↑g_4 : Int) ≤ DR.count (List.getD (runsO g) (Int.toNat (↑g_3 : Int)) dDR) → (decide ((↑g_4 : Int) < DR.count (List.getD
  (runsO g_1) ((0 : Nat) + Int.toNat (↑g_3 : Int)) dDR)) = true → inK IntKind.i64 (DR.index (List.getD (runsO g_1) ((0 : Nat) + Int.toNat (↑g_3 : Int)) dDR) + (↑g_4 : Int)) ∧ ((0 :
  Int) ≤ DR.file (List.getD (runsO g_1) ((0 : Nat) + Int.toNat (↑g_3 : Int)) dDR) ∧ DR.file (List.getD (runsO g_1) ((0 : Nat) + Int.toNat (↑g_3 : Int)) dDR) < (↑(4 : Nat) : Int)) ∧
  ((0 : Int) ≤ DR.index (List.getD (runsO g_1) ((0 : Nat) + Int.toNat (↑g_3 : Int)) dDR) + (↑g_4 : Int) ∧ DR.index (List.getD (runsO g_1) ((0 : Nat) + Int.toNat (↑g_3 : Int)) dDR) +
  (↑g_4 : Int) < (↑(16 : Nat) : Int)) ∧ Int.toNat (DR.file (List.getD (runsO g_1) ((0 : Nat) + Int.toNat (↑g_3 : Int)) dDR)) * (16 : Nat) + (0 : Nat) + Int.toNat (DR.index (List.getD
  (runsO g_1) ((0 : Nat) + Int.toNat (↑g_3 : Int)) dDR) + (↑g_4 : Int)) < List.length (cnts (covA g (Int.toNat (↑g_3 : Int)) ++ covB (List.getD (runsO g) (Int.toNat (↑g_3 : Int))
  dDR) g_4)) ∧ inK IntKind.i64 (List.getD (cnts (covA g (Int.toNat (↑g_3 : Int)) ++ covB (List.getD (runsO g) (Int.toNat (↑g_3 : Int)) dDR) g_4)) (Int.toNat (DR.file (List.getD
  (runsO g_1) ((0 : Nat) + Int.toNat (↑g_3 : Int)) dDR)) * (16 : Nat) + (0 : Nat) + Int.toNat (DR.index (List.getD (runsO g_1) ((0 : Nat) + Int.toNat (↑g_3 : Int)) dDR) + (↑g_4 :
  Int))) (0 : Int) + (1 : Int)) ∧ ((0 : Int) ≤ DR.file (List.getD (runsO g_1) ((0 : Nat) + Int.toNat (↑g_3 : Int)) dDR) ∧ DR.file (List.getD (runsO g_1) ((0 : Nat) + Int.toNat (↑g_3
  : Int)) dDR) < (↑(4 : Nat) : Int)) ∧ ((0 : Int) ≤ DR.index (List.getD (runsO g_1) ((0 : Nat) + Int.toNat (↑g_3 : Int)) dDR) + (↑g_4 : Int) ∧ DR.index (List.getD (runsO g_1) ((0 :
  Nat) + Int.toNat (↑g_3 : Int)) dDR) + (↑g_4 : Int) < (↑(16 : Nat) : Int)) ∧ Int.toNat (DR.file (List.getD (runsO g_1) ((0 : Nat) + Int.toNat (↑g_3 : Int)) dDR)) * (16 : Nat) + (0 :
  Nat) + Int.toNat (DR.index (List.getD (runsO g_1) ((0 : Nat) + Int.toNat (↑g_3 : Int)) dDR) + (↑g_4 : Int)) < List.length (cnts (covA g (Int.toNat (↑g_3 : Int)) ++ covB (List.getD
  (runsO g) (Int.toNat (↑g_3 : Int)) dDR) g_4)) ∧ ∃ (x : Int), [SV.val (Value.int IntKind.i64 x)] = [SV.val (Value.int IntKind.i64 (List.getD (cnts (covA g (Int.toNat (↑g_3 : Int))
  ++ covB (List.getD (runsO g) (Int.toNat (↑g_3 : Int)) dDR) g_4)) (Int.toNat (DR.file (List.getD (runsO g_1) ((0 : Nat) + Int.toNat (↑g_3 : Int)) dDR)) * (16 : Nat) + (0 : Nat) +
  Int.toNat (DR.index (List.getD (runsO g_1) ((0 : Nat) + Int.toNat (↑g_3 : Int)) dDR) + (↑g_4 : Int))) (0 : Int) + (1 : Int)))] ∧ inK IntKind.i64 ((↑g_4 : Int) + (1 : Int)) ∧ ∃ (g'
  : Nat), (↑g' : Int) ≤ DR.count (List.getD (runsO g) (Int.toNat (↑g_3 : Int)) dDR) ∧ Int.toNat (DR.count (List.getD (runsO g) (Int.toNat (↑g_3 : Int)) dDR)) - g' < Int.toNat
  (DR.count (List.getD (runsO g) (Int.toNat (↑g_3 : Int)) dDR)) - g_4 ∧ (↑g_4 : Int) + (1 : Int) = (↑g' : Int) ∧ (LB.arr Int (0 : Int) Wb.encI (List.set (cnts (covA g (Int.toNat
  (↑g_3 : Int)) ++ covB (List.getD (runsO g) (Int.toNat (↑g_3 : Int)) dDR) g_4)) (Int.toNat (DR.file (List.getD (runsO g_1) ((0 : Nat) + Int.toNat (↑g_3 : Int)) dDR)) * (16 : Nat) +
  (0 : Nat) + Int.toNat (DR.index (List.getD (runsO g_1) ((0 : Nat) + Int.toNat (↑g_3 : Int)) dDR) + (↑g_4 : Int))) x) = LB.arr Int (0 : Int) Wb.encI (cnts (covA g (Int.toNat (↑g_3 :
  Int)) ++ covB (List.getD (runsO g) (Int.toNat (↑g_3 : Int)) dDR) g')) ∧ True) ∧ LB.arr DR dDR encDR (runsO g_1) = LB.arr DR dDR encDR (runsO g_1) ∧ LB.cells [SV.val (Value.int
  IntKind.i64 (DR.file (List.getD (runsO g_1) ((0 : Nat) + Int.toNat (↑g_3 : Int)) dDR))), SV.val (Value.int IntKind.i64 (DR.index (List.getD (runsO g_1) ((0 : Nat) + Int.toNat (↑g_3
  : Int)) dDR))), SV.val (Value.int IntKind.i64 (DR.count (List.getD (runsO g_1) ((0 : Nat) + Int.toNat (↑g_3 : Int)) dDR)))] = LB.cells [SV.val (Value.int IntKind.i64 (DR.file
  (List.getD (runsO g_1) ((0 : Nat) + Int.toNat (↑g_3 : Int)) dDR))), SV.val (Value.int IntKind.i64 (DR.index (List.getD (runsO g_1) ((0 : Nat) + Int.toNat (↑g_3 : Int)) dDR))),
  SV.val (Value.int IntKind.i64 (DR.count (List.getD (runsO g_1) ((0 : Nat) + Int.toNat (↑g_3 : Int)) dDR)))] ∧ True) ∧ (decide ((↑g_4 : Int) < DR.count (List.getD (runsO g_1) ((0 :
  Nat) + Int.toNat (↑g_3 : Int)) dDR)) = false → inK IntKind.i64 ((↑g_3 : Int) + (1 : Int)) ∧ ∃ (g' : Nat), g' ≤ List.length (runsO g) ∧ List.length (runsO g) - g' < List.length
  (runsO g) - g_3 ∧ (↑g_3 : Int) + (1 : Int) = (↑g' : Int) ∧ (LB.arr Int (0 : Int) Wb.encI (cnts (covA g (Int.toNat (↑g_3 : Int)) ++ covB (List.getD (runsO g) (Int.toNat (↑g_3 :
  Int)) dDR) g_4)) = LB.arr Int (0 : Int) Wb.encI (cnts (covA g g')) ∧ True) ∧ LB.arr DR dDR encDR (runsO g_1) = LB.arr DR dDR encDR (runsO g_1) ∧ True))) ∧ ((DR.file (List.getD
  (runsO g_1) ((0 : Nat) + Int.toNat ((↑g_3 : Int) - (1 : Int))) dDR) == DR.file (List.getD (runsO g_1) ((0 : Nat) + Int.toNat (↑g_3 : Int)) dDR)) = false → (∃ (g_4 : Nat), (↑g_4 :
  Int) ≤ DR.count (List.getD (runsO g) (Int.toNat (↑g_3 : Int)) dDR) ∧ (0 : Int) = (↑g_4 : Int) ∧ (LB.arr Int (0 : Int) Wb.encI (cnts (covA g g_3)) = LB.arr Int (0 : Int) Wb.encI
  (cnts (covA g (Int.toNat (↑g_3 : Int)) ++ covB (List.getD (runsO g) (Int.toNat (↑g_3 : Int)) dDR) g_4)) ∧ True) ∧ LB.arr DR dDR encDR (runsO g_1) = LB.arr DR dDR encDR (runsO g_1)
  ∧ LB.cells [SV.val (Value.int IntKind.i64 (DR.file (List.getD (runsO g_1) ((0 : Nat) + Int.toNat (↑g_3 : Int)) dDR))), SV.val (Value.int IntKind.i64 (DR.index (List.getD (runsO
  g_1) ((0 : Nat) + Int.toNat (↑g_3 : Int)) dDR))), SV.val (Value.int IntKind.i64 (DR.count (List.getD (runsO g_1) ((0 : Nat) + Int.toNat (↑g_3 : Int)) dDR)))] = LB.cells [SV.val
  (Value.int IntKind.i64 (DR.file (List.getD (runsO g_1) ((0 : Nat) + Int.toNat (↑g_3 : Int)) dDR))), SV.val (Value.int IntKind.i64 (DR.index (List.getD (runsO g_1) ((0 : Nat) +
  Int.toNat (↑g_3 : Int)) dDR))), SV.val (Value.int IntKind.i64 (DR.count (List.getD (runsO g_1) ((0 : Nat) + Int.toNat (↑g_3 : Int)) dDR)))] ∧ True) ∧ ∀ (g_4 : Nat), (↑g_4 : Int) ≤
  DR.count (List.getD (runsO g) (Int.toNat (↑g_3 : Int)) dDR) → (decide ((↑g_4 : Int) < DR.count (List.getD (runsO g_1) ((0 : Nat) + Int.toNat (↑g_3 : Int)) dDR)) = true → inK
  IntKind.i64 (DR.index (List.getD (runsO g_1) ((0 : Nat) + Int.toNat (↑g_3 : Int)) dDR) + (↑g_4 : Int)) ∧ ((0 : Int) ≤ DR.file (List.getD (runsO g_1) ((0 : Nat) + Int.toNat (↑g_3 :
  Int)) dDR) ∧ DR.file (List.getD (runsO g_1) ((0 : Nat) + Int.toNat (↑g_3 : Int)) dDR) < (↑(4 : Nat) : Int)) ∧ ((0 : Int) ≤ DR.index (List.getD (runsO g_1) ((0 : Nat) + Int.toNat
  (↑g_3 : Int)) dDR) + (↑g_4 : Int) ∧ DR.index (List.getD (runsO g_1) ((0 : Nat) + Int.toNat (↑g_3 : Int)) dDR) + (↑g_4 : Int) < (↑(16 : Nat) : Int)) ∧ Int.toNat (DR.file (List.getD
  (runsO g_1) ((0 : Nat) + Int.toNat (↑g_3 : Int)) dDR)) * (16 : Nat) + (0 : Nat) + Int.toNat (DR.index (List.getD (runsO g_1) ((0 : Nat) + Int.toNat (↑g_3 : Int)) dDR) + (↑g_4 :
  Int)) < List.length (cnts (covA g (Int.toNat (↑g_3 : Int)) ++ covB (List.getD (runsO g) (Int.toNat (↑g_3 : Int)) dDR) g_4)) ∧ inK IntKind.i64 (List.getD (cnts (covA g (Int.toNat
  (↑g_3 : Int)) ++ covB (List.getD (runsO g) (Int.toNat (↑g_3 : Int)) dDR) g_4)) (Int.toNat (DR.file (List.getD (runsO g_1) ((0 : Nat) + Int.toNat (↑g_3 : Int)) dDR)) * (16 : Nat) +
  (0 : Nat) + Int.toNat (DR.index (List.getD (runsO g_1) ((0 : Nat) + Int.toNat (↑g_3 : Int)) dDR) + (↑g_4 : Int))) (0 : Int) + (1 : Int)) ∧ ((0 : Int) ≤ DR.file (List.getD (runsO
  g_1) ((0 : Nat) + Int.toNat (↑g_3 : Int)) dDR) ∧ DR.file (List.getD (runsO g_1) ((0 : Nat) + Int.toNat (↑g_3 : Int)) dDR) < (↑(4 : Nat) : Int)) ∧ ((0 : Int) ≤ DR.index (List.getD
  (runsO g_1) ((0 : Nat) + Int.toNat (↑g_3 : Int)) dDR) + (↑g_4 : Int) ∧ DR.index (List.getD (runsO g_1) ((0 : Nat) + Int.toNat (↑g_3 : Int)) dDR) + (↑g_4 : Int) < (↑(16 : Nat) :
  Int)) ∧ Int.toNat (DR.file (List.getD (runsO g_1) ((0 : Nat) + Int.toNat (↑g_3 : Int)) dDR)) * (16 : Nat) + (0 : Nat) + Int.toNat (DR.index (List.getD (runsO g_1) ((0 : Nat) +
  Int.toNat (↑g_3 : Int)) dDR) + (↑g_4 : Int)) < List.length (cnts (covA g (Int.toNat (↑g_3 : Int)) ++ covB (List.getD (runsO g) (Int.toNat (↑g_3 : Int)) dDR) g_4)) ∧ ∃ (x : Int),
  [SV.val (Value.int IntKind.i64 x)] = [SV.val (Value.int IntKind.i64 (List.getD (cnts (covA g (Int.toNat (↑g_3 : Int)) ++ covB (List.getD (runsO g) (Int.toNat (↑g_3 : Int)) dDR)
  g_4)) (Int.toNat (DR.file (List.getD (runsO g_1) ((0 : Nat) + Int.toNat (↑g_3 : Int)) dDR)) * (16 : Nat) + (0 : Nat) + Int.toNat (DR.index (List.getD (runsO g_1) ((0 : Nat) +
  Int.toNat (↑g_3 : Int)) dDR) + (↑g_4 : Int))) (0 : Int) + (1 : Int)))] ∧ inK IntKind.i64 ((↑g_4 : Int) + (1 : Int)) ∧ ∃ (g' : Nat), (↑g' : Int) ≤ DR.count (List.getD (runsO g)
  (Int.toNat (↑g_3 : Int)) dDR) ∧ Int.toNat (DR.count (List.getD (runsO g) (Int.toNat (↑g_3 : Int)) dDR)) - g' < Int.toNat (DR.count (List.getD (runsO g) (Int.toNat (↑g_3 : Int))
  dDR)) - g_4 ∧ (↑g_4 : Int) + (1 : Int) = (↑g' : Int) ∧ (LB.arr Int (0 : Int) Wb.encI (List.set (cnts (covA g (Int.toNat (↑g_3 : Int)) ++ covB (List.getD (runsO g) (Int.toNat (↑g_3
  : Int)) dDR) g_4)) (Int.toNat (DR.file (List.getD (runsO g_1) ((0 : Nat) + Int.toNat (↑g_3 : Int)) dDR)) * (16 : Nat) + (0 : Nat) + Int.toNat (DR.index (List.getD (runsO g_1) ((0 :
  Nat) + Int.toNat (↑g_3 : Int)) dDR) + (↑g_4 : Int))) x) = LB.arr Int (0 : Int) Wb.encI (cnts (covA g (Int.toNat (↑g_3 : Int)) ++ covB (List.getD (runsO g) (Int.toNat (↑g_3 : Int))
  dDR) g')) ∧ True) ∧ LB.arr DR dDR encDR (runsO g_1) = LB.arr DR dDR encDR (runsO g_1) ∧ LB.cells [SV.val (Value.int IntKind.i64 (DR.file (List.getD (runsO g_1) ((0 : Nat) +
  Int.toNat (↑g_3 : Int)) dDR))), SV.val (Value.int IntKind.i64 (DR.index (List.getD (runsO g_1) ((0 : Nat) + Int.toNat (↑g_3 : Int)) dDR))), SV.val (Value.int IntKind.i64 (DR.count
  (List.getD (runsO g_1) ((0 : Nat) + Int.toNat (↑g_3 : Int)) dDR)))] = LB.cells [SV.val (Value.int IntKind.i64 (DR.file (List.getD (runsO g_1) ((0 : Nat) + Int.toNat (↑g_3 : Int))
  dDR))), SV.val (Value.int IntKind.i64 (DR.index (List.getD (runsO g_1) ((0 : Nat) + Int.toNat (↑g_3 : Int)) dDR))), SV.val (Value.int IntKind.i64 (DR.count (List.getD (runsO g_1)
  ((0 : Nat) + Int.toNat (↑g_3 : Int)) dDR)))] ∧ True) ∧ (decide ((↑g_4 : Int) < DR.count (List.getD (runsO g_1) ((0 : Nat) + Int.toNat (↑g_3 : Int)) dDR)) = false → inK IntKind.i64
  ((↑g_3 : Int) + (1 : Int)) ∧ ∃ (g' : Nat), g' ≤ List.length (runsO g) ∧ List.length (runsO g) - g' < List.length (runsO g) - g_3 ∧ (↑g_3 : Int) + (1 : Int) = (↑g' : Int) ∧ (LB.arr
  Int (0 : Int) Wb.encI (cnts (covA g (Int.toNat (↑g_3 : Int)) ++ covB (List.getD (runsO g) (Int.toNat (↑g_3 : Int)) dDR) g_4)) = LB.arr Int (0 : Int) Wb.encI (cnts (covA g g')) ∧
  True) ∧ LB.arr DR dDR encDR (runsO g_1) = LB.arr DR dDR encDR (runsO g_1) ∧ True))) ∧ (decide ((↑g_3 : Int) > (0 : Int)) = false → (∃ (g_4 : Nat), (↑g_4 : Int) ≤ DR.count
  (List.getD (runsO g) (Int.toNat (↑g_3 : Int)) dDR) ∧ (0 : Int) = (↑g_4 : Int) ∧ (LB.arr Int (0 : Int) Wb.encI (cnts (covA g g_3)) = LB.arr Int (0 : Int) Wb.encI (cnts (covA g
  (Int.toNat (↑g_3 : Int)) ++ covB (List.getD (runsO g) (Int.toNat (↑g_3 : Int)) dDR) g_4)) ∧ True) ∧ LB.arr DR dDR encDR (runsO g_1) = LB.arr DR dDR encDR (runsO g_1) ∧ LB.cells
  [SV.val (Value.int IntKind.i64 (DR.file (List.getD (runsO g_1) ((0 : Nat) + Int.toNat (↑g_3 : Int)) dDR))), SV.val (Value.int IntKind.i64 (DR.index (List.getD (runsO g_1) ((0 :
  Nat) + Int.toNat (↑g_3 : Int)) dDR))), SV.val (Value.int IntKind.i64 (DR.count (List.getD (runsO g_1) ((0 : Nat) + Int.toNat (↑g_3 : Int)) dDR)))] = LB.cells [SV.val (Value.int
  IntKind.i64 (DR.file (List.getD (runsO g_1) ((0 : Nat) + Int.toNat (↑g_3 : Int)) dDR))), SV.val (Value.int IntKind.i64 (DR.index (List.getD (runsO g_1) ((0 : Nat) + Int.toNat (↑g_3
  : Int)) dDR))), SV.val (Value.int IntKind.i64 (DR.count (List.getD (runsO g_1) ((0 : Nat) + Int.toNat (↑g_3 : Int)) dDR)))] ∧ True) ∧ ∀ (g_4 : Nat), (↑g_4 : Int) ≤ DR.count
  (List.getD (runsO g) (Int.toNat (↑g_3 : Int)) dDR) → (decide ((↑g_4 : Int) < DR.count (List.getD (runsO g_1) ((0 : Nat) + Int.toNat (↑g_3 : Int)) dDR)) = true → inK IntKind.i64
  (DR.index (List.getD (runsO g_1) ((0 : Nat) + Int.toNat (↑g_3 : Int)) dDR) + (↑g_4 : Int)) ∧ ((0 : Int) ≤ DR.file (List.getD (runsO g_1) ((0 : Nat) + Int.toNat (↑g_3 : Int)) dDR) ∧
  DR.file (List.getD (runsO g_1) ((0 : Nat) + Int.toNat (↑g_3 : Int)) dDR) < (↑(4 : Nat) : Int)) ∧ ((0 : Int) ≤ DR.index (List.getD (runsO g_1) ((0 : Nat) + Int.toNat (↑g_3 : Int))
  dDR) + (↑g_4 : Int) ∧ DR.index (List.getD (runsO g_1) ((0 : Nat) + Int.toNat (↑g_3 : Int)) dDR) + (↑g_4 : Int) < (↑(16 : Nat) : Int)) ∧ Int.toNat (DR.file (List.getD (runsO g_1)
  ((0 : Nat) + Int.toNat (↑g_3 : Int)) dDR)) * (16 : Nat) + (0 : Nat) + Int.toNat (DR.index (List.getD (runsO g_1) ((0 : Nat) + Int.toNat (↑g_3 : Int)) dDR) + (↑g_4 : Int)) <
  List.length (cnts (covA g (Int.toNat (↑g_3 : Int)) ++ covB (List.getD (runsO g) (Int.toNat (↑g_3 : Int)) dDR) g_4)) ∧ inK IntKind.i64 (List.getD (cnts (covA g (Int.toNat (↑g_3 :
  Int)) ++ covB (List.getD (runsO g) (Int.toNat (↑g_3 : Int)) dDR) g_4)) (Int.toNat (DR.file (List.getD (runsO g_1) ((0 : Nat) + Int.toNat (↑g_3 : Int)) dDR)) * (16 : Nat) + (0 :
  Nat) + Int.toNat (DR.index (List.getD (runsO g_1) ((0 : Nat) + Int.toNat (↑g_3 : Int)) dDR) + (↑g_4 : Int))) (0 : Int) + (1 : Int)) ∧ ((0 : Int) ≤ DR.file (List.getD (runsO g_1)
  ((0 : Nat) + Int.toNat (↑g_3 : Int)) dDR) ∧ DR.file (List.getD (runsO g_1) ((0 : Nat) + Int.toNat (↑g_3 : Int)) dDR) < (↑(4 : Nat) : Int)) ∧ ((0 : Int) ≤ DR.index (List.getD (runsO
  g_1) ((0 : Nat) + Int.toNat (↑g_3 : Int)) dDR) + (↑g_4 : Int) ∧ DR.index (List.getD (runsO g_1) ((0 : Nat) + Int.toNat (↑g_3 : Int)) dDR) + (↑g_4 : Int) < (↑(16 : Nat) : Int)) ∧
  Int.toNat (DR.file (List.getD (runsO g_1) ((0 : Nat) + Int.toNat (↑g_3 : Int)) dDR)) * (16 : Nat) + (0 : Nat) + Int.toNat (DR.index (List.getD (runsO g_1) ((0 : Nat) + Int.toNat
  (↑g_3 : Int)) dDR) + (↑g_4 : Int)) < List.length (cnts (covA g (Int.toNat (↑g_3 : Int)) ++ covB (List.getD (runsO g) (Int.toNat (↑g_3 : Int)) dDR) g_4)) ∧ ∃ (x : Int), [SV.val
  (Value.int IntKind.i64 x)] = [SV.val (Value.int IntKind.i64 (List.getD (cnts (covA g (Int.toNat (↑g_3 : Int)) ++ covB (List.getD (runsO g) (Int.toNat (↑g_3 : Int)) dDR) g_4))
  (Int.toNat (DR.file (List.getD (runsO g_1) ((0 : Nat) + Int.toNat (↑g_3 : Int)) dDR)) * (16 : Nat) + (0 : Nat) + Int.toNat (DR.index (List.getD (runsO g_1) ((0 : Nat) + Int.toNat
  (↑g_3 : Int)) dDR) + (↑g_4 : Int))) (0 : Int) + (1 : Int)))] ∧ inK IntKind.i64 ((↑g_4 : Int) + (1 : Int)) ∧ ∃ (g' : Nat), (↑g' : Int) ≤ DR.count (List.getD (runsO g) (Int.toNat
  (↑g_3 : Int)) dDR) ∧ Int.toNat (DR.count (List.getD (runsO g) (Int.toNat (↑g_3 : Int)) dDR)) - g' < Int.toNat (DR.count (List.getD (runsO g) (Int.toNat (↑g_3 : Int)) dDR)) - g_4 ∧
  (↑g_4 : Int) + (1 : Int) = (↑g' : Int) ∧ (LB.arr Int (0 : Int) Wb.encI (List.set (cnts (covA g (Int.toNat (↑g_3 : Int)) ++ covB (List.getD (runsO g) (Int.toNat (↑g_3 : Int)) dDR)
  g_4)) (Int.toNat (DR.file (List.getD (runsO g_1) ((0 : Nat) + Int.toNat (↑g_3 : Int)) dDR)) * (16 : Nat) + (0 : Nat) + Int.toNat (DR.index (List.getD (runsO g_1) ((0 : Nat) +
  Int.toNat (↑g_3 : Int)) dDR) + (↑g_4 : Int))) x) = LB.arr Int (0 : Int) Wb.encI (cnts (covA g (Int.toNat (↑g_3 : Int)) ++ covB (List.getD (runsO g) (Int.toNat (↑g_3 : Int)) dDR)
  g')) ∧ True) ∧ LB.arr DR dDR encDR (runsO g_1) = LB.arr DR dDR encDR (runsO g_1) ∧ LB.cells [SV.val (Value.int IntKind.i64 (DR.file (List.getD (runsO g_1) ((0 : Nat) + Int.toNat
  (↑g_3 : Int)) dDR))), SV.val (Value.int IntKind.i64 (DR.index (List.getD (runsO g_1) ((0 : Nat) + Int.toNat (↑g_3 : Int)) dDR))), SV.val (Value.int IntKind.i64 (DR.count (List.getD
  (runsO g_1) ((0 : Nat) + Int.toNat (↑g_3 : Int)) dDR)))] = LB.cells [SV.val (Value.int IntKind.i64 (DR.file (List.getD (runsO g_1) ((0 : Nat) + Int.toNat (↑g_3 : Int)) dDR))),
  SV.val (Value.int IntKind.i64 (DR.index (List.getD (runsO g_1) ((0 : Nat) + Int.toNat (↑g_3 : Int)) dDR))), SV.val (Value.int IntKind.i64 (DR.count (List.getD (runsO g_1) ((0 :
  Nat) + Int.toNat (↑g_3 : Int)) dDR)))] ∧ True) ∧ (decide ((↑g_4 : Int) < DR.count (List.getD (runsO g_1) ((0 : Nat) + Int.toNat (↑g_3 : Int)) dDR)) = false → inK IntKind.i64 ((↑g_3
  : Int) + (1 : Int)) ∧ ∃ (g' : Nat), g' ≤ List.length (runsO g) ∧ List.length (runsO g) - g' < List.length (runsO g) - g_3 ∧ (↑g_3 : Int) + (1 : Int) = (↑g' : Int) ∧ (LB.arr Int (0
  : Int) Wb.encI (cnts (covA g (Int.toNat (↑g_3 : Int)) ++ covB (List.getD (runsO g) (Int.toNat (↑g_3 : Int)) dDR) g_4)) = LB.arr Int (0 : Int) Wb.encI (cnts (covA g g')) ∧ True) ∧
  LB.arr DR dDR encDR (runsO g_1) = LB.arr DR dDR encDR (runsO g_1) ∧ True)))))))))) ∧ (decide ((↑g_3 : Int) < (↑(List.length (runsO g_1)) : Int)) = false → (∃ (g_4 : Nat), g_4 ≤
  List.length (GRn.l g) ∧ (0 : Int) = (↑g_4 : Int) ∧ (LB.arr Int (0 : Int) Wb.encI (cnts (covA g g_3)) = LB.arr Int (0 : Int) Wb.encI (cnts (left g g_4)) ∧ True) ∧ LB.arr DR dDR
  encDR (runsO g_1) = LB.arr DR dDR encDR (runsO g_1) ∧ True) ∧ ∀ (g_4 : Nat), g_4 ≤ List.length (GRn.l g) → (decide ((↑g_4 : Int) < (↑(List.length (GRn.l g)) : Int)) = true → ((0 :
  Int) ≤ (↑g_4 : Int) ∧ (↑g_4 : Int) < (↑(List.length (GRn.l g)) : Int)) ∧ Int.toNat (↑g_4 : Int) < List.length (GRn.l g) ∧ (decide (DP.file (List.getD (GRn.l g) (Int.toNat (↑g_4 :
  Int)) dDP) < (0 : Int)) = true → ∃ (b : Unit), True ∧ true = false ∧ (0 : Nat) = (0 : Nat) ∧ True) ∧ (decide (DP.file (List.getD (GRn.l g) (Int.toNat (↑g_4 : Int)) dDP) < (0 :
  Int)) = false → (decide (DP.file (List.getD (GRn.l g) (Int.toNat (↑g_4 : Int)) dDP) ≥ (4 : Int)) = true → ∃ (b : Unit), True ∧ true = false ∧ (0 : Nat) = (0 : Nat) ∧ True) ∧
  (decide (DP.file (List.getD (GRn.l g) (Int.toNat (↑g_4 : Int)) dDP) ≥ (4 : Int)) = false → (decide (DP.index (List.getD (GRn.l g) (Int.toNat (↑g_4 : Int)) dDP) < (0 : Int)) = true
  → ∃ (b : Unit), True ∧ true = false ∧ (0 : Nat) = (0 : Nat) ∧ True) ∧ (decide (DP.index (List.getD (GRn.l g) (Int.toNat (↑g_4 : Int)) dDP) < (0 : Int)) = false → (decide (DP.index
  (List.getD (GRn.l g) (Int.toNat (↑g_4 : Int)) dDP) ≥ (16 : Int)) = true → ∃ (b : Unit), True ∧ true = false ∧ (0 : Nat) = (0 : Nat) ∧ True) ∧ (decide (DP.index (List.getD (GRn.l g)
  (Int.toNat (↑g_4 : Int)) dDP) ≥ (16 : Int)) = false → ((0 : Int) ≤ DP.file (List.getD (GRn.l g) (Int.toNat (↑g_4 : Int)) dDP) ∧ DP.file (List.getD (GRn.l g) (Int.toNat (↑g_4 :
  Int)) dDP) < (↑(4 : Nat) : Int)) ∧ ((0 : Int) ≤ DP.index (List.getD (GRn.l g) (Int.toNat (↑g_4 : Int)) dDP) ∧ DP.index (List.getD (GRn.l g) (Int.toNat (↑g_4 : Int)) dDP) < (↑(16 :
  Nat) : Int)) ∧ Int.toNat (DP.file (List.getD (GRn.l g) (Int.toNat (↑g_4 : Int)) dDP)) * (16 : Nat) + (0 : Nat) + Int.toNat (DP.index (List.getD (GRn.l g) (Int.toNat (↑g_4 : Int))
  dDP)) < List.length (cnts (left g g_4)) ∧ ((List.getD (cnts (left g g_4)) (Int.toNat (DP.file (List.getD (GRn.l g) (Int.toNat (↑g_4 : Int)) dDP)) * (16 : Nat) + (0 : Nat) +
  Int.toNat (DP.index (List.getD (GRn.l g) (Int.toNat (↑g_4 : Int)) dDP))) (0 : Int) != (1 : Int)) = true → ∃ (b : Unit), True ∧ true = false ∧ (0 : Nat) = (0 : Nat) ∧ True) ∧
  ((List.getD (cnts (left g g_4)) (Int.toNat (DP.file (List.getD (GRn.l g) (Int.toNat (↑g_4 : Int)) dDP)) * (16 : Nat) + (0 : Nat) + Int.toNat (DP.index (List.getD (GRn.l g)
  (Int.toNat (↑g_4 : Int)) dDP))) (0 : Int) != (1 : Int)) = false → ((0 : Int) ≤ DP.file (List.getD (GRn.l g) (Int.toNat (↑g_4 : Int)) dDP) ∧ DP.file (List.getD (GRn.l g) (Int.toNat
  (↑g_4 : Int)) dDP) < (↑(4 : Nat) : Int)) ∧ ((0 : Int) ≤ DP.index (List.getD (GRn.l g) (Int.toNat (↑g_4 : Int)) dDP) ∧ DP.index (List.getD (GRn.l g) (Int.toNat (↑g_4 : Int)) dDP) <
  (↑(16 : Nat) : Int)) ∧ Int.toNat (DP.file (List.getD (GRn.l g) (Int.toNat (↑g_4 : Int)) dDP)) * (16 : Nat) + (0 : Nat) + Int.toNat (DP.index (List.getD (GRn.l g) (Int.toNat (↑g_4 :
  Int)) dDP)) < List.length (cnts (left g g_4)) ∧ ∃ (x : Int), [SV.val (Value.int IntKind.i64 x)] = [SV.val (Value.int IntKind.i64 (0 : Int))] ∧ inK IntKind.i64 ((↑g_4 : Int) + (1 :
  Int)) ∧ ∃ (g' : Nat), g' ≤ List.length (GRn.l g) ∧ List.length (GRn.l g) - g' < List.length (GRn.l g) - g_4 ∧ (↑g_4 : Int) + (1 : Int) = (↑g' : Int) ∧ (LB.arr Int (0 : Int) Wb.encI
  (List.set (cnts (left g g_4)) (Int.toNat (DP.file (List.getD (GRn.l g) (Int.toNat (↑g_4 : Int)) dDP)) * (16 : Nat) + (0 : Nat) + Int.toNat (DP.index (List.getD (GRn.l g) (Int.toNat
  (↑g_4 : Int)) dDP))) x) = LB.arr Int (0 : Int) Wb.encI (cnts (left g g')) ∧ True) ∧ LB.arr DR dDR encDR (runsO g_1) = LB.arr DR dDR encDR (runsO g_1) ∧ True)))))) ∧ (decide ((↑g_4
  : Int) < (↑(List.length (GRn.l g)) : Int)) = false → (64 : Nat) ≤ List.length (cnts (left g g_4)) ∧ ((List.getD (cnts (left g g_4)) (nat_lit 0) (0 : Int) == (0 : Int) && (List.getD
  (cnts (left g g_4)) (nat_lit 1) (0 : Int) == (0 : Int) && (List.getD (cnts (left g g_4)) (nat_lit 2) (0 : Int) == (0 : Int) && (List.getD (cnts (left g g_4)) (nat_lit 3) (0 : Int)
  == (0 : Int) && (List.getD (cnts (left g g_4)) (nat_lit 4) (0 : Int) == (0 : Int) && (List.getD (cnts (left g g_4)) (nat_lit 5) (0 : Int) == (0 : Int) && (List.getD (cnts (left g
  g_4)) (nat_lit 6) (0 : Int) == (0 : Int) && (List.getD (cnts (left g g_4)) (nat_lit 7) (0 : Int) == (0 : Int) && (List.getD (cnts (left g g_4)) (nat_lit 8) (0 : Int) == (0 : Int)
  && (List.getD (cnts (left g g_4)) (nat_lit 9) (0 : Int) == (0 : Int) && (List.getD (cnts (left g g_4)) (nat_lit 10) (0 : Int) == (0 : Int) && (List.getD (cnts (left g g_4))
  (nat_lit 11) (0 : Int) == (0 : Int) && (List.getD (cnts (left g g_4)) (nat_lit 12) (0 : Int) == (0 : Int) && (List.getD (cnts (left g g_4)) (nat_lit 13) (0 : Int) == (0 : Int) &&
  (List.getD (cnts (left g g_4)) (nat_lit 14) (0 : Int) == (0 : Int) && (List.getD (cnts (left g g_4)) (nat_lit 15) (0 : Int) == (0 : Int) && true))))))))))))))) && (List.getD (cnts
  (left g g_4)) (nat_lit 16) (0 : Int) == (0 : Int) && (List.getD (cnts (left g g_4)) (nat_lit 17) (0 : Int) == (0 : Int) && (List.getD (cnts (left g g_4)) (nat_lit 18) (0 : Int) ==
  (0 : Int) && (List.getD (cnts (left g g_4)) (nat_lit 19) (0 : Int) == (0 : Int) && (List.getD (cnts (left g g_4)) (nat_lit 20) (0 : Int) == (0 : Int) && (List.getD (cnts (left g
  g_4)) (nat_lit 21) (0 : Int) == (0 : Int) && (List.getD (cnts (left g g_4)) (nat_lit 22) (0 : Int) == (0 : Int) && (List.getD (cnts (left g g_4)) (nat_lit 23) (0 : Int) == (0 :
  Int) && (List.getD (cnts (left g g_4)) (nat_lit 24) (0 : Int) == (0 : Int) && (List.getD (cnts (left g g_4)) (nat_lit 25) (0 : Int) == (0 : Int) && (List.getD (cnts (left g g_4))
  (nat_lit 26) (0 : Int) == (0 : Int) && (List.getD (cnts (left g g_4)) (nat_lit 27) (0 : Int) == (0 : Int) && (List.getD (cnts (left g g_4)) (nat_lit 28) (0 : Int) == (0 : Int) &&
  (List.getD (cnts (left g g_4)) (nat_lit 29) (0 : Int) == (0 : Int) && (List.getD (cnts (left g g_4)) (nat_lit 30) (0 : Int) == (0 : Int) && (List.getD (cnts (left g g_4)) (nat_lit
  31) (0 : Int) == (0 : Int) && true))))))))))))))) && (List.getD (cnts (left g g_4)) (nat_lit 32) (0 : Int) == (0 : Int) && (List.getD (cnts (left g g_4)) (nat_lit 33) (0 : Int) ==
  (0 : Int) && (List.getD (cnts (left g g_4)) (nat_lit 34) (0 : Int) == (0 : Int) && (List.getD (cnts (left g g_4)) (nat_lit 35) (0 : Int) == (0 : Int) && (List.getD (cnts (left g
  g_4)) (nat_lit 36) (0 : Int) == (0 : Int) && (List.getD (cnts (left g g_4)) (nat_lit 37) (0 : Int) == (0 : Int) && (List.getD (cnts (left g g_4)) (nat_lit 38) (0 : Int) == (0 :
  Int) && (List.getD (cnts (left g g_4)) (nat_lit 39) (0 : Int) == (0 : Int) && (List.getD (cnts (left g g_4)) (nat_lit 40) (0 : Int) == (0 : Int) && (List.getD (cnts (left g g_4))
  (nat_lit 41) (0 : Int) == (0 : Int) && (List.getD (cnts (left g g_4)) (nat_lit 42) (0 : Int) == (0 : Int) && (List.getD (cnts (left g g_4)) (nat_lit 43) (0 : Int) == (0 : Int) &&
  (List.getD (cnts (left g g_4)) (nat_lit 44) (0 : Int) == (0 : Int) && (List.getD (cnts (left g g_4)) (nat_lit 45) (0 : Int) == (0 : Int) && (List.getD (cnts (left g g_4)) (nat_lit
  46) (0 : Int) == (0 : Int) && (List.getD (cnts (left g g_4)) (nat_lit 47) (0 : Int) == (0 : Int) && true))))))))))))))) && (List.getD (cnts (left g g_4)) (nat_lit 48) (0 : Int) ==
  (0 : Int) && (List.getD (cnts (left g g_4)) (nat_lit 49) (0 : Int) == (0 : Int) && (List.getD (cnts (left g g_4)) (nat_lit 50) (0 : Int) == (0 : Int) && (List.getD (cnts (left g
  g_4)) (nat_lit 51) (0 : Int) == (0 : Int) && (List.getD (cnts (left g g_4)) (nat_lit 52) (0 : Int) == (0 : Int) && (List.getD (cnts (left g g_4)) (nat_lit 53) (0 : Int) == (0 :
  Int) && (List.getD (cnts (left g g_4)) (nat_lit 54) (0 : Int) == (0 : Int) && (List.getD (cnts (left g g_4)) (nat_lit 55) (0 : Int) == (0 : Int) && (List.getD (cnts (left g g_4))
  (nat_lit 56) (0 : Int) == (0 : Int) && (List.getD (cnts (left g g_4)) (nat_lit 57) (0 : Int) == (0 : Int) && (List.getD (cnts (left g g_4)) (nat_lit 58) (0 : Int) == (0 : Int) &&
  (List.getD (cnts (left g g_4)) (nat_lit 59) (0 : Int) == (0 : Int) && (List.getD (cnts (left g g_4)) (nat_lit 60) (0 : Int) == (0 : Int) && (List.getD (cnts (left g g_4)) (nat_lit
  61) (0 : Int) == (0 : Int) && (List.getD (cnts (left g g_4)) (nat_lit 62) (0 : Int) == (0 : Int) && (List.getD (cnts (left g g_4)) (nat_lit 63) (0 : Int) == (0 : Int) &&
  true))))))))))))))) && true)))) = true → ∃ (g : Unit), True ∧ True ∧ True ∧ ∀ (b : Unit), True → ∃ (b : Unit), True ∧ SV.val (Value.bool true) = SV.val (Value.bool true) ∧ (0 :
  Nat) = (0 : Nat) ∧ True) ∧ ((List.getD (cnts (left g g_4)) (nat_lit 0) (0 : Int) == (0 : Int) && (List.getD (cnts (left g g_4)) (nat_lit 1) (0 : Int) == (0 : Int) && (List.getD
  (cnts (left g g_4)) (nat_lit 2) (0 : Int) == (0 : Int) && (List.getD (cnts (left g g_4)) (nat_lit 3) (0 : Int) == (0 : Int) && (List.getD (cnts (left g g_4)) (nat_lit 4) (0 : Int)
  == (0 : Int) && (List.getD (cnts (left g g_4)) (nat_lit 5) (0 : Int) == (0 : Int) && (List.getD (cnts (left g g_4)) (nat_lit 6) (0 : Int) == (0 : Int) && (List.getD (cnts (left g
  g_4)) (nat_lit 7) (0 : Int) == (0 : Int) && (List.getD (cnts (left g g_4)) (nat_lit 8) (0 : Int) == (0 : Int) && (List.getD (cnts (left g g_4)) (nat_lit 9) (0 : Int) == (0 : Int)
  && (List.getD (cnts (left g g_4)) (nat_lit 10) (0 : Int) == (0 : Int) && (List.getD (cnts (left g g_4)) (nat_lit 11) (0 : Int) == (0 : Int) && (List.getD (cnts (left g g_4))
  (nat_lit 12) (0 : Int) == (0 : Int) && (List.getD (cnts (left g g_4)) (nat_lit 13) (0 : Int) == (0 : Int) && (List.getD (cnts (left g g_4)) (nat_lit 14) (0 : Int) == (0 : Int) &&
  (List.getD (cnts (left g g_4)) (nat_lit 15) (0 : Int) == (0 : Int) && true))))))))))))))) && (List.getD (cnts (left g g_4)) (nat_lit 16) (0 : Int) == (0 : Int) && (List.getD (cnts
  (left g g_4)) (nat_lit 17) (0 : Int) == (0 : Int) && (List.getD (cnts (left g g_4)) (nat_lit 18) (0 : Int) == (0 : Int) && (List.getD (cnts (left g g_4)) (nat_lit 19) (0 : Int) ==
  (0 : Int) && (List.getD (cnts (left g g_4)) (nat_lit 20) (0 : Int) == (0 : Int) && (List.getD (cnts (left g g_4)) (nat_lit 21) (0 : Int) == (0 : Int) && (List.getD (cnts (left g
  g_4)) (nat_lit 22) (0 : Int) == (0 : Int) && (List.getD (cnts (left g g_4)) (nat_lit 23) (0 : Int) == (0 : Int) && (List.getD (cnts (left g g_4)) (nat_lit 24) (0 : Int) == (0 :
  Int) && (List.getD (cnts (left g g_4)) (nat_lit 25) (0 : Int) == (0 : Int) && (List.getD (cnts (left g g_4)) (nat_lit 26) (0 : Int) == (0 : Int) && (List.getD (cnts (left g g_4))
  (nat_lit 27) (0 : Int) == (0 : Int) && (List.getD (cnts (left g g_4)) (nat_lit 28) (0 : Int) == (0 : Int) && (List.getD (cnts (left g g_4)) (nat_lit 29) (0 : Int) == (0 : Int) &&
  (List.getD (cnts (left g g_4)) (nat_lit 30) (0 : Int) == (0 : Int) && (List.getD (cnts (left g g_4)) (nat_lit 31) (0 : Int) == (0 : Int) && true))))))))))))))) && (List.getD (cnts
  (left g g_4)) (nat_lit 32) (0 : Int) == (0 : Int) && (List.getD (cnts (left g g_4)) (nat_lit 33) (0 : Int) == (0 : Int) && (List.getD (cnts (left g g_4)) (nat_lit 34) (0 : Int) ==
  (0 : Int) && (List.getD (cnts (left g g_4)) (nat_lit 35) (0 : Int) == (0 : Int) && (List.getD (cnts (left g g_4)) (nat_lit 36) (0 : Int) == (0 : Int) && (List.getD (cnts (left g
  g_4)) (nat_lit 37) (0 : Int) == (0 : Int) && (List.getD (cnts (left g g_4)) (nat_lit 38) (0 : Int) == (0 : Int) && (List.getD (cnts (left g g_4)) (nat_lit 39) (0 : Int) == (0 :
  Int) && (List.getD (cnts (left g g_4)) (nat_lit 40) (0 : Int) == (0 : Int) && (List.getD (cnts (left g g_4)) (nat_lit 41) (0 : Int) == (0 : Int) && (List.getD (cnts (left g g_4))
  (nat_lit 42) (0 : Int) == (0 : Int) && (List.getD (cnts (left g g_4)) (nat_lit 43) (0 : Int) == (0 : Int) && (List.getD (cnts (left g g_4)) (nat_lit 44) (0 : Int) == (0 : Int) &&
  (List.getD (cnts (left g g_4)) (nat_lit 45) (0 : Int) == (0 : Int) && (List.getD (cnts (left g g_4)) (nat_lit 46) (0 : Int) == (0 : Int) && (List.getD (cnts (left g g_4)) (nat_lit
  47) (0 : Int) == (0 : Int) && true))))))))))))))) && (List.getD (cnts (left g g_4)) (nat_lit 48) (0 : Int) == (0 : Int) && (List.getD (cnts (left g g_4)) (nat_lit 49) (0 : Int) ==
  (0 : Int) && (List.getD (cnts (left g g_4)) (nat_lit 50) (0 : Int) == (0 : Int) && (List.getD (cnts (left g g_4)) (nat_lit 51) (0 : Int) == (0 : Int) && (List.getD (cnts (left g
  g_4)) (nat_lit 52) (0 : Int) == (0 : Int) && (List.getD (cnts (left g g_4)) (nat_lit 53) (0 : Int) == (0 : Int) && (List.getD (cnts (left g g_4)) (nat_lit 54) (0 : Int) == (0 :
  Int) && (List.getD (cnts (left g g_4)) (nat_lit 55) (0 : Int) == (0 : Int) && (List.getD (cnts (left g g_4)) (nat_lit 56) (0 : Int) == (0 : Int) && (List.getD (cnts (left g g_4))
  (nat_lit 57) (0 : Int) == (0 : Int) && (List.getD (cnts (left g g_4)) (nat_lit 58) (0 : Int) == (0 : Int) && (List.getD (cnts (left g g_4)) (nat_lit 59) (0 : Int) == (0 : Int) &&
  (List.getD (cnts (left g g_4)) (nat_lit 60) (0 : Int) == (0 : Int) && (List.getD (cnts (left g g_4)) (nat_lit 61) (0 : Int) == (0 : Int) && (List.getD (cnts (left g g_4)) (nat_lit
  62) (0 : Int) == (0 : Int) && (List.getD (cnts (left g g_4)) (nat_lit 63) (0 : Int) == (0 : Int) && true))))))))))))))) && true)))) = false → ∃ (b : Unit), True ∧ true = false ∧ (0
  : Nat) = (0 : Nat) ∧ True)))))) := by kernel_rfl
theorem cnts_len (ns : List Nat) : (cnts ns).length = 64 := by rw [cnts_eq, List.length_map, List.length_range]
theorem cnts_get {ns : List Nat} {n : Nat} (h : n < 64) : (cnts ns).getD n 0 = ((ns.count n : Nat) : Int) := by
  rw [cnts_eq, List.getD_eq_getElem?_getD, List.getElem?_map, List.getElem?_range h]; rfl
theorem cnts_ext {a : List Int} {ms : List Nat} (hl : a.length = 64) (h : ∀ n, n < 64 → a.getD n 0 = ((ms.count n : Nat) : Int)) : a = cnts ms := by
  apply List.ext_getElem
  · rw [hl, cnts_len]
  · intro n h1 h2
    have := h n (by omega)
    rw [← cnts_get (by omega)] at this
    simpa [List.getD_eq_getElem?_getD, List.getElem?_eq_getElem h1, List.getElem?_eq_getElem h2] using this
theorem cnts_perm {a b : List Nat} (h : a.Perm b) : cnts a = cnts b := by
  rw [cnts_eq, cnts_eq]
  exact List.map_congr_left fun n _ => by rw [h.count_eq n]
theorem cnts_set {ns ms : List Nat} {n : Nat} {v : Int} (h : n < 64) (hv : v = ((ms.count n : Nat) : Int)) (ho : ∀ k, k ≠ n → ns.count k = ms.count k) : (cnts ns).set n v = cnts ms := by
  refine cnts_ext (by rw [List.length_set, cnts_len]) fun k hk => ?_
  rw [List.getD_eq_getElem?_getD, List.getElem?_set]
  by_cases e : n = k
  · subst e
    rw [if_pos rfl, if_pos (by rw [cnts_len]; exact h), hv]; rfl
  · rw [if_neg e, ← List.getD_eq_getElem?_getD, cnts_get hk, ho k (fun h => e h.symm)]
theorem cnts_add {ns : List Nat} {n : Nat} (h : n < 64) : (cnts ns).set n ((cnts ns).getD n 0 + 1) = cnts (ns ++ [n]) := by
  refine cnts_set h ?_ fun k hk => ?_
  · rw [cnts_get h, List.count_append, List.count_singleton_self]; push_cast; rfl
  · rw [List.count_append, List.count_cons_of_ne (fun e => hk e.symm), List.count_nil, Nat.add_zero]
theorem cnts_clr {ns : List Nat} {n : Nat} (h : n < 64) (hn : n ∉ ns) : (cnts (n :: ns)).set n 0 = cnts ns := by
  refine cnts_set h ?_ fun k hk => ?_
  · rw [List.count_eq_zero_of_not_mem hn]; rfl
  · rw [List.count_cons_of_ne (fun e => hk e.symm)]
theorem nums_nodup {l : List DP} (hc : chk l = 0) : ((l.map plO).map numP).Nodup := by
  have hn := places_nodup hc
  have hok : ∀ p ∈ l, okP p = true := fun p hp => List.all_eq_true.1 (chk_ok hc) p hp
  rw [List.map_map, List.Nodup, List.pairwise_map]
  rw [List.Nodup, List.pairwise_map] at hn
  refine List.Pairwise.imp_of_mem (fun {a b} ha hb hab => ?_) hn
  have h1 := okP_iff.1 (hok a ha)
  have h2 := okP_iff.1 (hok b hb)
  intro he
  have he : (a.file * 16 + a.index).toNat = (b.file * 16 + b.index).toNat := he
  apply hab
  show plO a = plO b
  unfold plO
  have e1 : a.file = b.file := by omega
  have e2 : a.index = b.index := by omega
  rw [e1, e2]
theorem left_cons {l : List DP} {most : Int} {i : Nat} (hi : i < l.length) : left ⟨l, most⟩ i = numP (plO (l.getD i dDP)) :: left ⟨l, most⟩ (i + 1) := by
  unfold left
  dsimp only
  rw [List.drop_eq_getElem_cons hi, List.getD_eq_getElem?_getD, List.getElem?_eq_getElem hi]; rfl
theorem left_out {l : List DP} {most : Int} {i : Nat} (hc : chk l = 0) (hi : i < l.length) : numP (plO (l.getD i dDP)) ∉ left ⟨l, most⟩ (i + 1) := by
  have h := nums_nodup hc
  have h2 : (left ⟨l, most⟩ i).Nodup := by
    show (((l.drop i).map plO).map numP).Nodup
    rw [List.map_drop, List.map_drop]
    exact (List.drop_sublist i _).nodup h
  rw [left_cons hi] at h2
  exact (List.nodup_cons.1 h2).1
theorem covB_next (x : DR) (j : Nat) : covB x (j + 1) = covB x j ++ [numP ⟨x.file, x.index + j⟩] := by
  unfold covB; rw [List.range_succ, List.map_append]; rfl
theorem covA_next {g : GRn} {i : Nat} (hi : i < (runsO g).length) : covA g (i + 1) = covA g i ++ covB ((runsO g).getD i dDR) ((runsO g).getD i dDR).count.toNat := by
  unfold covA
  rw [take_next _ dDR hi, List.flatMap_append, List.map_append]
  congr 1
  rw [List.flatMap_cons, List.flatMap_nil, List.append_nil]
  unfold expand covB
  rw [List.map_map]; rfl
theorem mem_getD {R : List DR} {i : Nat} (h : i < R.length) : R.getD i dDR ∈ R := by
  rw [List.getD_eq_getElem?_getD, List.getElem?_eq_getElem h]; exact List.getElem_mem h
theorem covA_len {l : List DP} {most : Int} (hc : chk l = 0) (hm : 1 ≤ most) : ∀ i, i ≤ (runsO ⟨l, most⟩).length → (covA ⟨l, most⟩ i).length ≤ 16 * i
  | 0, _ => by simp [covA]
  | i + 1, h => by
    have ih := covA_len hc hm i (by omega)
    have hb := runsInside hc hm (mem_getD (R := runsO ⟨l, most⟩) (i := i) (by omega))
    rw [covA_next (by omega), List.length_append]
    have : (covB ((runsO ⟨l, most⟩).getD i dDR) ((runsO ⟨l, most⟩).getD i dDR).count.toNat).length = ((runsO ⟨l, most⟩).getD i dDR).count.toNat := by unfold covB; rw [List.length_map, List.length_range]
    omega
theorem covA_all {l : List DP} {most : Int} (hc : chk l = 0) (hm : 1 ≤ most) : (covA ⟨l, most⟩ (runsO ⟨l, most⟩).length).Perm (left ⟨l, most⟩ 0) := by
  unfold covA left
  rw [List.take_length, runs_flat hc hm]
  exact (allL_perm hc).map numP
theorem vCovers : cCovers.body (fun g => env [(21, cRuns), (10, cFew), (11, cAwake)] (lCovers g)) Try.f7 := by
  rw [vCovers_eq]
  rintro ⟨l, most⟩ ⟨hl, hm⟩
  dsimp only at hl hm ⊢
  have aw : ∃ (g : Unit), True ∧ True ∧ True ∧ ∀ (b : Unit), True → ∃ (b : Unit), True ∧ SV.val (Value.bool true) = SV.val (Value.bool true) ∧ (0 : Nat) = (0 : Nat) ∧ True := ⟨(), trivial, trivial, trivial, fun _ _ => ⟨(), trivial, rfl, rfl, trivial⟩⟩
  refine ⟨⟨l, most⟩, ⟨rfl, rfl⟩, trivial, ⟨hl, hm⟩, fun _ _ => ⟨l, rfl, trivial, trivial, fun _ _ => ⟨fun _ => aw, fun hf => ⟨fun _ => aw, fun he => ?_⟩⟩⟩⟩
  have he : runsE ⟨l, most⟩ = 0 := by simpa using he
  have hc : chk l = 0 := by
    by_cases h : chk l = 0
    · exact h
    · rw [runsE, if_neg h] at he; exact absurd he h
  have hm1 : 1 ≤ most := by
    by_cases h : most < 1
    · rw [runsE, if_pos hc, if_pos h] at he; cases he
    · omega
  have h64 := runsO_len ⟨l, most⟩
  have hl64 := chk_len hc
  have hok : ∀ p ∈ l, okP p = true := fun p hp => List.all_eq_true.1 (chk_ok hc) p hp
  simp only [Nat.zero_add, Nat.add_zero, Int.toNat_natCast]
  refine ⟨⟨0, Nat.zero_le _, by trivial, ⟨⟨?_, fun _ => ⟨by trivial, by trivial⟩⟩, by trivial⟩, by trivial, by trivial⟩, fun i hi => ⟨fun hlt => ?_, fun hge => ?_⟩⟩
  · rw [cnts_eq]; kernel_rfl
  · have hlt : (i : Int) < (runsO ⟨l, most⟩).length := of_decide_eq_true hlt
    have hi' : i < (runsO ⟨l, most⟩).length := by omega
    obtain ⟨b1, b2, b3, b4, b5, b6⟩ := runsInside hc hm1 (mem_getD hi')
    have hcl := covA_len hc hm1 i hi
    refine ⟨⟨by omega, hlt⟩, hi', fun h => absurd (of_decide_eq_true h) (by omega), fun _ => ⟨fun h => absurd (of_decide_eq_true h) (by omega), fun _ => ⟨fun h => absurd (of_decide_eq_true h) (by omega), fun _ => ⟨fun h => absurd (of_decide_eq_true h) (by omega), fun _ => ⟨fun h => absurd (of_decide_eq_true h) (by omega), fun _ => ⟨fun h => absurd (of_decide_eq_true h) (by omega), fun _ => ⟨inI (by omega) (by omega), fun h => absurd (of_decide_eq_true h) (by omega), fun _ => ?_⟩⟩⟩⟩⟩⟩⟩
    refine ⟨fun h0 => ?a, fun _ => ?b⟩
    case' a =>
      have h0 : (i : Int) > 0 := of_decide_eq_true h0
      have hk : ((i : Int) - 1).toNat = i - 1 := by omega
      have hi1 : i - 1 < (runsO ⟨l, most⟩).length := by omega
      obtain ⟨d1, d2, d3, d4, d5, d6⟩ := runsInside hc hm1 (mem_getD hi1)
      simp only [hk]
      refine ⟨inI (by omega) (by omega), ⟨by omega, by omega⟩, hi1, fun e1 => ⟨inI (by omega) (by omega), ⟨by omega, by omega⟩, hi1, inI (by omega) (by omega), ⟨by omega, by omega⟩, hi1, inI (by omega) (by omega), fun e2 => ⟨inI (by omega) (by omega), ⟨by omega, by omega⟩, hi1, fun e3 => absurd ?c (by simpa using e3), fun _ => ?d⟩, fun _ => ?e⟩, fun _ => ?f⟩
      case' c =>
        have hi2 : i - 1 + 1 = i := by omega
        refine run_apart hc hm1 (i := i - 1) (by omega) ?_ ?_
        · rw [hi2]; simpa using e1
        · rw [hi2]; simpa using e2
    all_goals
      refine ⟨⟨0, by show (0 : Int) ≤ _; omega, rfl, ⟨by rw [show covB ((runsO ⟨l, most⟩).getD i dDR) 0 = [] from rfl, List.append_nil], trivial⟩, by trivial, by trivial, by trivial⟩, fun j hj => ⟨fun hjt => ?_, fun hjf => ?_⟩⟩
      · have hjt : (j : Int) < ((runsO ⟨l, most⟩).getD i dDR).count := of_decide_eq_true hjt
        have hN : ((runsO ⟨l, most⟩).getD i dDR).file.toNat * 16 + (((runsO ⟨l, most⟩).getD i dDR).index + (j : Int)).toNat = numP ⟨((runsO ⟨l, most⟩).getD i dDR).file, ((runsO ⟨l, most⟩).getD i dDR).index + (j : Int)⟩ := by unfold numP; dsimp only; omega
        have hN64 : numP ⟨((runsO ⟨l, most⟩).getD i dDR).file, ((runsO ⟨l, most⟩).getD i dDR).index + (j : Int)⟩ < 64 := by unfold numP; dsimp only; omega
        have hNl : numP ⟨((runsO ⟨l, most⟩).getD i dDR).file, ((runsO ⟨l, most⟩).getD i dDR).index + (j : Int)⟩ < (cnts (covA ⟨l, most⟩ i ++ covB ((runsO ⟨l, most⟩).getD i dDR) j)).length := by rw [cnts_len]; exact hN64
        have hcount : ((covA ⟨l, most⟩ i ++ covB ((runsO ⟨l, most⟩).getD i dDR) j).count (numP ⟨((runsO ⟨l, most⟩).getD i dDR).file, ((runsO ⟨l, most⟩).getD i dDR).index + (j : Int)⟩)) ≤ 2000 := by
          refine Nat.le_trans List.count_le_length ?_
          rw [List.length_append]
          have : (covB ((runsO ⟨l, most⟩).getD i dDR) j).length = j := by unfold covB; rw [List.length_map, List.length_range]
          omega
        simp only [hN]
        have hset := cnts_add (ns := covA ⟨l, most⟩ i ++ covB ((runsO ⟨l, most⟩).getD i dDR) j) hN64
        refine ⟨inI (by omega) (by omega), ⟨b1, b2⟩, ⟨by omega, by show _ < (16 : Int); omega⟩, hNl, by rw [cnts_get hN64]; exact inI (by omega) (by omega), ⟨b1, b2⟩, ⟨by omega, by show _ < (16 : Int); omega⟩, hNl, _, rfl, inI (by omega) (by omega), j + 1, by push_cast; omega, by omega, by push_cast; rfl, ⟨?_, trivial⟩, by trivial, by trivial, by trivial⟩
        rw [hset, covB_next, List.append_assoc]
      · have hjf : ¬ (j : Int) < ((runsO ⟨l, most⟩).getD i dDR).count := of_decide_eq_false hjf
        refine ⟨inI (by omega) (by omega), i + 1, by omega, by omega, by push_cast; rfl, ⟨?_, trivial⟩, by trivial, by trivial⟩
        rw [covA_next hi', show j = ((runsO ⟨l, most⟩).getD i dDR).count.toNat by omega]
  · have hge : ¬ (i : Int) < (runsO ⟨l, most⟩).length := of_decide_eq_false hge
    obtain rfl : i = (runsO ⟨l, most⟩).length := by omega
    refine ⟨⟨0, Nat.zero_le _, rfl, ⟨by rw [cnts_perm (covA_all hc hm1)], trivial⟩, by trivial, by trivial⟩, fun k hk => ⟨fun hlt => ?_, fun hge => ?_⟩⟩
    · have hlt : (k : Int) < l.length := of_decide_eq_true hlt
      have hk' : k < l.length := by omega
      have ho := okP_iff.1 (hok _ (getD_mem hk'))
      obtain ⟨b1, b2, b3, b4, _⟩ := ho
      have hN : (l.getD k dDP).file.toNat * 16 + (l.getD k dDP).index.toNat = numP (plO (l.getD k dDP)) := by unfold numP plO; dsimp only; omega
      have hN64 : numP (plO (l.getD k dDP)) < 64 := by unfold numP plO; dsimp only; omega
      have hNl : numP (plO (l.getD k dDP)) < (cnts (left ⟨l, most⟩ k)).length := by rw [cnts_len]; exact hN64
      have hone : (cnts (left ⟨l, most⟩ k)).getD (numP (plO (l.getD k dDP))) 0 = 1 := by
        rw [cnts_get hN64, left_cons hk', List.count_cons_self, List.count_eq_zero_of_not_mem (left_out hc hk')]; rfl
      simp only [hN]
      refine ⟨⟨by omega, hlt⟩, hk', fun h => absurd (of_decide_eq_true h) (by omega), fun _ => ⟨fun h => absurd (of_decide_eq_true h) (by omega), fun _ => ⟨fun h => absurd (of_decide_eq_true h) (by omega), fun _ => ⟨fun h => absurd (of_decide_eq_true h) (by omega), fun _ => ⟨⟨b1, b2⟩, ⟨b3, b4⟩, hNl, fun h => absurd hone (by simpa using h), fun _ => ⟨⟨b1, b2⟩, ⟨b3, b4⟩, hNl, 0, rfl, inI (by omega) (by omega), k + 1, by omega, by omega, by push_cast; rfl, ⟨?_, trivial⟩, by trivial, by trivial⟩⟩⟩⟩⟩⟩
      rw [left_cons hk', cnts_clr hN64 (left_out hc hk')]
    · have hge : ¬ (k : Int) < l.length := of_decide_eq_false hge
      obtain rfl : k = l.length := by omega
      have hz : cnts (left ⟨l, most⟩ l.length) = List.replicate 64 0 := by
        rw [show left ⟨l, most⟩ l.length = [] by unfold left; rw [List.drop_length]; rfl, cnts_eq]; kernel_rfl
      rw [hz]
      exact ⟨by rw [List.length_replicate]; exact Nat.le_refl _, fun _ => ⟨(), trivial, trivial, trivial, fun _ _ => ⟨(), trivial, trivial, trivial, trivial⟩⟩, fun h => absurd h (by decide)⟩
theorem sCovers : SpecOk P 7 cCovers.spec := spec_of cCovers (tab_cons sWRuns (tab_cons sFew (tab_cons sAwake (tab_nil P)))) mixed (fn := Try.f7) (by kernel_rfl) (by kernel_rfl) (by kernel_rfl) (Nat.zero_le _) (noIns fun _ => rfl) vCovers
end Go.WbW
