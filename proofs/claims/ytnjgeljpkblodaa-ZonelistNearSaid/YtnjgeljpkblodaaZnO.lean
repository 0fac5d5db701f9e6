/- A PART OF THE PROOF. NO CONDITION. -/
import Derived.Test.YtnjgeljpkblodaaZnJ
import Derived.Test.YtnjgeljpkblodaaSxAD
noncomputable section
set_option linter.unusedVariables false
set_option linter.unusedVariables false
set_option linter.unusedSimpArgs false
namespace Go.Zn
open Go.Proofs Go.SX
set_option maxRecDepth 100000
abbrev envw (tab : List (Nat × Con)) (loops : Loops) : Env := envW P encs tab loops
theorem vNear_eq : (cNear.body (fun g => envw [(12, cAwake), (22, cValid), (17, cROrder), (23, cFar)] (lNear 9 g)) Try.f7) = (∀ (g : GO), True → ∃ (g_1 : List Z × Int), (SV.ro Z dZ encZ (GO.l g) = SV.ro Z dZ encZ (Prod.fst g_1) ∧ SV.val (Value.int IntKind.i64 (GO.node g)) = SV.val (Value.int IntKind.i64
  (Prod.snd g_1))) ∧ True ∧ True ∧ ∀ (b : Unit), True → ((!validZ (Prod.fst g_1) (Prod.snd g_1)) = true → ∃ (g : Unit), True ∧ True ∧ True ∧ ∀ (b : Unit), True → ∃ (b : Unit), True ∧
  SV.val (Value.bool true) = SV.val (Value.bool true) ∧ (0 : Nat) = (0 : Nat) ∧ True) ∧ ((!validZ (Prod.fst g_1) (Prod.snd g_1)) = false → ∃ (g_2 : GO), (SV.ro Z dZ encZ (GO.l g) =
  SV.ro Z dZ encZ (GO.l g_2) ∧ SV.val (Value.int IntKind.i64 (GO.node g)) = SV.val (Value.int IntKind.i64 (GO.node g_2)) ∧ SV.val (Value.bool (GO.kernel g)) = SV.val (Value.bool
  (GO.kernel g_2))) ∧ True ∧ List.length (GO.l g_2) ≤ (1000000000 : Nat) ∧ ∀ (b : Unit), True → (∃ (g_3 : Nat), g_3 ≤ List.length (ordO (GO.l g) (GO.node g) (GO.kernel g)) ∧ (0 :
  Int) = (↑g_3 : Int) ∧ True ∧ LB.arr Int (0 : Int) encI (ordO (GO.l g_2) (GO.node g_2) (GO.kernel g_2)) = LB.arr Int (0 : Int) encI (ordO (GO.l g_2) (GO.node g_2) (GO.kernel g_2)) ∧
  True) ∧ ∀ (g_3 : Nat), g_3 ≤ List.length (ordO (GO.l g) (GO.node g) (GO.kernel g)) → (decide ((↑g_3 : Int) < (↑(List.length (ordO (GO.l g_2) (GO.node g_2) (GO.kernel g_2))) : Int))
  = true → ((0 : Int) ≤ (↑g_3 : Int) ∧ (↑g_3 : Int) < (↑(List.length (ordO (GO.l g_2) (GO.node g_2) (GO.kernel g_2))) : Int)) ∧ (0 : Nat) + Int.toNat (↑g_3 : Int) < List.length (ordO
  (GO.l g_2) (GO.node g_2) (GO.kernel g_2)) ∧ (decide (List.getD (ordO (GO.l g_2) (GO.node g_2) (GO.kernel g_2)) ((0 : Nat) + Int.toNat (↑g_3 : Int)) (0 : Int) < (0 : Int)) = true →
  ∃ (b : Unit), True ∧ true = false ∧ (0 : Nat) = (0 : Nat) ∧ True) ∧ (decide (List.getD (ordO (GO.l g_2) (GO.node g_2) (GO.kernel g_2)) ((0 : Nat) + Int.toNat (↑g_3 : Int)) (0 :
  Int) < (0 : Int)) = false → ((0 : Int) ≤ (↑g_3 : Int) ∧ (↑g_3 : Int) < (↑(List.length (ordO (GO.l g_2) (GO.node g_2) (GO.kernel g_2))) : Int)) ∧ (0 : Nat) + Int.toNat (↑g_3 : Int)
  < List.length (ordO (GO.l g_2) (GO.node g_2) (GO.kernel g_2)) ∧ (decide (List.getD (ordO (GO.l g_2) (GO.node g_2) (GO.kernel g_2)) ((0 : Nat) + Int.toNat (↑g_3 : Int)) (0 : Int) ≥
  (↑(List.length (GO.l g)) : Int)) = true → ∃ (b : Unit), True ∧ true = false ∧ (0 : Nat) = (0 : Nat) ∧ True) ∧ (decide (List.getD (ordO (GO.l g_2) (GO.node g_2) (GO.kernel g_2)) ((0
  : Nat) + Int.toNat (↑g_3 : Int)) (0 : Int) ≥ (↑(List.length (GO.l g)) : Int)) = false → (((↑g_3 : Int) == (0 : Int)) = true → inK IntKind.i64 ((↑g_3 : Int) + (1 : Int)) ∧ ∃ (g' :
  Nat), g' ≤ List.length (ordO (GO.l g) (GO.node g) (GO.kernel g)) ∧ List.length (ordO (GO.l g) (GO.node g) (GO.kernel g)) - g' < List.length (ordO (GO.l g) (GO.node g) (GO.kernel
  g)) - g_3 ∧ (↑g_3 : Int) + (1 : Int) = (↑g' : Int) ∧ True ∧ LB.arr Int (0 : Int) encI (ordO (GO.l g_2) (GO.node g_2) (GO.kernel g_2)) = LB.arr Int (0 : Int) encI (ordO (GO.l g_2)
  (GO.node g_2) (GO.kernel g_2)) ∧ True) ∧ (((↑g_3 : Int) == (0 : Int)) = false → inK IntKind.i64 ((↑g_3 : Int) - (1 : Int)) ∧ ((0 : Int) ≤ (↑g_3 : Int) - (1 : Int) ∧ (↑g_3 : Int) -
  (1 : Int) < (↑(List.length (ordO (GO.l g_2) (GO.node g_2) (GO.kernel g_2))) : Int)) ∧ (0 : Nat) + Int.toNat ((↑g_3 : Int) - (1 : Int)) < List.length (ordO (GO.l g_2) (GO.node g_2)
  (GO.kernel g_2)) ∧ ((0 : Int) ≤ List.getD (ordO (GO.l g_2) (GO.node g_2) (GO.kernel g_2)) ((0 : Nat) + Int.toNat ((↑g_3 : Int) - (1 : Int))) (0 : Int) ∧ List.getD (ordO (GO.l g_2)
  (GO.node g_2) (GO.kernel g_2)) ((0 : Nat) + Int.toNat ((↑g_3 : Int) - (1 : Int))) (0 : Int) < (↑(List.length (GO.l g)) : Int)) ∧ Int.toNat (List.getD (ordO (GO.l g_2) (GO.node g_2)
  (GO.kernel g_2)) ((0 : Nat) + Int.toNat ((↑g_3 : Int) - (1 : Int))) (0 : Int)) < List.length (GO.l g) ∧ ((0 : Int) ≤ (↑g_3 : Int) ∧ (↑g_3 : Int) < (↑(List.length (ordO (GO.l g_2)
  (GO.node g_2) (GO.kernel g_2))) : Int)) ∧ (0 : Nat) + Int.toNat (↑g_3 : Int) < List.length (ordO (GO.l g_2) (GO.node g_2) (GO.kernel g_2)) ∧ ((0 : Int) ≤ List.getD (ordO (GO.l g_2)
  (GO.node g_2) (GO.kernel g_2)) ((0 : Nat) + Int.toNat (↑g_3 : Int)) (0 : Int) ∧ List.getD (ordO (GO.l g_2) (GO.node g_2) (GO.kernel g_2)) ((0 : Nat) + Int.toNat (↑g_3 : Int)) (0 :
  Int) < (↑(List.length (GO.l g)) : Int)) ∧ Int.toNat (List.getD (ordO (GO.l g_2) (GO.node g_2) (GO.kernel g_2)) ((0 : Nat) + Int.toNat (↑g_3 : Int)) (0 : Int)) < List.length (GO.l
  g) ∧ (∃ (g_4 : Int × Int), (SV.val (Value.int IntKind.i64 (Z.node (List.getD (GO.l g) (Int.toNat (List.getD (ordO (GO.l g_2) (GO.node g_2) (GO.kernel g_2)) ((0 : Nat) + Int.toNat
  ((↑g_3 : Int) - (1 : Int))) (0 : Int))) dZ))) = SV.val (Value.int IntKind.i64 (Prod.fst g_4)) ∧ SV.val (Value.int IntKind.i64 (GO.node g)) = SV.val (Value.int IntKind.i64 (Prod.snd
  g_4))) ∧ True ∧ (small (Prod.fst g_4) ∧ small (Prod.snd g_4)) ∧ ∀ (b : Unit), True → ∃ (g_5 : Int × Int), (SV.val (Value.int IntKind.i64 (Z.node (List.getD (GO.l g) (Int.toNat
  (List.getD (ordO (GO.l g_2) (GO.node g_2) (GO.kernel g_2)) ((0 : Nat) + Int.toNat (↑g_3 : Int)) (0 : Int))) dZ))) = SV.val (Value.int IntKind.i64 (Prod.fst g_5)) ∧ SV.val
  (Value.int IntKind.i64 (GO.node g)) = SV.val (Value.int IntKind.i64 (Prod.snd g_5))) ∧ True ∧ (small (Prod.fst g_5) ∧ small (Prod.snd g_5)) ∧ ∀ (b : Unit), True → (decide (farI
  (Prod.fst g_4) (Prod.snd g_4) > farI (Prod.fst g_5) (Prod.snd g_5)) = true → ∃ (b : Unit), True ∧ true = false ∧ (0 : Nat) = (0 : Nat) ∧ True) ∧ (decide (farI (Prod.fst g_4)
  (Prod.snd g_4) > farI (Prod.fst g_5) (Prod.snd g_5)) = false → ((farI (Prod.fst g_4) (Prod.snd g_4) == farI (Prod.fst g_5) (Prod.snd g_5)) = true → (decide (Z.node (List.getD (GO.l
  g) (Int.toNat (List.getD (ordO (GO.l g_2) (GO.node g_2) (GO.kernel g_2)) ((0 : Nat) + Int.toNat ((↑g_3 : Int) - (1 : Int))) (0 : Int))) dZ) > Z.node (List.getD (GO.l g) (Int.toNat
  (List.getD (ordO (GO.l g_2) (GO.node g_2) (GO.kernel g_2)) ((0 : Nat) + Int.toNat (↑g_3 : Int)) (0 : Int))) dZ)) = true → ∃ (b : Unit), True ∧ true = false ∧ (0 : Nat) = (0 : Nat)
  ∧ True) ∧ (decide (Z.node (List.getD (GO.l g) (Int.toNat (List.getD (ordO (GO.l g_2) (GO.node g_2) (GO.kernel g_2)) ((0 : Nat) + Int.toNat ((↑g_3 : Int) - (1 : Int))) (0 : Int)))
  dZ) > Z.node (List.getD (GO.l g) (Int.toNat (List.getD (ordO (GO.l g_2) (GO.node g_2) (GO.kernel g_2)) ((0 : Nat) + Int.toNat (↑g_3 : Int)) (0 : Int))) dZ)) = false → ((Z.node
  (List.getD (GO.l g) (Int.toNat (List.getD (ordO (GO.l g_2) (GO.node g_2) (GO.kernel g_2)) ((0 : Nat) + Int.toNat ((↑g_3 : Int) - (1 : Int))) (0 : Int))) dZ) == Z.node (List.getD
  (GO.l g) (Int.toNat (List.getD (ordO (GO.l g_2) (GO.node g_2) (GO.kernel g_2)) ((0 : Nat) + Int.toNat (↑g_3 : Int)) (0 : Int))) dZ)) = true → (decide (Z.kind (List.getD (GO.l g)
  (Int.toNat (List.getD (ordO (GO.l g_2) (GO.node g_2) (GO.kernel g_2)) ((0 : Nat) + Int.toNat ((↑g_3 : Int) - (1 : Int))) (0 : Int))) dZ) < Z.kind (List.getD (GO.l g) (Int.toNat
  (List.getD (ordO (GO.l g_2) (GO.node g_2) (GO.kernel g_2)) ((0 : Nat) + Int.toNat (↑g_3 : Int)) (0 : Int))) dZ)) = true → ∃ (b : Unit), True ∧ true = false ∧ (0 : Nat) = (0 : Nat)
  ∧ True) ∧ (decide (Z.kind (List.getD (GO.l g) (Int.toNat (List.getD (ordO (GO.l g_2) (GO.node g_2) (GO.kernel g_2)) ((0 : Nat) + Int.toNat ((↑g_3 : Int) - (1 : Int))) (0 : Int)))
  dZ) < Z.kind (List.getD (GO.l g) (Int.toNat (List.getD (ordO (GO.l g_2) (GO.node g_2) (GO.kernel g_2)) ((0 : Nat) + Int.toNat (↑g_3 : Int)) (0 : Int))) dZ)) = false → ((Z.kind
  (List.getD (GO.l g) (Int.toNat (List.getD (ordO (GO.l g_2) (GO.node g_2) (GO.kernel g_2)) ((0 : Nat) + Int.toNat ((↑g_3 : Int) - (1 : Int))) (0 : Int))) dZ) == Z.kind (List.getD
  (GO.l g) (Int.toNat (List.getD (ordO (GO.l g_2) (GO.node g_2) (GO.kernel g_2)) ((0 : Nat) + Int.toNat (↑g_3 : Int)) (0 : Int))) dZ)) = true → inK IntKind.i64 ((↑g_3 : Int) - (1 :
  Int)) ∧ ((0 : Int) ≤ (↑g_3 : Int) - (1 : Int) ∧ (↑g_3 : Int) - (1 : Int) < (↑(List.length (ordO (GO.l g_2) (GO.node g_2) (GO.kernel g_2))) : Int)) ∧ (0 : Nat) + Int.toNat ((↑g_3 :
  Int) - (1 : Int)) < List.length (ordO (GO.l g_2) (GO.node g_2) (GO.kernel g_2)) ∧ ((0 : Int) ≤ (↑g_3 : Int) ∧ (↑g_3 : Int) < (↑(List.length (ordO (GO.l g_2) (GO.node g_2)
  (GO.kernel g_2))) : Int)) ∧ (0 : Nat) + Int.toNat (↑g_3 : Int) < List.length (ordO (GO.l g_2) (GO.node g_2) (GO.kernel g_2)) ∧ (decide (List.getD (ordO (GO.l g_2) (GO.node g_2)
  (GO.kernel g_2)) ((0 : Nat) + Int.toNat ((↑g_3 : Int) - (1 : Int))) (0 : Int) ≥ List.getD (ordO (GO.l g_2) (GO.node g_2) (GO.kernel g_2)) ((0 : Nat) + Int.toNat (↑g_3 : Int)) (0 :
  Int)) = true → ∃ (b : Unit), True ∧ true = false ∧ (0 : Nat) = (0 : Nat) ∧ True) ∧ (decide (List.getD (ordO (GO.l g_2) (GO.node g_2) (GO.kernel g_2)) ((0 : Nat) + Int.toNat ((↑g_3
  : Int) - (1 : Int))) (0 : Int) ≥ List.getD (ordO (GO.l g_2) (GO.node g_2) (GO.kernel g_2)) ((0 : Nat) + Int.toNat (↑g_3 : Int)) (0 : Int)) = false → inK IntKind.i64 ((↑g_3 : Int) +
  (1 : Int)) ∧ ∃ (g' : Nat), g' ≤ List.length (ordO (GO.l g) (GO.node g) (GO.kernel g)) ∧ List.length (ordO (GO.l g) (GO.node g) (GO.kernel g)) - g' < List.length (ordO (GO.l g)
  (GO.node g) (GO.kernel g)) - g_3 ∧ (↑g_3 : Int) + (1 : Int) = (↑g' : Int) ∧ True ∧ LB.arr Int (0 : Int) encI (ordO (GO.l g_2) (GO.node g_2) (GO.kernel g_2)) = LB.arr Int (0 : Int)
  encI (ordO (GO.l g_2) (GO.node g_2) (GO.kernel g_2)) ∧ True)) ∧ ((Z.kind (List.getD (GO.l g) (Int.toNat (List.getD (ordO (GO.l g_2) (GO.node g_2) (GO.kernel g_2)) ((0 : Nat) +
  Int.toNat ((↑g_3 : Int) - (1 : Int))) (0 : Int))) dZ) == Z.kind (List.getD (GO.l g) (Int.toNat (List.getD (ordO (GO.l g_2) (GO.node g_2) (GO.kernel g_2)) ((0 : Nat) + Int.toNat
  (↑g_3 : Int)) (0 : Int))) dZ)) = false → inK IntKind.i64 ((↑g_3 : Int) + (1 : Int)) ∧ ∃ (g' : Nat), g' ≤ List.length (ordO (GO.l g) (GO.node g) (GO.kernel g)) ∧ List.length (ordO
  (GO.l g) (GO.node g) (GO.kernel g)) - g' < List.length (ordO (GO.l g) (GO.node g) (GO.kernel g)) - g_3 ∧ (↑g_3 : Int) + (1 : Int) = (↑g' : Int) ∧ True ∧ LB.arr Int (0 : Int) encI
  (ordO (GO.l g_2) (GO.node g_2) (GO.kernel g_2)) = LB.arr Int (0 : Int) encI (ordO (GO.l g_2) (GO.node g_2) (GO.kernel g_2)) ∧ True))) ∧ ((Z.node (List.getD (GO.l g) (Int.toNat
  (List.getD (ordO (GO.l g_2) (GO.node g_2) (GO.kernel g_2)) ((0 : Nat) + Int.toNat ((↑g_3 : Int) - (1 : Int))) (0 : Int))) dZ) == Z.node (List.getD (GO.l g) (Int.toNat (List.getD
  (ordO (GO.l g_2) (GO.node g_2) (GO.kernel g_2)) ((0 : Nat) + Int.toNat (↑g_3 : Int)) (0 : Int))) dZ)) = false → inK IntKind.i64 ((↑g_3 : Int) + (1 : Int)) ∧ ∃ (g' : Nat), g' ≤
  List.length (ordO (GO.l g) (GO.node g) (GO.kernel g)) ∧ List.length (ordO (GO.l g) (GO.node g) (GO.kernel g)) - g' < List.length (ordO (GO.l g) (GO.node g) (GO.kernel g)) - g_3 ∧
  (↑g_3 : Int) + (1 : Int) = (↑g' : Int) ∧ True ∧ LB.arr Int (0 : Int) encI (ordO (GO.l g_2) (GO.node g_2) (GO.kernel g_2)) = LB.arr Int (0 : Int) encI (ordO (GO.l g_2) (GO.node g_2)
  (GO.kernel g_2)) ∧ True))) ∧ ((farI (Prod.fst g_4) (Prod.snd g_4) == farI (Prod.fst g_5) (Prod.snd g_5)) = false → ((Z.node (List.getD (GO.l g) (Int.toNat (List.getD (ordO (GO.l
  g_2) (GO.node g_2) (GO.kernel g_2)) ((0 : Nat) + Int.toNat ((↑g_3 : Int) - (1 : Int))) (0 : Int))) dZ) == Z.node (List.getD (GO.l g) (Int.toNat (List.getD (ordO (GO.l g_2) (GO.node
  g_2) (GO.kernel g_2)) ((0 : Nat) + Int.toNat (↑g_3 : Int)) (0 : Int))) dZ)) = true → (decide (Z.kind (List.getD (GO.l g) (Int.toNat (List.getD (ordO (GO.l g_2) (GO.node g_2)
  (GO.kernel g_2)) ((0 : Nat) + Int.toNat ((↑g_3 : Int) - (1 : Int))) (0 : Int))) dZ) < Z.kind (List.getD (GO.l g) (Int.toNat (List.getD (ordO (GO.l g_2) (GO.node g_2) (GO.kernel
  g_2)) ((0 : Nat) + Int.toNat (↑g_3 : Int)) (0 : Int))) dZ)) = true → ∃ (b : Unit), True ∧ true = false ∧ (0 : Nat) = (0 : Nat) ∧ True) ∧ (decide (Z.kind (List.getD (GO.l g)
  (Int.toNat (List.getD (ordO (GO.l g_2) (GO.node g_2) (GO.kernel g_2)) ((0 : Nat) + Int.toNat ((↑g_3 : Int) - (1 : Int))) (0 : Int))) dZ) < Z.kind (List.getD (GO.l g) (Int.toNat
  (List.getD (ordO (GO.l g_2) (GO.node g_2) (GO.kernel g_2)) ((0 : Nat) + Int.toNat (↑g_3 : Int)) (0 : Int))) dZ)) = false → ((Z.kind (List.getD (GO.l g) (Int.toNat (List.getD (ordO
  (GO.l g_2) (GO.node g_2) (GO.kernel g_2)) ((0 : Nat) + Int.toNat ((↑g_3 : Int) - (1 : Int))) (0 : Int))) dZ) == Z.kind (List.getD (GO.l g) (Int.toNat (List.getD (ordO (GO.l g_2)
  (GO.node g_2) (GO.kernel g_2)) ((0 : Nat) + Int.toNat (↑g_3 : Int)) (0 : Int))) dZ)) = true → inK IntKind.i64 ((↑g_3 : Int) - (1 : Int)) ∧ ((0 : Int) ≤ (↑g_3 : Int) - (1 : Int) ∧
  (↑g_3 : Int) - (1 : Int) < (↑(List.length (ordO (GO.l g_2) (GO.node g_2) (GO.kernel g_2))) : Int)) ∧ (0 : Nat) + Int.toNat ((↑g_3 : Int) - (1 : Int)) < List.length (ordO (GO.l g_2)
  (GO.node g_2) (GO.kernel g_2)) ∧ ((0 : Int) ≤ (↑g_3 : Int) ∧ (↑g_3 : Int) < (↑(List.length (ordO (GO.l g_2) (GO.node g_2) (GO.kernel g_2))) : Int)) ∧ (0 : Nat) + Int.toNat (↑g_3 :
  Int) < List.length (ordO (GO.l g_2) (GO.node g_2) (GO.kernel g_2)) ∧ (decide (List.getD (ordO (GO.l g_2) (GO.node g_2) (GO.kernel g_2)) ((0 : Nat) + Int.toNat ((↑g_3 : Int) - (1 :
  Int))) (0 : Int) ≥ List.getD (ordO (GO.l g_2) (GO.node g_2) (GO.kernel g_2)) ((0 : Nat) + Int.toNat (↑g_3 : Int)) (0 : Int)) = true → ∃ (b : Unit), True ∧ true = false ∧ (0 : Nat)
  = (0 : Nat) ∧ True) ∧ (decide (List.getD (ordO (GO.l g_2) (GO.node g_2) (GO.kernel g_2)) ((0 : Nat) + Int.toNat ((↑g_3 : Int) - (1 : Int))) (0 : Int) ≥ List.getD (ordO (GO.l g_2)
  (GO.node g_2) (GO.kernel g_2)) ((0 : Nat) + Int.toNat (↑g_3 : Int)) (0 : Int)) = false → inK IntKind.i64 ((↑g_3 : Int) + (1 : Int)) ∧ ∃ (g' : Nat), g' ≤ List.length (ordO (GO.l g)
  (GO.node g) (GO.kernel g)) ∧ List.length (ordO (GO.l g) (GO.node g) (GO.kernel g)) - g' < List.length (ordO (GO.l g) (GO.node g) (GO.kernel g)) - g_3 ∧ (↑g_3 : Int) + (1 : Int) =
  (↑g' : Int) ∧ True ∧ LB.arr Int (0 : Int) encI (ordO (GO.l g_2) (GO.node g_2) (GO.kernel g_2)) = LB.arr Int (0 : Int) encI (ordO (GO.l g_2) (GO.node g_2) (GO.kernel g_2)) ∧ True))
  ∧ ((Z.kind (List.getD (GO.l g) (Int.toNat (List.getD (ordO (GO.l g_2) (GO.node g_2) (GO.kernel g_2)) ((0 : Nat) + Int.toNat ((↑g_3 : Int) - (1 : Int))) (0 : Int))) dZ) == Z.kind
  (List.getD (GO.l g) (Int.toNat (List.getD (ordO (GO.l g_2) (GO.node g_2) (GO.kernel g_2)) ((0 : Nat) + Int.toNat (↑g_3 : Int)) (0 : Int))) dZ)) = false → inK IntKind.i64 ((↑g_3 :
  Int) + (1 : Int)) ∧ ∃ (g' : Nat), g' ≤ List.length (ordO (GO.l g) (GO.node g) (GO.kernel g)) ∧ List.length (ordO (GO.l g) (GO.node g) (GO.kernel g)) - g' < List.length (ordO (GO.l
  g) (GO.node g) (GO.kernel g)) - g_3 ∧ (↑g_3 : Int) + (1 : Int) = (↑g' : Int) ∧ True ∧ LB.arr Int (0 : Int) encI (ordO (GO.l g_2) (GO.node g_2) (GO.kernel g_2)) = LB.arr Int (0 :
  Int) encI (ordO (GO.l g_2) (GO.node g_2) (GO.kernel g_2)) ∧ True))) ∧ ((Z.node (List.getD (GO.l g) (Int.toNat (List.getD (ordO (GO.l g_2) (GO.node g_2) (GO.kernel g_2)) ((0 : Nat)
  + Int.toNat ((↑g_3 : Int) - (1 : Int))) (0 : Int))) dZ) == Z.node (List.getD (GO.l g) (Int.toNat (List.getD (ordO (GO.l g_2) (GO.node g_2) (GO.kernel g_2)) ((0 : Nat) + Int.toNat
  (↑g_3 : Int)) (0 : Int))) dZ)) = false → inK IntKind.i64 ((↑g_3 : Int) + (1 : Int)) ∧ ∃ (g' : Nat), g' ≤ List.length (ordO (GO.l g) (GO.node g) (GO.kernel g)) ∧ List.length (ordO
  (GO.l g) (GO.node g) (GO.kernel g)) - g' < List.length (ordO (GO.l g) (GO.node g) (GO.kernel g)) - g_3 ∧ (↑g_3 : Int) + (1 : Int) = (↑g' : Int) ∧ True ∧ LB.arr Int (0 : Int) encI
  (ordO (GO.l g_2) (GO.node g_2) (GO.kernel g_2)) = LB.arr Int (0 : Int) encI (ordO (GO.l g_2) (GO.node g_2) (GO.kernel g_2)) ∧ True)))) ∧ ∃ (g_4 : Int × Int), (SV.val (Value.int
  IntKind.i64 (Z.node (List.getD (GO.l g) (Int.toNat (List.getD (ordO (GO.l g_2) (GO.node g_2) (GO.kernel g_2)) ((0 : Nat) + Int.toNat ((↑g_3 : Int) - (1 : Int))) (0 : Int))) dZ))) =
  SV.val (Value.int IntKind.i64 (Prod.fst g_4)) ∧ SV.val (Value.int IntKind.i64 (GO.node g)) = SV.val (Value.int IntKind.i64 (Prod.snd g_4))) ∧ True ∧ (small (Prod.fst g_4) ∧ small
  (Prod.snd g_4)) ∧ ∀ (b : Unit), True → ∃ (g_5 : Int × Int), (SV.val (Value.int IntKind.i64 (Z.node (List.getD (GO.l g) (Int.toNat (List.getD (ordO (GO.l g_2) (GO.node g_2)
  (GO.kernel g_2)) ((0 : Nat) + Int.toNat (↑g_3 : Int)) (0 : Int))) dZ))) = SV.val (Value.int IntKind.i64 (Prod.fst g_5)) ∧ SV.val (Value.int IntKind.i64 (GO.node g)) = SV.val
  (Value.int IntKind.i64 (Prod.snd g_5))) ∧ True ∧ (small (Prod.fst g_5) ∧ small (Prod.snd g_5)) ∧ ∀ (b : Unit), True → (decide (farI (Prod.fst g_4) (Prod.snd g_4) > farI (Prod.fst
  g_5) (Prod.snd g_5)) = true → ∃ (b : Unit), True ∧ true = false ∧ (0 : Nat) = (0 : Nat) ∧ True) ∧ (decide (farI (Prod.fst g_4) (Prod.snd g_4) > farI (Prod.fst g_5) (Prod.snd g_5))
  = false → ((farI (Prod.fst g_4) (Prod.snd g_4) == farI (Prod.fst g_5) (Prod.snd g_5)) = true → (decide (Z.node (List.getD (GO.l g) (Int.toNat (List.getD (ordO (GO.l g_2) (GO.node
  g_2) (GO.kernel g_2)) ((0 : Nat) + Int.toNat ((↑g_3 : Int) - (1 : Int))) (0 : Int))) dZ) > Z.node (List.getD (GO.l g) (Int.toNat (List.getD (ordO (GO.l g_2) (GO.node g_2)
  (GO.kernel g_2)) ((0 : Nat) + Int.toNat (↑g_3 : Int)) (0 : Int))) dZ)) = true → ∃ (b : Unit), True ∧ true = false ∧ (0 : Nat) = (0 : Nat) ∧ True) ∧ (decide (Z.node (List.getD (GO.l
  g) (Int.toNat (List.getD (ordO (GO.l g_2) (GO.node g_2) (GO.kernel g_2)) ((0 : Nat) + Int.toNat ((↑g_3 : Int) - (1 : Int))) (0 : Int))) dZ) > Z.node (List.getD (GO.l g) (Int.toNat
  (List.getD (ordO (GO.l g_2) (GO.node g_2) (GO.kernel g_2)) ((0 : Nat) + Int.toNat (↑g_3 : Int)) (0 : Int))) dZ)) = false → ((Z.node (List.getD (GO.l g) (Int.toNat (List.getD (ordO
  (GO.l g_2) (GO.node g_2) (GO.kernel g_2)) ((0 : Nat) + Int.toNat ((↑g_3 : Int) - (1 : Int))) (0 : Int))) dZ) == Z.node (List.getD (GO.l g) (Int.toNat (List.getD (ordO (GO.l g_2)
  (GO.node g_2) (GO.kernel g_2)) ((0 : Nat) + Int.toNat (↑g_3 : Int)) (0 : Int))) dZ)) = true → (decide (Z.kind (List.getD (GO.l g) (Int.toNat (List.getD (ordO (GO.l g_2) (GO.node
  g_2) (GO.kernel g_2)) ((0 : Nat) + Int.toNat ((↑g_3 : Int) - (1 : Int))) (0 : Int))) dZ) < Z.kind (List.getD (GO.l g) (Int.toNat (List.getD (ordO (GO.l g_2) (GO.node g_2)
  (GO.kernel g_2)) ((0 : Nat) + Int.toNat (↑g_3 : Int)) (0 : Int))) dZ)) = true → ∃ (b : Unit), True ∧ true = false ∧ (0 : Nat) = (0 : Nat) ∧ True) ∧ (decide (Z.kind (List.getD (GO.l
  g) (Int.toNat (List.getD (ordO (GO.l g_2) (GO.node g_2) (GO.kernel g_2)) ((0 : Nat) + Int.toNat ((↑g_3 : Int) - (1 : Int))) (0 : Int))) dZ) < Z.kind (List.getD (GO.l g) (Int.toNat
  (List.getD (ordO (GO.l g_2) (GO.node g_2) (GO.kernel g_2)) ((0 : Nat) + Int.toNat (↑g_3 : Int)) (0 : Int))) dZ)) = false → ((Z.kind (List.getD (GO.l g) (Int.toNat (List.getD (ordO
  (GO.l g_2) (GO.node g_2) (GO.kernel g_2)) ((0 : Nat) + Int.toNat ((↑g_3 : Int) - (1 : Int))) (0 : Int))) dZ) == Z.kind (List.getD (GO.l g) (Int.toNat (List.getD (ordO (GO.l g_2)
  (GO.node g_2) (GO.kernel g_2)) ((0 : Nat) + Int.toNat (↑g_3 : Int)) (0 : Int))) dZ)) = true → inK IntKind.i64 ((↑g_3 : Int) - (1 : Int)) ∧ ((0 : Int) ≤ (↑g_3 : Int) - (1 : Int) ∧
  (↑g_3 : Int) - (1 : Int) < (↑(List.length (ordO (GO.l g_2) (GO.node g_2) (GO.kernel g_2))) : Int)) ∧ (0 : Nat) + Int.toNat ((↑g_3 : Int) - (1 : Int)) < List.length (ordO (GO.l g_2)
  (GO.node g_2) (GO.kernel g_2)) ∧ ((0 : Int) ≤ (↑g_3 : Int) ∧ (↑g_3 : Int) < (↑(List.length (ordO (GO.l g_2) (GO.node g_2) (GO.kernel g_2))) : Int)) ∧ (0 : Nat) + Int.toNat (↑g_3 :
  Int) < List.length (ordO (GO.l g_2) (GO.node g_2) (GO.kernel g_2)) ∧ (decide (List.getD (ordO (GO.l g_2) (GO.node g_2) (GO.kernel g_2)) ((0 : Nat) + Int.toNat ((↑g_3 : Int) - (1 :
  Int))) (0 : Int) ≥ List.getD (ordO (GO.l g_2) (GO.node g_2) (GO.kernel g_2)) ((0 : Nat) + Int.toNat (↑g_3 : Int)) (0 : Int)) = true → ∃ (b : Unit), True ∧ true = false ∧ (0 : Nat)
  = (0 : Nat) ∧ True) ∧ (decide (List.getD (ordO (GO.l g_2) (GO.node g_2) (GO.kernel g_2)) ((0 : Nat) + Int.toNat ((↑g_3 : Int) - (1 : Int))) (0 : Int) ≥ List.getD (ordO (GO.l g_2)
  (GO.node g_2) (GO.kernel g_2)) ((0 : Nat) + Int.toNat (↑g_3 : Int)) (0 : Int)) = false → inK IntKind.i64 ((↑g_3 : Int) + (1 : Int)) ∧ ∃ (g' : Nat), g' ≤ List.length (ordO (GO.l g)
  (GO.node g) (GO.kernel g)) ∧ List.length (ordO (GO.l g) (GO.node g) (GO.kernel g)) - g' < List.length (ordO (GO.l g) (GO.node g) (GO.kernel g)) - g_3 ∧ (↑g_3 : Int) + (1 : Int) =
  (↑g' : Int) ∧ True ∧ LB.arr Int (0 : Int) encI (ordO (GO.l g_2) (GO.node g_2) (GO.kernel g_2)) = LB.arr Int (0 : Int) encI (ordO (GO.l g_2) (GO.node g_2) (GO.kernel g_2)) ∧ True))
  ∧ ((Z.kind (List.getD (GO.l g) (Int.toNat (List.getD (ordO (GO.l g_2) (GO.node g_2) (GO.kernel g_2)) ((0 : Nat) + Int.toNat ((↑g_3 : Int) - (1 : Int))) (0 : Int))) dZ) == Z.kind
  (List.getD (GO.l g) (Int.toNat (List.getD (ordO (GO.l g_2) (GO.node g_2) (GO.kernel g_2)) ((0 : Nat) + Int.toNat (↑g_3 : Int)) (0 : Int))) dZ)) = false → inK IntKind.i64 ((↑g_3 :
  Int) + (1 : Int)) ∧ ∃ (g' : Nat), g' ≤ List.length (ordO (GO.l g) (GO.node g) (GO.kernel g)) ∧ List.length (ordO (GO.l g) (GO.node g) (GO.kernel g)) - g' < List.length (ordO (GO.l
  g) (GO.node g) (GO.kernel g)) - g_3 ∧ (↑g_3 : Int) + (1 : Int) = (↑g' : Int) ∧ True ∧ LB.arr Int (0 : Int) encI (ordO (GO.l g_2) (GO.node g_2) (GO.kernel g_2)) = LB.arr Int (0 :
  Int) encI (ordO (GO.l g_2) (GO.node g_2) (GO.kernel g_2)) ∧ True))) ∧ ((Z.node (List.getD (GO.l g) (Int.toNat (List.getD (ordO (GO.l g_2) (GO.node g_2) (GO.kernel g_2)) ((0 : Nat)
  + Int.toNat ((↑g_3 : Int) - (1 : Int))) (0 : Int))) dZ) == Z.node (List.getD (GO.l g) (Int.toNat (List.getD (ordO (GO.l g_2) (GO.node g_2) (GO.kernel g_2)) ((0 : Nat) + Int.toNat
  (↑g_3 : Int)) (0 : Int))) dZ)) = false → inK IntKind.i64 ((↑g_3 : Int) + (1 : Int)) ∧ ∃ (g' : Nat), g' ≤ List.length (ordO (GO.l g) (GO.node g) (GO.kernel g)) ∧ List.length (ordO
  (GO.l g) (GO.node g) (GO.kernel g)) - g' < List.length (ordO (GO.l g) (GO.node g) (GO.kernel g)) - g_3 ∧ (↑g_3 : Int) + (1 : Int) = (↑g' : Int) ∧ True ∧ LB.arr Int (0 : Int) encI
  (ordO (GO.l g_2) (GO.node g_2) (GO.kernel g_2)) = LB.arr Int (0 : Int) encI (ordO (GO.l g_2) (GO.node g_2) (GO.kernel g_2)) ∧ True))) ∧ ((farI (Prod.fst g_4) (Prod.snd g_4) == farI
  (Prod.fst g_5) (Prod.snd g_5)) = false → ((Z.node (List.getD (GO.l g) (Int.toNat (List.getD (ordO (GO.l g_2) (GO.node g_2) (GO.kernel g_2)) ((0 : Nat) + Int.toNat ((↑g_3 : Int) -
  (1 : Int))) (0 : Int))) dZ) == Z.node (List.getD (GO.l g) (Int.toNat (List.getD (ordO (GO.l g_2) (GO.node g_2) (GO.kernel g_2)) ((0 : Nat) + Int.toNat (↑g_3 : Int)) (0 : Int)))
  dZ)) = true → (decide (Z.kind (List.getD (GO.l g) (Int.toNat (List.getD (ordO (GO.l g_2) (GO.node g_2) (GO.kernel g_2)) ((0 : Nat) + Int.toNat ((↑g_3 : Int) - (1 : Int))) (0 :
  Int))) dZ) < Z.kind (List.getD (GO.l g) (Int.toNat (List.getD (ordO (GO.l g_2) (GO.node g_2) (GO.kernel g_2)) ((0 : Nat) + Int.toNat (↑g_3 : Int)) (0 : Int))) dZ)) = true → ∃ (b :
  Unit), True ∧ true = false ∧ (0 : Nat) = (0 : Nat) ∧ True) ∧ (decide (Z.kind (List.getD (GO.l g) (Int.toNat (List.getD (ordO (GO.l g_2) (GO.node g_2) (GO.kernel g_2)) ((0 : Nat) +
  Int.toNat ((↑g_3 : Int) - (1 : Int))) (0 : Int))) dZ) < Z.kind (List.getD (GO.l g) (Int.toNat (List.getD (ordO (GO.l g_2) (GO.node g_2) (GO.kernel g_2)) ((0 : Nat) + Int.toNat
  (↑g_3 : Int)) (0 : Int))) dZ)) = false → ((Z.kind (List.getD (GO.l g) (Int.toNat (List.getD (ordO (GO.l g_2) (GO.node g_2) (GO.kernel g_2)) ((0 : Nat) + Int.toNat ((↑g_3 : Int) -
  (1 : Int))) (0 : Int))) dZ) == Z.kind (List.getD (GO.l g) (Int.toNat (List.getD (ordO (GO.l g_2) (GO.node g_2) (GO.kernel g_2)) ((0 : Nat) + Int.toNat (↑g_3 : Int)) (0 : Int)))
  dZ)) = true → inK IntKind.i64 ((↑g_3 : Int) - (1 : Int)) ∧ ((0 : Int) ≤ (↑g_3 : Int) - (1 : Int) ∧ (↑g_3 : Int) - (1 : Int) < (↑(List.length (ordO (GO.l g_2) (GO.node g_2)
  (GO.kernel g_2))) : Int)) ∧ (0 : Nat) + Int.toNat ((↑g_3 : Int) - (1 : Int)) < List.length (ordO (GO.l g_2) (GO.node g_2) (GO.kernel g_2)) ∧ ((0 : Int) ≤ (↑g_3 : Int) ∧ (↑g_3 :
  Int) < (↑(List.length (ordO (GO.l g_2) (GO.node g_2) (GO.kernel g_2))) : Int)) ∧ (0 : Nat) + Int.toNat (↑g_3 : Int) < List.length (ordO (GO.l g_2) (GO.node g_2) (GO.kernel g_2)) ∧
  (decide (List.getD (ordO (GO.l g_2) (GO.node g_2) (GO.kernel g_2)) ((0 : Nat) + Int.toNat ((↑g_3 : Int) - (1 : Int))) (0 : Int) ≥ List.getD (ordO (GO.l g_2) (GO.node g_2)
  (GO.kernel g_2)) ((0 : Nat) + Int.toNat (↑g_3 : Int)) (0 : Int)) = true → ∃ (b : Unit), True ∧ true = false ∧ (0 : Nat) = (0 : Nat) ∧ True) ∧ (decide (List.getD (ordO (GO.l g_2)
  (GO.node g_2) (GO.kernel g_2)) ((0 : Nat) + Int.toNat ((↑g_3 : Int) - (1 : Int))) (0 : Int) ≥ List.getD (ordO (GO.l g_2) (GO.node g_2) (GO.kernel g_2)) ((0 : Nat) + Int.toNat (↑g_3
  : Int)) (0 : Int)) = false → inK IntKind.i64 ((↑g_3 : Int) + (1 : Int)) ∧ ∃ (g' : Nat), g' ≤ List.length (ordO (GO.l g) (GO.node g) (GO.kernel g)) ∧ List.length (ordO (GO.l g)
  (GO.node g) (GO.kernel g)) - g' < List.length (ordO (GO.l g) (GO.node g) (GO.kernel g)) - g_3 ∧ (↑g_3 : Int) + (1 : Int) = (↑g' : Int) ∧ True ∧ LB.arr Int (0 : Int) encI (ordO
  (GO.l g_2) (GO.node g_2) (GO.kernel g_2)) = LB.arr Int (0 : Int) encI (ordO (GO.l g_2) (GO.node g_2) (GO.kernel g_2)) ∧ True)) ∧ ((Z.kind (List.getD (GO.l g) (Int.toNat (List.getD
  (ordO (GO.l g_2) (GO.node g_2) (GO.kernel g_2)) ((0 : Nat) + Int.toNat ((↑g_3 : Int) - (1 : Int))) (0 : Int))) dZ) == Z.kind (List.getD (GO.l g) (Int.toNat (List.getD (ordO (GO.l
  g_2) (GO.node g_2) (GO.kernel g_2)) ((0 : Nat) + Int.toNat (↑g_3 : Int)) (0 : Int))) dZ)) = false → inK IntKind.i64 ((↑g_3 : Int) + (1 : Int)) ∧ ∃ (g' : Nat), g' ≤ List.length
  (ordO (GO.l g) (GO.node g) (GO.kernel g)) ∧ List.length (ordO (GO.l g) (GO.node g) (GO.kernel g)) - g' < List.length (ordO (GO.l g) (GO.node g) (GO.kernel g)) - g_3 ∧ (↑g_3 : Int)
  + (1 : Int) = (↑g' : Int) ∧ True ∧ LB.arr Int (0 : Int) encI (ordO (GO.l g_2) (GO.node g_2) (GO.kernel g_2)) = LB.arr Int (0 : Int) encI (ordO (GO.l g_2) (GO.node g_2) (GO.kernel
  g_2)) ∧ True))) ∧ ((Z.node (List.getD (GO.l g) (Int.toNat (List.getD (ordO (GO.l g_2) (GO.node g_2) (GO.kernel g_2)) ((0 : Nat) + Int.toNat ((↑g_3 : Int) - (1 : Int))) (0 : Int)))
  dZ) == Z.node (List.getD (GO.l g) (Int.toNat (List.getD (ordO (GO.l g_2) (GO.node g_2) (GO.kernel g_2)) ((0 : Nat) + Int.toNat (↑g_3 : Int)) (0 : Int))) dZ)) = false → inK
  IntKind.i64 ((↑g_3 : Int) + (1 : Int)) ∧ ∃ (g' : Nat), g' ≤ List.length (ordO (GO.l g) (GO.node g) (GO.kernel g)) ∧ List.length (ordO (GO.l g) (GO.node g) (GO.kernel g)) - g' <
  List.length (ordO (GO.l g) (GO.node g) (GO.kernel g)) - g_3 ∧ (↑g_3 : Int) + (1 : Int) = (↑g' : Int) ∧ True ∧ LB.arr Int (0 : Int) encI (ordO (GO.l g_2) (GO.node g_2) (GO.kernel
  g_2)) = LB.arr Int (0 : Int) encI (ordO (GO.l g_2) (GO.node g_2) (GO.kernel g_2)) ∧ True))))))) ∧ (decide ((↑g_3 : Int) < (↑(List.length (ordO (GO.l g_2) (GO.node g_2) (GO.kernel
  g_2))) : Int)) = false → ∃ (g : Unit), True ∧ True ∧ True ∧ ∀ (b : Unit), True → ∃ (b : Unit), True ∧ SV.val (Value.bool true) = SV.val (Value.bool true) ∧ (0 : Nat) = (0 : Nat) ∧
  True))) := by kernel_rfl
theorem ord_next {l : List Z} {n : Int} {k : Bool} {i : Nat} (hi : i + 1 < (ordO l n k).length) : rL ⟨l, n⟩ ((ordO l n k).getD i 0) ((ordO l n k).getD (i + 1) 0) := by
  have h := List.pairwise_iff_getElem.1 (ordO_sorted (l := l) (n := n) (k := k)) i (i + 1) (by omega) hi (by omega)
  rw [List.getD_eq_getElem?_getD, List.getD_eq_getElem?_getD, List.getElem?_eq_getElem hi, List.getElem?_eq_getElem (by omega)]
  exact h
theorem near_law {l : List Z} {n a b : Int} (ha : okZn (l.getD a.toNat dZ) = true) (hb : okZn (l.getD b.toNat dZ) = true) (h : rL ⟨l, n⟩ a b) :
    ¬ farI (l.getD a.toNat dZ).node n > farI (l.getD b.toNat dZ).node n ∧ (farI (l.getD a.toNat dZ).node n = farI (l.getD b.toNat dZ).node n → ¬ (l.getD a.toNat dZ).node > (l.getD b.toNat dZ).node) ∧
    ((l.getD a.toNat dZ).node = (l.getD b.toNat dZ).node → ¬ (l.getD a.toNat dZ).kind < (l.getD b.toNat dZ).kind ∧ ((l.getD a.toNat dZ).kind = (l.getD b.toNat dZ).kind → ¬ a ≥ b)) := by
  unfold rL rankI at h
  dsimp only at h
  generalize l.getD a.toNat dZ = za at *
  generalize l.getD b.toNat dZ = zb at *
  unfold okZn at ha hb
  simp only [Bool.not_eq_true', Bool.or_eq_false_iff, decide_eq_false_iff_not] at ha hb
  unfold keyI at h
  unfold farI
  refine ⟨?_, ?_, ?_⟩
  · split at h <;> split at h <;> (repeat' split) <;> omega
  · split at h <;> split at h <;> (repeat' split) <;> omega
  · intro he
    rw [he] at h
    split at h <;> split at h <;> omega
theorem valid_all {l : List Z} {n : Int} (h : (!validZ l n) = false) {j : Nat} (hj : j < l.length) : okZn (l.getD j dZ) = true := by
  have h : validZ l n = true := by simpa using h
  unfold validZ at h
  rw [Bool.and_eq_true] at h
  exact List.all_eq_true.1 h.2 _ (getD_mem hj)
theorem vNear : cNear.body (fun g => envw [(12, cAwake), (22, cValid), (17, cROrder), (23, cFar)] (lNear 9 g)) Try.f7 := by
  rw [vNear_eq]
  intro g _
  have aw : ∃ (g : Unit), True ∧ True ∧ True ∧ ∀ (b : Unit), True → ∃ (b : Unit), True ∧ SV.val (Value.bool true) = SV.val (Value.bool true) ∧ (0 : Nat) = (0 : Nat) ∧ True := ⟨(), trivial, trivial, trivial, fun _ _ => ⟨(), trivial, rfl, rfl, trivial⟩⟩
  refine ⟨(g.l, g.node), ⟨rfl, rfl⟩, trivial, trivial, fun _ _ => ⟨fun _ => aw, fun hv => ?_⟩⟩
  have hc := valid_ok hv
  obtain ⟨h0, h1, h2, h6⟩ := checkN_zero hc
  dsimp only at h0 h1 h2 h6
  refine ⟨g, ⟨rfl, rfl, rfl⟩, trivial, by omega, fun _ _ => ⟨⟨0, Nat.zero_le _, rfl, trivial, rfl, trivial⟩, fun i hi => ⟨fun hlt => ?_, fun _ => aw⟩⟩⟩
  have hlt : (i : Int) < (ordO g.l g.node g.kernel).length := of_decide_eq_true hlt
  have hi' : i < (ordO g.l g.node g.kernel).length := by omega
  have hl := ordO_len (l := g.l) (node := g.node) (k := g.kernel)
  have hm := ordO_mem (getD_mem (d := 0) hi')
  have nx : inK IntKind.i64 ((i : Int) + 1) ∧ ∃ (g' : Nat), g' ≤ (ordO g.l g.node g.kernel).length ∧ (ordO g.l g.node g.kernel).length - g' < (ordO g.l g.node g.kernel).length - i ∧ (i : Int) + 1 = (g' : Int) ∧ True ∧ LB.arr Int 0 encI (ordO g.l g.node g.kernel) = LB.arr Int 0 encI (ordO g.l g.node g.kernel) ∧ True := ⟨inI (by omega) (by omega), i + 1, hi', by omega, by omega, trivial, rfl, trivial⟩
  rw [Int.toNat_natCast, Nat.zero_add]
  refine ⟨⟨by omega, hlt⟩, hi', fun hb => absurd (of_decide_eq_true hb) (by omega), fun _ => ⟨⟨by omega, hlt⟩, hi', fun hb => absurd (of_decide_eq_true hb) (by omega), fun _ => ⟨fun _ => nx, fun hk0 => ?_⟩⟩⟩
  have hi0 : (i : Int) ≠ 0 := by simpa using hk0
  obtain ⟨j, rfl⟩ : ∃ j, i = j + 1 := ⟨i - 1, by omega⟩
  have e : Int.toNat (((j + 1 : Nat) : Int) - 1) = j := by omega
  have hj' : j < (ordO g.l g.node g.kernel).length := by omega
  have hm2 := ordO_mem (getD_mem (d := 0) hj')
  have hr := ord_next hi'
  rw [e, Nat.zero_add]
  generalize (ordO g.l g.node g.kernel).getD (j + 1) 0 = b at *
  generalize (ordO g.l g.node g.kernel).getD j 0 = a at *
  have oa := valid_all (l := g.l) (n := g.node) hv (j := a.toNat) (by omega)
  have ob := valid_all (l := g.l) (n := g.node) hv (j := b.toNat) (by omega)
  obtain ⟨n1, n2, n3⟩ := near_law oa ob hr
  have sm : ∀ z, okZn z = true → small z.node := fun z h => by
    unfold okZn at h
    simp only [Bool.not_eq_true', Bool.or_eq_false_iff, decide_eq_false_iff_not] at h
    unfold small; omega
  have sa := sm _ oa
  have sb := sm _ ob
  have sn : small g.node := by unfold small; omega
  have jb : (0 : Int) ≤ ((j + 1 : Nat) : Int) - 1 ∧ ((j + 1 : Nat) : Int) - 1 < ((ordO g.l g.node g.kernel).length : Int) := by omega
  have ij : inK IntKind.i64 (((j + 1 : Nat) : Int) - 1) := inI (by omega) (by omega)
  have ha' : a.toNat < g.l.length := by omega
  have hb' : b.toNat < g.l.length := by omega
  generalize g.l.getD a.toNat dZ = za at *
  generalize g.l.getD b.toNat dZ = zb at *
  refine ⟨ij, jb, hj', hm2, ha', ⟨by omega, hlt⟩, hi', hm, hb', ?_⟩
  constructor <;>
  · refine ⟨(za.node, g.node), ⟨rfl, rfl⟩, trivial, ⟨sa, sn⟩, fun _ _ => ⟨(zb.node, g.node), ⟨rfl, rfl⟩, trivial, ⟨sb, sn⟩, fun _ _ => ?_⟩⟩
    dsimp only
    refine ⟨fun h => absurd (of_decide_eq_true h) n1, fun _ => ⟨fun hf => ⟨fun h => absurd (of_decide_eq_true h) (n2 (by simpa using hf)), fun _ => ⟨fun hn => ⟨fun h => absurd (of_decide_eq_true h) (n3 (by simpa using hn)).1, fun _ => ⟨fun hk => ⟨ij, jb, hj', ⟨by omega, hlt⟩, hi', fun h => absurd (of_decide_eq_true h) ((n3 (by simpa using hn)).2 (by simpa using hk)), fun _ => nx⟩, fun _ => nx⟩⟩, fun _ => nx⟩⟩, fun hf => ⟨fun hn => ⟨fun h => absurd (of_decide_eq_true h) (n3 (by simpa using hn)).1, fun _ => ⟨fun hk => ⟨ij, jb, hj', ⟨by omega, hlt⟩, hi', fun h => absurd (of_decide_eq_true h) ((n3 (by simpa using hn)).2 (by simpa using hk)), fun _ => nx⟩, fun _ => nx⟩⟩, fun _ => nx⟩⟩⟩
theorem sNear : SpecOk P 7 cNear.spec := spec_ofW cNear (tab_cons sAwake (tab_cons sValid (tab_cons sOrder (tab_cons sFar (tab_nil P))))) mixed (fn := Try.f7) (by kernel_rfl) (by kernel_rfl) (by kernel_rfl) (Nat.zero_le _) (noIns fun _ => rfl) vNear
end Go.Zn
