/- A PART OF THE PROOF. NO CONDITION. -/
import Derived.Test.YtnjgeljpkblodaaZnH
import Derived.Test.YtnjgeljpkblodaaSxAD
noncomputable section
set_option linter.unusedVariables false
set_option linter.unusedVariables false
set_option linter.unusedSimpArgs false
namespace Go.Zn
open Go.Proofs Go.SX
set_option maxRecDepth 100000

def cAwake : Con := pureCon Unit Unit (fun _ => []) (fun _ => True) (fun _ _ => True) (fun _ _ => Bo true)
def tabA : List (Nat × Con) := [(15, cRNodes), (17, cROrder), (20, cRPick), (19, cSame), (13, cCheck)]
theorem vAwake_eq : (cAwake.body (fun g => env tabA (noLoops g)) Try.f12) = (∀ (g : Unit), True → ∃ (g : List Z × Int), (([[SV.val (Value.int IntKind.i64 (0 : Int)), SV.val (Value.int IntKind.i64 (0 : Int)), SV.val (Value.int IntKind.i64 (0 : Int)), SV.val
  (Value.int IntKind.i64 (0 : Int)), SV.val (Value.int IntKind.i64 (0 : Int)), SV.one, SV.one, SV.one, SV.one, SV.one], [SV.val (Value.int IntKind.i64 (0 : Int)), SV.val (Value.int
  IntKind.i64 (1 : Int)), SV.val (Value.int IntKind.i64 (0 : Int)), SV.val (Value.int IntKind.i64 (0 : Int)), SV.val (Value.int IntKind.i64 (0 : Int)), SV.one, SV.one, SV.one,
  SV.one, SV.one], [SV.val (Value.int IntKind.i64 (2 : Int)), SV.val (Value.int IntKind.i64 (0 : Int)), SV.val (Value.int IntKind.i64 (0 : Int)), SV.val (Value.int IntKind.i64 (0 :
  Int)), SV.val (Value.int IntKind.i64 (0 : Int)), SV.one, SV.one, SV.one, SV.one, SV.one], [SV.val (Value.int IntKind.i64 (1 : Int)), SV.val (Value.int IntKind.i64 (1 : Int)),
  SV.val (Value.int IntKind.i64 (0 : Int)), SV.val (Value.int IntKind.i64 (0 : Int)), SV.val (Value.int IntKind.i64 (0 : Int)), SV.one, SV.one, SV.one, SV.one, SV.one]] = List.map
  encZ (Prod.fst g) ∧ ∀ (x : Z), (10 : Nat) = (10 : Nat) ∧ allOne (encZ x) = true) ∧ SV.val (Value.int IntKind.i64 (1 : Int)) = SV.val (Value.int IntKind.i64 (Prod.snd g))) ∧ True ∧
  List.length (Prod.fst g) ≤ (1000000000 : Nat) ∧ ∀ (b : Unit), True → ∃ (g_1 : GO), (([[SV.val (Value.int IntKind.i64 (0 : Int)), SV.val (Value.int IntKind.i64 (0 : Int)), SV.val
  (Value.int IntKind.i64 (0 : Int)), SV.val (Value.int IntKind.i64 (0 : Int)), SV.val (Value.int IntKind.i64 (0 : Int)), SV.one, SV.one, SV.one, SV.one, SV.one], [SV.val (Value.int
  IntKind.i64 (0 : Int)), SV.val (Value.int IntKind.i64 (1 : Int)), SV.val (Value.int IntKind.i64 (0 : Int)), SV.val (Value.int IntKind.i64 (0 : Int)), SV.val (Value.int IntKind.i64
  (0 : Int)), SV.one, SV.one, SV.one, SV.one, SV.one], [SV.val (Value.int IntKind.i64 (2 : Int)), SV.val (Value.int IntKind.i64 (0 : Int)), SV.val (Value.int IntKind.i64 (0 : Int)),
  SV.val (Value.int IntKind.i64 (0 : Int)), SV.val (Value.int IntKind.i64 (0 : Int)), SV.one, SV.one, SV.one, SV.one, SV.one], [SV.val (Value.int IntKind.i64 (1 : Int)), SV.val
  (Value.int IntKind.i64 (1 : Int)), SV.val (Value.int IntKind.i64 (0 : Int)), SV.val (Value.int IntKind.i64 (0 : Int)), SV.val (Value.int IntKind.i64 (0 : Int)), SV.one, SV.one,
  SV.one, SV.one, SV.one]] = List.map encZ (GO.l g_1) ∧ ∀ (x : Z), (10 : Nat) = (10 : Nat) ∧ allOne (encZ x) = true) ∧ SV.val (Value.int IntKind.i64 (1 : Int)) = SV.val (Value.int
  IntKind.i64 (GO.node g_1)) ∧ GO.kernel g_1 = false) ∧ True ∧ List.length (GO.l g_1) ≤ (1000000000 : Nat) ∧ ∀ (b : Unit), True → ∃ (g_2 : GO), (([[SV.val (Value.int IntKind.i64 (0 :
  Int)), SV.val (Value.int IntKind.i64 (0 : Int)), SV.val (Value.int IntKind.i64 (0 : Int)), SV.val (Value.int IntKind.i64 (0 : Int)), SV.val (Value.int IntKind.i64 (0 : Int)),
  SV.one, SV.one, SV.one, SV.one, SV.one], [SV.val (Value.int IntKind.i64 (0 : Int)), SV.val (Value.int IntKind.i64 (1 : Int)), SV.val (Value.int IntKind.i64 (0 : Int)), SV.val
  (Value.int IntKind.i64 (0 : Int)), SV.val (Value.int IntKind.i64 (0 : Int)), SV.one, SV.one, SV.one, SV.one, SV.one], [SV.val (Value.int IntKind.i64 (2 : Int)), SV.val (Value.int
  IntKind.i64 (0 : Int)), SV.val (Value.int IntKind.i64 (0 : Int)), SV.val (Value.int IntKind.i64 (0 : Int)), SV.val (Value.int IntKind.i64 (0 : Int)), SV.one, SV.one, SV.one,
  SV.one, SV.one], [SV.val (Value.int IntKind.i64 (1 : Int)), SV.val (Value.int IntKind.i64 (1 : Int)), SV.val (Value.int IntKind.i64 (0 : Int)), SV.val (Value.int IntKind.i64 (0 :
  Int)), SV.val (Value.int IntKind.i64 (0 : Int)), SV.one, SV.one, SV.one, SV.one, SV.one]] = List.map encZ (GO.l g_2) ∧ ∀ (x : Z), (10 : Nat) = (10 : Nat) ∧ allOne (encZ x) = true)
  ∧ SV.val (Value.int IntKind.i64 (1 : Int)) = SV.val (Value.int IntKind.i64 (GO.node g_2)) ∧ GO.kernel g_2 = true) ∧ True ∧ List.length (GO.l g_2) ≤ (1000000000 : Nat) ∧ ∀ (b :
  Unit), True → ∃ (g_3 : GP), (([[SV.val (Value.int IntKind.i64 (0 : Int)), SV.val (Value.int IntKind.i64 (0 : Int)), SV.val (Value.int IntKind.i64 (0 : Int)), SV.val (Value.int
  IntKind.i64 (0 : Int)), SV.val (Value.int IntKind.i64 (0 : Int)), SV.one, SV.one, SV.one, SV.one, SV.one], [SV.val (Value.int IntKind.i64 (0 : Int)), SV.val (Value.int IntKind.i64
  (1 : Int)), SV.val (Value.int IntKind.i64 (0 : Int)), SV.val (Value.int IntKind.i64 (0 : Int)), SV.val (Value.int IntKind.i64 (0 : Int)), SV.one, SV.one, SV.one, SV.one, SV.one],
  [SV.val (Value.int IntKind.i64 (2 : Int)), SV.val (Value.int IntKind.i64 (0 : Int)), SV.val (Value.int IntKind.i64 (0 : Int)), SV.val (Value.int IntKind.i64 (0 : Int)), SV.val
  (Value.int IntKind.i64 (0 : Int)), SV.one, SV.one, SV.one, SV.one, SV.one], [SV.val (Value.int IntKind.i64 (1 : Int)), SV.val (Value.int IntKind.i64 (1 : Int)), SV.val (Value.int
  IntKind.i64 (0 : Int)), SV.val (Value.int IntKind.i64 (0 : Int)), SV.val (Value.int IntKind.i64 (0 : Int)), SV.one, SV.one, SV.one, SV.one, SV.one]] = List.map encZ (GP.l g_3) ∧ ∀
  (x : Z), (10 : Nat) = (10 : Nat) ∧ allOne (encZ x) = true) ∧ (SV.val (Value.int IntKind.i64 (2 : Int)) = SV.val (Value.int IntKind.i64 (Po.kind (GP.p g_3))) ∧ SV.val (Value.int
  IntKind.i64 (5 : Int)) = SV.val (Value.int IntKind.i64 (Po.nodes (GP.p g_3))) ∧ SV.val (Value.int IntKind.i64 (0 : Int)) = SV.val (Value.int IntKind.i64 (Po.turn (GP.p g_3))) ∧
  True) ∧ SV.val (Value.int IntKind.i64 (1 : Int)) = SV.val (Value.int IntKind.i64 (GP.node g_3)) ∧ GP.kernel g_3 = false) ∧ True ∧ List.length (GP.l g_3) ≤ (1000000000 : Nat) ∧ ∀ (b
  : Unit), True → ∃ (g_4 : GP), (([[SV.val (Value.int IntKind.i64 (0 : Int)), SV.val (Value.int IntKind.i64 (0 : Int)), SV.val (Value.int IntKind.i64 (0 : Int)), SV.val (Value.int
  IntKind.i64 (0 : Int)), SV.val (Value.int IntKind.i64 (0 : Int)), SV.one, SV.one, SV.one, SV.one, SV.one], [SV.val (Value.int IntKind.i64 (0 : Int)), SV.val (Value.int IntKind.i64
  (1 : Int)), SV.val (Value.int IntKind.i64 (0 : Int)), SV.val (Value.int IntKind.i64 (0 : Int)), SV.val (Value.int IntKind.i64 (0 : Int)), SV.one, SV.one, SV.one, SV.one, SV.one],
  [SV.val (Value.int IntKind.i64 (2 : Int)), SV.val (Value.int IntKind.i64 (0 : Int)), SV.val (Value.int IntKind.i64 (0 : Int)), SV.val (Value.int IntKind.i64 (0 : Int)), SV.val
  (Value.int IntKind.i64 (0 : Int)), SV.one, SV.one, SV.one, SV.one, SV.one], [SV.val (Value.int IntKind.i64 (1 : Int)), SV.val (Value.int IntKind.i64 (1 : Int)), SV.val (Value.int
  IntKind.i64 (0 : Int)), SV.val (Value.int IntKind.i64 (0 : Int)), SV.val (Value.int IntKind.i64 (0 : Int)), SV.one, SV.one, SV.one, SV.one, SV.one]] = List.map encZ (GP.l g_4) ∧ ∀
  (x : Z), (10 : Nat) = (10 : Nat) ∧ allOne (encZ x) = true) ∧ (SV.val (Value.int IntKind.i64 (3 : Int)) = SV.val (Value.int IntKind.i64 (Po.kind (GP.p g_4))) ∧ SV.val (Value.int
  IntKind.i64 (6 : Int)) = SV.val (Value.int IntKind.i64 (Po.nodes (GP.p g_4))) ∧ SV.val (Value.int IntKind.i64 (3 : Int)) = SV.val (Value.int IntKind.i64 (Po.turn (GP.p g_4))) ∧
  True) ∧ SV.val (Value.int IntKind.i64 (0 : Int)) = SV.val (Value.int IntKind.i64 (GP.node g_4)) ∧ GP.kernel g_4 = false) ∧ True ∧ List.length (GP.l g_4) ≤ (1000000000 : Nat) ∧ ∀ (b
  : Unit), True → ((checkN (Prod.fst g) (Prod.snd g) == (0 : Int)) = true → ((checkN (GO.l g_1) (GO.node g_1) == (0 : Int)) = true → ((checkN (GO.l g_2) (GO.node g_2) == (0 : Int)) =
  true → ((pickE (GP.l g_3) (GP.p g_3) (GP.node g_3) == (0 : Int)) = true → ((pickE (GP.l g_4) (GP.p g_4) (GP.node g_4) == (0 : Int)) = true → ∃ (g_5 : List Int × List Int), (((0 :
  Nat) + List.length (nodesO (Prod.fst g) (Prod.snd g)) ≤ List.length (nodesO (Prod.fst g) (Prod.snd g)) ∧ SV.ro Int (0 : Int) encI (List.take (List.length (nodesO (Prod.fst g)
  (Prod.snd g))) (List.drop (0 : Nat) (nodesO (Prod.fst g) (Prod.snd g)))) = SV.ro Int (0 : Int) encI (Prod.fst g_5)) ∧ [[SV.val (Value.int IntKind.i64 (1 : Int))], [SV.val
  (Value.int IntKind.i64 (0 : Int))], [SV.val (Value.int IntKind.i64 (2 : Int))]] = List.map encI (Prod.snd g_5) ∧ ∀ (x : Int), (1 : Nat) = (1 : Nat) ∧ allOne (encI x) = true) ∧ True
  ∧ List.length (Prod.fst g_5) ≤ (1000000000 : Nat) ∧ ∀ (b : Unit), True → (sameL (Prod.fst g_5) (Prod.snd g_5) = true → ∃ (g : List Int × List Int), (((0 : Nat) + List.length (ordO
  (GO.l g_1) (GO.node g_1) (GO.kernel g_1)) ≤ List.length (ordO (GO.l g_1) (GO.node g_1) (GO.kernel g_1)) ∧ SV.ro Int (0 : Int) encI (List.take (List.length (ordO (GO.l g_1) (GO.node
  g_1) (GO.kernel g_1))) (List.drop (0 : Nat) (ordO (GO.l g_1) (GO.node g_1) (GO.kernel g_1)))) = SV.ro Int (0 : Int) encI (Prod.fst g)) ∧ [[SV.val (Value.int IntKind.i64 (3 :
  Int))], [SV.val (Value.int IntKind.i64 (1 : Int))], [SV.val (Value.int IntKind.i64 (0 : Int))], [SV.val (Value.int IntKind.i64 (2 : Int))]] = List.map encI (Prod.snd g) ∧ ∀ (x :
  Int), (1 : Nat) = (1 : Nat) ∧ allOne (encI x) = true) ∧ True ∧ List.length (Prod.fst g) ≤ (1000000000 : Nat) ∧ ∀ (b : Unit), True → (sameL (Prod.fst g) (Prod.snd g) = true → ∃ (g :
  List Int × List Int), (((0 : Nat) + List.length (ordO (GO.l g_2) (GO.node g_2) (GO.kernel g_2)) ≤ List.length (ordO (GO.l g_2) (GO.node g_2) (GO.kernel g_2)) ∧ SV.ro Int (0 : Int)
  encI (List.take (List.length (ordO (GO.l g_2) (GO.node g_2) (GO.kernel g_2))) (List.drop (0 : Nat) (ordO (GO.l g_2) (GO.node g_2) (GO.kernel g_2)))) = SV.ro Int (0 : Int) encI
  (Prod.fst g)) ∧ [[SV.val (Value.int IntKind.i64 (0 : Int))], [SV.val (Value.int IntKind.i64 (2 : Int))]] = List.map encI (Prod.snd g) ∧ ∀ (x : Int), (1 : Nat) = (1 : Nat) ∧ allOne
  (encI x) = true) ∧ True ∧ List.length (Prod.fst g) ≤ (1000000000 : Nat) ∧ ∀ (b : Unit), True → (sameL (Prod.fst g) (Prod.snd g) = true → ∃ (g : List Int × List Int), (((0 : Nat) +
  List.length (pickO g_3) ≤ List.length (pickO g_3) ∧ SV.ro Int (0 : Int) encI (List.take (List.length (pickO g_3)) (List.drop (0 : Nat) (pickO g_3))) = SV.ro Int (0 : Int) encI
  (Prod.fst g)) ∧ [[SV.val (Value.int IntKind.i64 (1 : Int))], [SV.val (Value.int IntKind.i64 (0 : Int))], [SV.val (Value.int IntKind.i64 (2 : Int))]] = List.map encI (Prod.snd g) ∧
  ∀ (x : Int), (1 : Nat) = (1 : Nat) ∧ allOne (encI x) = true) ∧ True ∧ List.length (Prod.fst g) ≤ (1000000000 : Nat) ∧ ∀ (b : Unit), True → (sameL (Prod.fst g) (Prod.snd g) = true →
  ∃ (g : List Int × List Int), (((0 : Nat) + List.length (pickO g_4) ≤ List.length (pickO g_4) ∧ SV.ro Int (0 : Int) encI (List.take (List.length (pickO g_4)) (List.drop (0 : Nat)
  (pickO g_4))) = SV.ro Int (0 : Int) encI (Prod.fst g)) ∧ [[SV.val (Value.int IntKind.i64 (2 : Int))], [SV.val (Value.int IntKind.i64 (3 : Int))], [SV.val (Value.int IntKind.i64 (1
  : Int))], [SV.val (Value.int IntKind.i64 (0 : Int))]] = List.map encI (Prod.snd g) ∧ ∀ (x : Int), (1 : Nat) = (1 : Nat) ∧ allOne (encI x) = true) ∧ True ∧ List.length (Prod.fst g)
  ≤ (1000000000 : Nat) ∧ ∀ (b : Unit), True → (sameL (Prod.fst g) (Prod.snd g) = true → ∃ (g : List Z), ([[SV.val (Value.int IntKind.i64 (4 : Int)), SV.val (Value.int IntKind.i64 (0
  : Int)), SV.val (Value.int IntKind.i64 (0 : Int)), SV.val (Value.int IntKind.i64 (0 : Int)), SV.val (Value.int IntKind.i64 (0 : Int)), SV.one, SV.one, SV.one, SV.one, SV.one]] =
  List.map encZ g ∧ ∀ (x : Z), (10 : Nat) = (10 : Nat) ∧ allOne (encZ x) = true) ∧ True ∧ List.length g ≤ (1000000000 : Nat) ∧ ∀ (b : Unit), True → ∃ (b : Unit), True ∧ SV.val
  (Value.bool (chk g == (2 : Int))) = SV.val (Value.bool true) ∧ (0 : Nat) = (0 : Nat) ∧ True) ∧ (sameL (Prod.fst g) (Prod.snd g) = false → ∃ (b : Unit), True ∧ true = false ∧ (0 :
  Nat) = (0 : Nat) ∧ True)) ∧ (sameL (Prod.fst g) (Prod.snd g) = false → ∃ (b : Unit), True ∧ true = false ∧ (0 : Nat) = (0 : Nat) ∧ True)) ∧ (sameL (Prod.fst g) (Prod.snd g) = false
  → ∃ (b : Unit), True ∧ true = false ∧ (0 : Nat) = (0 : Nat) ∧ True)) ∧ (sameL (Prod.fst g) (Prod.snd g) = false → ∃ (b : Unit), True ∧ true = false ∧ (0 : Nat) = (0 : Nat) ∧ True))
  ∧ (sameL (Prod.fst g_5) (Prod.snd g_5) = false → ∃ (b : Unit), True ∧ true = false ∧ (0 : Nat) = (0 : Nat) ∧ True)) ∧ ((pickE (GP.l g_4) (GP.p g_4) (GP.node g_4) == (0 : Int)) =
  false → ∃ (b : Unit), True ∧ true = false ∧ (0 : Nat) = (0 : Nat) ∧ True)) ∧ ((pickE (GP.l g_3) (GP.p g_3) (GP.node g_3) == (0 : Int)) = false → ∃ (b : Unit), True ∧ true = false ∧
  (0 : Nat) = (0 : Nat) ∧ True)) ∧ ((checkN (GO.l g_2) (GO.node g_2) == (0 : Int)) = false → ∃ (b : Unit), True ∧ true = false ∧ (0 : Nat) = (0 : Nat) ∧ True)) ∧ ((checkN (GO.l g_1)
  (GO.node g_1) == (0 : Int)) = false → ∃ (b : Unit), True ∧ true = false ∧ (0 : Nat) = (0 : Nat) ∧ True)) ∧ ((checkN (Prod.fst g) (Prod.snd g) == (0 : Int)) = false → ∃ (b : Unit),
  True ∧ true = false ∧ (0 : Nat) = (0 : Nat) ∧ True)) := by kernel_rfl

theorem okZZ' : ∀ x : Z, 10 = 10 ∧ allOne (encZ x) = true := fun _ => ⟨rfl, rfl⟩
theorem roT (L : List Int) : SV.ro Int 0 encI (List.take L.length (List.drop 0 L)) = SV.ro Int 0 encI L := by rw [List.drop_zero, List.take_length]
def zs : List Z := [⟨0, 0, 0, 0, 0⟩, ⟨0, 1, 0, 0, 0⟩, ⟨2, 0, 0, 0, 0⟩, ⟨1, 1, 0, 0, 0⟩]
theorem vAwake : cAwake.body (fun g => env tabA (noLoops g)) Try.f12 := by
  rw [vAwake_eq]
  intro _ _
  refine ⟨(zs, 1), ⟨⟨rfl, okZZ'⟩, rfl⟩, trivial, by decide, fun _ _ => ⟨⟨zs, 1, false⟩, ⟨⟨rfl, okZZ'⟩, rfl, rfl⟩, trivial, by decide, fun _ _ => ⟨⟨zs, 1, true⟩, ⟨⟨rfl, okZZ'⟩, rfl, rfl⟩, trivial, by decide, fun _ _ => ⟨⟨zs, ⟨2, 5, 0⟩, 1, false⟩, ⟨⟨rfl, okZZ'⟩, ⟨rfl, rfl, rfl, trivial⟩, rfl, rfl⟩, trivial, by decide, fun _ _ => ⟨⟨zs, ⟨3, 6, 3⟩, 0, false⟩, ⟨⟨rfl, okZZ'⟩, ⟨rfl, rfl, rfl, trivial⟩, rfl, rfl⟩, trivial, by decide, fun _ _ => ?_⟩⟩⟩⟩⟩
  refine ⟨fun _ => ⟨fun _ => ⟨fun _ => ⟨fun _ => ⟨fun _ => ?_, fun h => absurd h (by decide +kernel)⟩, fun h => absurd h (by decide +kernel)⟩, fun h => absurd h (by decide +kernel)⟩, fun h => absurd h (by decide +kernel)⟩, fun h => absurd h (by decide +kernel)⟩
  exact ⟨(nodesO zs 1, [1, 0, 2]), ⟨⟨Nat.le_of_eq (Nat.zero_add _), roT _⟩, rfl, okI'⟩, trivial, by decide +kernel, fun _ _ => ⟨fun _ => ⟨(ordO zs 1 false, [3, 1, 0, 2]), ⟨⟨Nat.le_of_eq (Nat.zero_add _), roT _⟩, rfl, okI'⟩, trivial, by decide +kernel, fun _ _ => ⟨fun _ => ⟨(ordO zs 1 true, [0, 2]), ⟨⟨Nat.le_of_eq (Nat.zero_add _), roT _⟩, rfl, okI'⟩, trivial, by decide +kernel, fun _ _ => ⟨fun _ => ⟨(pickO ⟨zs, ⟨2, 5, 0⟩, 1, false⟩, [1, 0, 2]), ⟨⟨Nat.le_of_eq (Nat.zero_add _), roT _⟩, rfl, okI'⟩, trivial, by decide +kernel, fun _ _ => ⟨fun _ => ⟨(pickO ⟨zs, ⟨3, 6, 3⟩, 0, false⟩, [2, 3, 1, 0]), ⟨⟨Nat.le_of_eq (Nat.zero_add _), roT _⟩, rfl, okI'⟩, trivial, by decide +kernel, fun _ _ => ⟨fun _ => ⟨[⟨4, 0, 0, 0, 0⟩], ⟨rfl, okZZ'⟩, trivial, by decide, fun _ _ => ⟨(), trivial, congrArg (fun b => SV.val (.bool b)) (by decide +kernel : (chk [⟨4, 0, 0, 0, 0⟩] == 2) = true), rfl, trivial⟩⟩, fun h => absurd h (by decide +kernel)⟩⟩, fun h => absurd h (by decide +kernel)⟩⟩, fun h => absurd h (by decide +kernel)⟩⟩, fun h => absurd h (by decide +kernel)⟩⟩, fun h => absurd h (by decide +kernel)⟩⟩
theorem tabA_ok : TabOk P tabA := tab_cons sNodes (tab_cons sOrder (tab_cons sPick (tab_cons sSame (tab_cons sCheck (tab_nil P)))))
theorem sAwake : SpecOk P 12 cAwake.spec := spec_of cAwake tabA_ok mixed (fn := Try.f12) (by kernel_rfl) (by kernel_rfl) (by kernel_rfl) (Nat.zero_le _) (noIns fun _ => rfl) vAwake
/-! the first three laws -/
def cChecks : Con := pureCon (List Z) Unit (fun l => [roZ l]) (fun _ => True) (fun _ _ => True) (fun _ _ => Bo true)
theorem vChecks_eq : (cChecks.body (fun g => env [(11, cFew), (12, cAwake), (13, cCheck), (14, cCheck)] (noLoops g)) Try.f3) = (∀ (g : List Z), True → ∃ (g_1 : List Z × Int), (SV.ro Z dZ encZ g = SV.ro Z dZ encZ (Prod.fst g_1) ∧ SV.val (Value.int IntKind.i64 (10 : Int)) = SV.val (Value.int IntKind.i64
  (Prod.snd g_1))) ∧ True ∧ True ∧ ∀ (b : Unit), True → ((!decide ((↑(List.length (Prod.fst g_1)) : Int) ≤ Prod.snd g_1)) = true → ∃ (g : Unit), True ∧ True ∧ True ∧ ∀ (b : Unit),
  True → ∃ (b : Unit), True ∧ SV.val (Value.bool true) = SV.val (Value.bool true) ∧ (0 : Nat) = (0 : Nat) ∧ True) ∧ ((!decide ((↑(List.length (Prod.fst g_1)) : Int) ≤ Prod.snd g_1))
  = false → ∃ (g_2 : List Z), SV.ro Z dZ encZ g = SV.ro Z dZ encZ g_2 ∧ True ∧ List.length g_2 ≤ (1000000000 : Nat) ∧ ∀ (b : Unit), True → ∃ (g_3 : List Z), SV.ro Z dZ encZ g = SV.ro
  Z dZ encZ g_3 ∧ True ∧ List.length g_3 ≤ (1000000000 : Nat) ∧ ∀ (b : Unit), True → ((chk g_2 == chk g_3) = true → ∃ (g : Unit), True ∧ True ∧ True ∧ ∀ (b : Unit), True → ∃ (b :
  Unit), True ∧ SV.val (Value.bool true) = SV.val (Value.bool true) ∧ (0 : Nat) = (0 : Nat) ∧ True) ∧ ((chk g_2 == chk g_3) = false → ∃ (b : Unit), True ∧ true = false ∧ (0 : Nat) =
  (0 : Nat) ∧ True))) := by kernel_rfl
def cOrders : Con := pureCon GO Unit (fun g => [roZ g.l, I g.node, Bo g.kernel]) (fun _ => True) (fun _ _ => True) (fun _ _ => Bo true)
theorem vOrders_eq : (cOrders.body (fun g => env [(11, cFew), (12, cAwake), (15, cRNodes), (16, cRNodes), (17, cROrder), (18, cROrder), (19, cSame)] (noLoops g)) Try.f4) = (∀ (g : GO), True → ∃ (g_1 : List Z × Int), (SV.ro Z dZ encZ (GO.l g) = SV.ro Z dZ encZ (Prod.fst g_1) ∧ SV.val (Value.int IntKind.i64 (10 : Int)) = SV.val (Value.int IntKind.i64
  (Prod.snd g_1))) ∧ True ∧ True ∧ ∀ (b : Unit), True → ((!decide ((↑(List.length (Prod.fst g_1)) : Int) ≤ Prod.snd g_1)) = true → ∃ (g : Unit), True ∧ True ∧ True ∧ ∀ (b : Unit),
  True → ∃ (b : Unit), True ∧ SV.val (Value.bool true) = SV.val (Value.bool true) ∧ (0 : Nat) = (0 : Nat) ∧ True) ∧ ((!decide ((↑(List.length (Prod.fst g_1)) : Int) ≤ Prod.snd g_1))
  = false → ∃ (g_2 : List Z × Int), (SV.ro Z dZ encZ (GO.l g) = SV.ro Z dZ encZ (Prod.fst g_2) ∧ SV.val (Value.int IntKind.i64 (GO.node g)) = SV.val (Value.int IntKind.i64 (Prod.snd
  g_2))) ∧ True ∧ List.length (Prod.fst g_2) ≤ (1000000000 : Nat) ∧ ∀ (b : Unit), True → ∃ (g_3 : List Z × Int), (SV.ro Z dZ encZ (GO.l g) = SV.ro Z dZ encZ (Prod.fst g_3) ∧ SV.val
  (Value.int IntKind.i64 (GO.node g)) = SV.val (Value.int IntKind.i64 (Prod.snd g_3))) ∧ True ∧ List.length (Prod.fst g_3) ≤ (1000000000 : Nat) ∧ ∀ (b : Unit), True → ∃ (g_4 : GO),
  (SV.ro Z dZ encZ (GO.l g) = SV.ro Z dZ encZ (GO.l g_4) ∧ SV.val (Value.int IntKind.i64 (GO.node g)) = SV.val (Value.int IntKind.i64 (GO.node g_4)) ∧ SV.val (Value.bool (GO.kernel
  g)) = SV.val (Value.bool (GO.kernel g_4))) ∧ True ∧ List.length (GO.l g_4) ≤ (1000000000 : Nat) ∧ ∀ (b : Unit), True → ∃ (g_5 : GO), (SV.ro Z dZ encZ (GO.l g) = SV.ro Z dZ encZ
  (GO.l g_5) ∧ SV.val (Value.int IntKind.i64 (GO.node g)) = SV.val (Value.int IntKind.i64 (GO.node g_5)) ∧ SV.val (Value.bool (GO.kernel g)) = SV.val (Value.bool (GO.kernel g_5))) ∧
  True ∧ List.length (GO.l g_5) ≤ (1000000000 : Nat) ∧ ∀ (b : Unit), True → ((checkN (Prod.fst g_2) (Prod.snd g_2) == checkN (Prod.fst g_3) (Prod.snd g_3)) = true → ((checkN (GO.l
  g_4) (GO.node g_4) == checkN (GO.l g_5) (GO.node g_5)) = true → ∃ (g : List Int × List Int), (((0 : Nat) + List.length (nodesO (Prod.fst g_2) (Prod.snd g_2)) ≤ List.length (nodesO
  (Prod.fst g_2) (Prod.snd g_2)) ∧ SV.ro Int (0 : Int) encI (List.take (List.length (nodesO (Prod.fst g_2) (Prod.snd g_2))) (List.drop (0 : Nat) (nodesO (Prod.fst g_2) (Prod.snd
  g_2)))) = SV.ro Int (0 : Int) encI (Prod.fst g)) ∧ (0 : Nat) + List.length (nodesO (Prod.fst g_3) (Prod.snd g_3)) ≤ List.length (nodesO (Prod.fst g_3) (Prod.snd g_3)) ∧ SV.ro Int
  (0 : Int) encI (List.take (List.length (nodesO (Prod.fst g_3) (Prod.snd g_3))) (List.drop (0 : Nat) (nodesO (Prod.fst g_3) (Prod.snd g_3)))) = SV.ro Int (0 : Int) encI (Prod.snd
  g)) ∧ True ∧ List.length (Prod.fst g) ≤ (1000000000 : Nat) ∧ ∀ (b : Unit), True → (sameL (Prod.fst g) (Prod.snd g) = true → ∃ (g : List Int × List Int), (((0 : Nat) + List.length
  (ordO (GO.l g_4) (GO.node g_4) (GO.kernel g_4)) ≤ List.length (ordO (GO.l g_4) (GO.node g_4) (GO.kernel g_4)) ∧ SV.ro Int (0 : Int) encI (List.take (List.length (ordO (GO.l g_4)
  (GO.node g_4) (GO.kernel g_4))) (List.drop (0 : Nat) (ordO (GO.l g_4) (GO.node g_4) (GO.kernel g_4)))) = SV.ro Int (0 : Int) encI (Prod.fst g)) ∧ (0 : Nat) + List.length (ordO
  (GO.l g_5) (GO.node g_5) (GO.kernel g_5)) ≤ List.length (ordO (GO.l g_5) (GO.node g_5) (GO.kernel g_5)) ∧ SV.ro Int (0 : Int) encI (List.take (List.length (ordO (GO.l g_5) (GO.node
  g_5) (GO.kernel g_5))) (List.drop (0 : Nat) (ordO (GO.l g_5) (GO.node g_5) (GO.kernel g_5)))) = SV.ro Int (0 : Int) encI (Prod.snd g)) ∧ True ∧ List.length (Prod.fst g) ≤
  (1000000000 : Nat) ∧ ∀ (b : Unit), True → (sameL (Prod.fst g) (Prod.snd g) = true → ∃ (g : Unit), True ∧ True ∧ True ∧ ∀ (b : Unit), True → ∃ (b : Unit), True ∧ SV.val (Value.bool
  true) = SV.val (Value.bool true) ∧ (0 : Nat) = (0 : Nat) ∧ True) ∧ (sameL (Prod.fst g) (Prod.snd g) = false → ∃ (b : Unit), True ∧ true = false ∧ (0 : Nat) = (0 : Nat) ∧ True)) ∧
  (sameL (Prod.fst g) (Prod.snd g) = false → ∃ (b : Unit), True ∧ true = false ∧ (0 : Nat) = (0 : Nat) ∧ True)) ∧ ((checkN (GO.l g_4) (GO.node g_4) == checkN (GO.l g_5) (GO.node
  g_5)) = false → ∃ (b : Unit), True ∧ true = false ∧ (0 : Nat) = (0 : Nat) ∧ True)) ∧ ((checkN (Prod.fst g_2) (Prod.snd g_2) == checkN (Prod.fst g_3) (Prod.snd g_3)) = false → ∃ (b
  : Unit), True ∧ true = false ∧ (0 : Nat) = (0 : Nat) ∧ True))) := by kernel_rfl
def cPicks : Con := pureCon GP Unit (fun g => [roZ g.l, .agg (encPo g.p), .agg [I g.node, Bo g.kernel]]) (fun _ => True) (fun _ _ => True) (fun _ _ => Bo true)
theorem vPicks_eq : (cPicks.body (fun g => env [(11, cFew), (12, cAwake), (20, cRPick), (21, cRPick), (19, cSame)] (noLoops g)) Try.f5) = (∀ (g : GP), True → ∃ (g_1 : List Z × Int), (SV.ro Z dZ encZ (GP.l g) = SV.ro Z dZ encZ (Prod.fst g_1) ∧ SV.val (Value.int IntKind.i64 (10 : Int)) = SV.val (Value.int IntKind.i64
  (Prod.snd g_1))) ∧ True ∧ True ∧ ∀ (b : Unit), True → ((!decide ((↑(List.length (Prod.fst g_1)) : Int) ≤ Prod.snd g_1)) = true → ∃ (g : Unit), True ∧ True ∧ True ∧ ∀ (b : Unit),
  True → ∃ (b : Unit), True ∧ SV.val (Value.bool true) = SV.val (Value.bool true) ∧ (0 : Nat) = (0 : Nat) ∧ True) ∧ ((!decide ((↑(List.length (Prod.fst g_1)) : Int) ≤ Prod.snd g_1))
  = false → ∃ (g_2 : GP), (SV.ro Z dZ encZ (GP.l g) = SV.ro Z dZ encZ (GP.l g_2) ∧ (SV.val (Value.int IntKind.i64 (Po.kind (GP.p g))) = SV.val (Value.int IntKind.i64 (Po.kind (GP.p
  g_2))) ∧ SV.val (Value.int IntKind.i64 (Po.nodes (GP.p g))) = SV.val (Value.int IntKind.i64 (Po.nodes (GP.p g_2))) ∧ SV.val (Value.int IntKind.i64 (Po.turn (GP.p g))) = SV.val
  (Value.int IntKind.i64 (Po.turn (GP.p g_2))) ∧ True) ∧ SV.val (Value.int IntKind.i64 (GP.node g)) = SV.val (Value.int IntKind.i64 (GP.node g_2)) ∧ SV.val (Value.bool (GP.kernel g))
  = SV.val (Value.bool (GP.kernel g_2))) ∧ True ∧ List.length (GP.l g_2) ≤ (1000000000 : Nat) ∧ ∀ (b : Unit), True → ∃ (g_3 : GP), (SV.ro Z dZ encZ (GP.l g) = SV.ro Z dZ encZ (GP.l
  g_3) ∧ (SV.val (Value.int IntKind.i64 (Po.kind (GP.p g))) = SV.val (Value.int IntKind.i64 (Po.kind (GP.p g_3))) ∧ SV.val (Value.int IntKind.i64 (Po.nodes (GP.p g))) = SV.val
  (Value.int IntKind.i64 (Po.nodes (GP.p g_3))) ∧ SV.val (Value.int IntKind.i64 (Po.turn (GP.p g))) = SV.val (Value.int IntKind.i64 (Po.turn (GP.p g_3))) ∧ True) ∧ SV.val (Value.int
  IntKind.i64 (GP.node g)) = SV.val (Value.int IntKind.i64 (GP.node g_3)) ∧ SV.val (Value.bool (GP.kernel g)) = SV.val (Value.bool (GP.kernel g_3))) ∧ True ∧ List.length (GP.l g_3) ≤
  (1000000000 : Nat) ∧ ∀ (b : Unit), True → ((pickE (GP.l g_2) (GP.p g_2) (GP.node g_2) == pickE (GP.l g_3) (GP.p g_3) (GP.node g_3)) = true → ∃ (g : List Int × List Int), (((0 :
  Nat) + List.length (pickO g_2) ≤ List.length (pickO g_2) ∧ SV.ro Int (0 : Int) encI (List.take (List.length (pickO g_2)) (List.drop (0 : Nat) (pickO g_2))) = SV.ro Int (0 : Int)
  encI (Prod.fst g)) ∧ (0 : Nat) + List.length (pickO g_3) ≤ List.length (pickO g_3) ∧ SV.ro Int (0 : Int) encI (List.take (List.length (pickO g_3)) (List.drop (0 : Nat) (pickO
  g_3))) = SV.ro Int (0 : Int) encI (Prod.snd g)) ∧ True ∧ List.length (Prod.fst g) ≤ (1000000000 : Nat) ∧ ∀ (b : Unit), True → (sameL (Prod.fst g) (Prod.snd g) = true → ∃ (g :
  Unit), True ∧ True ∧ True ∧ ∀ (b : Unit), True → ∃ (b : Unit), True ∧ SV.val (Value.bool true) = SV.val (Value.bool true) ∧ (0 : Nat) = (0 : Nat) ∧ True) ∧ (sameL (Prod.fst g)
  (Prod.snd g) = false → ∃ (b : Unit), True ∧ true = false ∧ (0 : Nat) = (0 : Nat) ∧ True)) ∧ ((pickE (GP.l g_2) (GP.p g_2) (GP.node g_2) == pickE (GP.l g_3) (GP.p g_3) (GP.node
  g_3)) = false → ∃ (b : Unit), True ∧ true = false ∧ (0 : Nat) = (0 : Nat) ∧ True))) := by kernel_rfl

theorem few_le {l : List Z} (h : (!decide ((l.length : Int) ≤ 10)) = false) : l.length ≤ 1000000000 := by
  have : (l.length : Int) ≤ 10 := by simpa using h
  omega
theorem beq_no {x : Int} {p : Prop} (h : (x == x) = false) : p := by rw [beq_self_eq_true] at h; cases h
theorem same_no {L : List Int} {p : Prop} (h : sameL L L = false) : p := by unfold sameL at h; rw [decide_eq_true rfl] at h; cases h
theorem vChecks : cChecks.body (fun g => env [(11, cFew), (12, cAwake), (13, cCheck), (14, cCheck)] (noLoops g)) Try.f3 := by
  rw [vChecks_eq]
  intro l _
  exact ⟨(l, 10), ⟨rfl, rfl⟩, trivial, trivial, fun _ _ => ⟨fun _ => ⟨(), trivial, trivial, trivial, fun _ _ => ⟨(), trivial, rfl, rfl, trivial⟩⟩, fun hf => have hlen := few_le hf; ⟨l, rfl, trivial, hlen, fun _ _ => ⟨l, rfl, trivial, hlen, fun _ _ => ⟨fun _ => ⟨(), trivial, trivial, trivial, fun _ _ => ⟨(), trivial, rfl, rfl, trivial⟩⟩, fun h => beq_no h⟩⟩⟩⟩⟩
theorem sChecks : SpecOk P 3 cChecks.spec := spec_of cChecks (tab_cons sFew (tab_cons sAwake (tab_cons sCheck (tab_cons sRCheck (tab_nil P))))) mixed (fn := Try.f3) (by kernel_rfl) (by kernel_rfl) (by kernel_rfl) (Nat.zero_le _) (noIns fun _ => rfl) vChecks
theorem nodesO_le (l : List Z) (n : Int) : (nodesO l n).length ≤ 1000000000 := Nat.le_trans (nodesO_small l n) (by decide)
theorem ordO_le (l : List Z) (n : Int) (k : Bool) : (ordO l n k).length ≤ 1000000000 := Nat.le_trans ordO_len (by decide)
theorem pickO_le (g : GP) : (pickO g).length ≤ 1000000000 := by
  unfold pickO
  split
  · decide
  · exact Nat.le_trans (List.length_filter_le _ _) (ordO_le _ _ _)
theorem vOrders : cOrders.body (fun g => env [(11, cFew), (12, cAwake), (15, cRNodes), (16, cRNodes), (17, cROrder), (18, cROrder), (19, cSame)] (noLoops g)) Try.f4 := by
  rw [vOrders_eq]
  intro g _
  have H := Nat.le_of_eq (Nat.zero_add (nodesO g.l g.node).length)
  have H2 := Nat.le_of_eq (Nat.zero_add (ordO g.l g.node g.kernel).length)
  exact ⟨(g.l, 10), ⟨rfl, rfl⟩, trivial, trivial, fun _ _ => ⟨fun _ => ⟨(), trivial, trivial, trivial, fun _ _ => ⟨(), trivial, rfl, rfl, trivial⟩⟩, fun hf => have hlen := few_le hf; ⟨(g.l, g.node), ⟨rfl, rfl⟩, trivial, hlen, fun _ _ => ⟨(g.l, g.node), ⟨rfl, rfl⟩, trivial, hlen, fun _ _ => ⟨g, ⟨rfl, rfl, rfl⟩, trivial, hlen, fun _ _ => ⟨g, ⟨rfl, rfl, rfl⟩, trivial, hlen, fun _ _ =>
    ⟨fun _ => ⟨fun _ => ⟨(nodesO g.l g.node, nodesO g.l g.node), ⟨⟨H, roT _⟩, H, roT _⟩, trivial, nodesO_le _ _, fun _ _ => ⟨fun _ => ⟨(ordO g.l g.node g.kernel, ordO g.l g.node g.kernel), ⟨⟨H2, roT _⟩, H2, roT _⟩, trivial, ordO_le _ _ _, fun _ _ => ⟨fun _ => ⟨(), trivial, trivial, trivial, fun _ _ => ⟨(), trivial, rfl, rfl, trivial⟩⟩, fun h => same_no h⟩⟩, fun h => same_no h⟩⟩, fun h => beq_no h⟩, fun h => beq_no h⟩⟩⟩⟩⟩⟩⟩
theorem sOrders : SpecOk P 4 cOrders.spec := spec_of cOrders (tab_cons sFew (tab_cons sAwake (tab_cons sNodes (tab_cons sRNodes (tab_cons sOrder (tab_cons sROrder (tab_cons sSame (tab_nil P)))))))) mixed (fn := Try.f4) (by kernel_rfl) (by kernel_rfl) (by kernel_rfl) (Nat.zero_le _) (noIns fun _ => rfl) vOrders
theorem vPicks : cPicks.body (fun g => env [(11, cFew), (12, cAwake), (20, cRPick), (21, cRPick), (19, cSame)] (noLoops g)) Try.f5 := by
  rw [vPicks_eq]
  intro g _
  have H := Nat.le_of_eq (Nat.zero_add (pickO g).length)
  exact ⟨(g.l, 10), ⟨rfl, rfl⟩, trivial, trivial, fun _ _ => ⟨fun _ => ⟨(), trivial, trivial, trivial, fun _ _ => ⟨(), trivial, rfl, rfl, trivial⟩⟩, fun hf => have hlen := few_le hf; ⟨g, ⟨rfl, ⟨rfl, rfl, rfl, trivial⟩, rfl, rfl⟩, trivial, hlen, fun _ _ => ⟨g, ⟨rfl, ⟨rfl, rfl, rfl, trivial⟩, rfl, rfl⟩, trivial, hlen, fun _ _ =>
    ⟨fun _ => ⟨(pickO g, pickO g), ⟨⟨H, roT _⟩, H, roT _⟩, trivial, pickO_le _, fun _ _ => ⟨fun _ => ⟨(), trivial, trivial, trivial, fun _ _ => ⟨(), trivial, rfl, rfl, trivial⟩⟩, fun h => same_no h⟩⟩, fun h => beq_no h⟩⟩⟩⟩⟩
theorem sPicks : SpecOk P 5 cPicks.spec := spec_of cPicks (tab_cons sFew (tab_cons sAwake (tab_cons sPick (tab_cons sRPick (tab_cons sSame (tab_nil P)))))) mixed (fn := Try.f5) (by kernel_rfl) (by kernel_rfl) (by kernel_rfl) (Nat.zero_le _) (noIns fun _ => rfl) vPicks
end Go.Zn
