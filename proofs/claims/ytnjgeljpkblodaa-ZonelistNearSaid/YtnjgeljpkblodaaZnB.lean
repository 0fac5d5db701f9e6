/- A PART OF THE PROOF. NO CONDITION. -/
import Derived.Test.YtnjgeljpkblodaaZnA
import Derived.Test.YtnjgeljpkblodaaSxAD
noncomputable section
set_option linter.unusedVariables false
set_option linter.unusedVariables false
set_option linter.unusedSimpArgs false
namespace Go.Zn
open Go.Proofs Go.SX
set_option maxRecDepth 100000

def checkN (l : List Z) (node : Int) : Int := if chk l ≠ 0 then chk l else if node < 0 ∨ node ≥ 4 then 2 else 0
def cCheckN : Con := pureCon (List Z × Int) Unit (fun g => [roZ g.1, I g.2]) (fun g => g.1.length ≤ 1000000000) (fun _ _ => True) (fun g _ => I (checkN g.1 g.2))
theorem vCheckN_eq : (cCheckN.body (fun g => env [(13, cCheck)] (noLoops g)) Try.f24) = (∀ (g : List Z × Int), List.length (Prod.fst g) ≤ (1000000000 : Nat) → ∃ (g_1 : List Z), SV.ro Z dZ encZ (Prod.fst g) = SV.ro Z dZ encZ g_1 ∧ True ∧ List.length g_1 ≤ (1000000000 :
  Nat) ∧ ∀ (b : Unit), True → ((chk g_1 != (0 : Int)) = true → ∃ (b : Unit), True ∧ SV.val (Value.int IntKind.i64 (chk g_1)) = SV.val (Value.int IntKind.i64 (checkN (Prod.fst g)
  (Prod.snd g))) ∧ (0 : Nat) = (0 : Nat) ∧ True) ∧ ((chk g_1 != (0 : Int)) = false → (decide (Prod.snd g < (0 : Int)) = true → ∃ (b : Unit), True ∧ SV.val (Value.int IntKind.i64 (2 :
  Int)) = SV.val (Value.int IntKind.i64 (checkN (Prod.fst g) (Prod.snd g))) ∧ (0 : Nat) = (0 : Nat) ∧ True) ∧ (decide (Prod.snd g < (0 : Int)) = false → (decide (Prod.snd g ≥ (4 :
  Int)) = true → ∃ (b : Unit), True ∧ SV.val (Value.int IntKind.i64 (2 : Int)) = SV.val (Value.int IntKind.i64 (checkN (Prod.fst g) (Prod.snd g))) ∧ (0 : Nat) = (0 : Nat) ∧ True) ∧
  (decide (Prod.snd g ≥ (4 : Int)) = false → ∃ (b : Unit), True ∧ SV.val (Value.int IntKind.i64 (0 : Int)) = SV.val (Value.int IntKind.i64 (checkN (Prod.fst g) (Prod.snd g))) ∧ (0 :
  Nat) = (0 : Nat) ∧ True)))) := by kernel_rfl
def small (x : Int) : Prop := -1000 ≤ x ∧ x ≤ 1000
def keyI (f n : Int) : Int := if n < f then 2 * (f - n) else 2 * (n - f) + 1
def cKey : Con := pureCon (Int × Int) Unit (fun g => [I g.1, I g.2]) (fun g => small g.1 ∧ small g.2) (fun _ _ => True) (fun g _ => I (keyI g.1 g.2))
theorem vKey_eq : (cKey.body (fun g => env [] (noLoops g)) Try.f29) = (∀ (g : Int × Int), small (Prod.fst g) ∧ small (Prod.snd g) → (decide (Prod.snd g < Prod.fst g) = true → inK IntKind.i64 (Prod.fst g - Prod.snd g) ∧ inK IntKind.i64 ((2 : Int) *
  (Prod.fst g - Prod.snd g)) ∧ ∃ (b : Unit), True ∧ SV.val (Value.int IntKind.i64 ((2 : Int) * (Prod.fst g - Prod.snd g))) = SV.val (Value.int IntKind.i64 (keyI (Prod.fst g)
  (Prod.snd g))) ∧ (0 : Nat) = (0 : Nat) ∧ True) ∧ (decide (Prod.snd g < Prod.fst g) = false → inK IntKind.i64 (Prod.snd g - Prod.fst g) ∧ inK IntKind.i64 ((2 : Int) * (Prod.snd g -
  Prod.fst g)) ∧ inK IntKind.i64 ((2 : Int) * (Prod.snd g - Prod.fst g) + (1 : Int)) ∧ ∃ (b : Unit), True ∧ SV.val (Value.int IntKind.i64 ((2 : Int) * (Prod.snd g - Prod.fst g) + (1
  : Int))) = SV.val (Value.int IntKind.i64 (keyI (Prod.fst g) (Prod.snd g))) ∧ (0 : Nat) = (0 : Nat) ∧ True)) := by kernel_rfl
def hasZ (l : List Z) (n : Int) : Bool := l.any fun z => z.node == n
def cHas : Con := pureCon (List Z × Int) Unit (fun g => [roZ g.1, I g.2]) (fun g => g.1.length ≤ 1000000000) (fun _ _ => True) (fun g _ => Bo (hasZ g.1 g.2))
def lHas (g : List Z × Int) : Loops := loop1 0 { γ := Nat, slots := [5], vals := fun _ i => [I i], inv := fun i => i ≤ g.1.length ∧ hasZ (g.1.drop i) g.2 = hasZ g.1 g.2, μ := fun i => g.1.length - i }
theorem vHas_eq : (cHas.body (fun g => env [] (lHas g)) Try.f30) = (∀ (g : List Z × Int), List.length (Prod.fst g) ≤ (1000000000 : Nat) → (∃ (g_1 : Nat), (g_1 ≤ List.length (Prod.fst g) ∧ hasZ (List.drop g_1 (Prod.fst g)) (Prod.snd g) = hasZ
  (Prod.fst g) (Prod.snd g)) ∧ (0 : Int) = (↑g_1 : Int) ∧ True ∧ True) ∧ ∀ (g_1 : Nat), g_1 ≤ List.length (Prod.fst g) ∧ hasZ (List.drop g_1 (Prod.fst g)) (Prod.snd g) = hasZ
  (Prod.fst g) (Prod.snd g) → (decide ((↑g_1 : Int) < (↑(List.length (Prod.fst g)) : Int)) = true → ((0 : Int) ≤ (↑g_1 : Int) ∧ (↑g_1 : Int) < (↑(List.length (Prod.fst g)) : Int)) ∧
  Int.toNat (↑g_1 : Int) < List.length (Prod.fst g) ∧ ((Z.node (List.getD (Prod.fst g) (Int.toNat (↑g_1 : Int)) dZ) == Prod.snd g) = true → ∃ (b : Unit), True ∧ hasZ (Prod.fst g)
  (Prod.snd g) = true ∧ (0 : Nat) = (0 : Nat) ∧ True) ∧ ((Z.node (List.getD (Prod.fst g) (Int.toNat (↑g_1 : Int)) dZ) == Prod.snd g) = false → inK IntKind.i64 ((↑g_1 : Int) + (1 :
  Int)) ∧ ∃ (g' : Nat), (g' ≤ List.length (Prod.fst g) ∧ hasZ (List.drop g' (Prod.fst g)) (Prod.snd g) = hasZ (Prod.fst g) (Prod.snd g)) ∧ List.length (Prod.fst g) - g' < List.length
  (Prod.fst g) - g_1 ∧ (↑g_1 : Int) + (1 : Int) = (↑g' : Int) ∧ True ∧ True)) ∧ (decide ((↑g_1 : Int) < (↑(List.length (Prod.fst g)) : Int)) = false → ∃ (b : Unit), True ∧ hasZ
  (Prod.fst g) (Prod.snd g) = false ∧ (0 : Nat) = (0 : Nat) ∧ True)) := by kernel_rfl
def okZn (z : Z) : Bool := !(decide (z.node < 0) || (decide (z.node ≥ 4) || (decide (z.kind < 0) || decide (z.kind > 1))))
def validZ (l : List Z) (node : Int) : Bool := !(decide ((l.length : Int) > 6) || (decide (node < 0) || decide (node ≥ 4))) && l.all okZn
def cValid : Con := pureCon (List Z × Int) Unit (fun g => [roZ g.1, I g.2]) (fun _ => True) (fun _ _ => True) (fun g _ => Bo (validZ g.1 g.2))
def lValid (g : List Z × Int) : Loops := loop1 0 { γ := Nat, slots := [5], vals := fun _ i => [I i], inv := fun i => i ≤ g.1.length ∧ (g.1.take i).all okZn = true, μ := fun i => g.1.length - i }
theorem vValid_eq : (cValid.body (fun g => env [] (lValid g)) Try.f22) = (∀ (g : List Z × Int), True → (decide ((↑(List.length (Prod.fst g)) : Int) > (6 : Int)) = true → ∃ (b : Unit), True ∧ validZ (Prod.fst g) (Prod.snd g) = false ∧ (0 : Nat) = (0 :
  Nat) ∧ True) ∧ (decide ((↑(List.length (Prod.fst g)) : Int) > (6 : Int)) = false → (decide (Prod.snd g < (0 : Int)) = true → ∃ (b : Unit), True ∧ validZ (Prod.fst g) (Prod.snd g) =
  false ∧ (0 : Nat) = (0 : Nat) ∧ True) ∧ (decide (Prod.snd g < (0 : Int)) = false → (decide (Prod.snd g ≥ (4 : Int)) = true → ∃ (b : Unit), True ∧ validZ (Prod.fst g) (Prod.snd g) =
  false ∧ (0 : Nat) = (0 : Nat) ∧ True) ∧ (decide (Prod.snd g ≥ (4 : Int)) = false → (∃ (g_1 : Nat), (g_1 ≤ List.length (Prod.fst g) ∧ List.all (List.take g_1 (Prod.fst g)) okZn =
  true) ∧ (0 : Int) = (↑g_1 : Int) ∧ True ∧ True) ∧ ∀ (g_1 : Nat), g_1 ≤ List.length (Prod.fst g) ∧ List.all (List.take g_1 (Prod.fst g)) okZn = true → (decide ((↑g_1 : Int) <
  (↑(List.length (Prod.fst g)) : Int)) = true → ((0 : Int) ≤ (↑g_1 : Int) ∧ (↑g_1 : Int) < (↑(List.length (Prod.fst g)) : Int)) ∧ Int.toNat (↑g_1 : Int) < List.length (Prod.fst g) ∧
  (decide (Z.node (List.getD (Prod.fst g) (Int.toNat (↑g_1 : Int)) dZ) < (0 : Int)) = true → ∃ (b : Unit), True ∧ validZ (Prod.fst g) (Prod.snd g) = false ∧ (0 : Nat) = (0 : Nat) ∧
  True) ∧ (decide (Z.node (List.getD (Prod.fst g) (Int.toNat (↑g_1 : Int)) dZ) < (0 : Int)) = false → ((0 : Int) ≤ (↑g_1 : Int) ∧ (↑g_1 : Int) < (↑(List.length (Prod.fst g)) : Int))
  ∧ Int.toNat (↑g_1 : Int) < List.length (Prod.fst g) ∧ (decide (Z.node (List.getD (Prod.fst g) (Int.toNat (↑g_1 : Int)) dZ) ≥ (4 : Int)) = true → ∃ (b : Unit), True ∧ validZ
  (Prod.fst g) (Prod.snd g) = false ∧ (0 : Nat) = (0 : Nat) ∧ True) ∧ (decide (Z.node (List.getD (Prod.fst g) (Int.toNat (↑g_1 : Int)) dZ) ≥ (4 : Int)) = false → ((0 : Int) ≤ (↑g_1 :
  Int) ∧ (↑g_1 : Int) < (↑(List.length (Prod.fst g)) : Int)) ∧ Int.toNat (↑g_1 : Int) < List.length (Prod.fst g) ∧ (decide (Z.kind (List.getD (Prod.fst g) (Int.toNat (↑g_1 : Int))
  dZ) < (0 : Int)) = true → ∃ (b : Unit), True ∧ validZ (Prod.fst g) (Prod.snd g) = false ∧ (0 : Nat) = (0 : Nat) ∧ True) ∧ (decide (Z.kind (List.getD (Prod.fst g) (Int.toNat (↑g_1 :
  Int)) dZ) < (0 : Int)) = false → ((0 : Int) ≤ (↑g_1 : Int) ∧ (↑g_1 : Int) < (↑(List.length (Prod.fst g)) : Int)) ∧ Int.toNat (↑g_1 : Int) < List.length (Prod.fst g) ∧ (decide
  (Z.kind (List.getD (Prod.fst g) (Int.toNat (↑g_1 : Int)) dZ) > (1 : Int)) = true → ∃ (b : Unit), True ∧ validZ (Prod.fst g) (Prod.snd g) = false ∧ (0 : Nat) = (0 : Nat) ∧ True) ∧
  (decide (Z.kind (List.getD (Prod.fst g) (Int.toNat (↑g_1 : Int)) dZ) > (1 : Int)) = false → inK IntKind.i64 ((↑g_1 : Int) + (1 : Int)) ∧ ∃ (g' : Nat), (g' ≤ List.length (Prod.fst
  g) ∧ List.all (List.take g' (Prod.fst g)) okZn = true) ∧ List.length (Prod.fst g) - g' < List.length (Prod.fst g) - g_1 ∧ (↑g_1 : Int) + (1 : Int) = (↑g' : Int) ∧ True ∧ True)))))
  ∧ (decide ((↑g_1 : Int) < (↑(List.length (Prod.fst g)) : Int)) = false → ∃ (b : Unit), True ∧ validZ (Prod.fst g) (Prod.snd g) = true ∧ (0 : Nat) = (0 : Nat) ∧ True))))) := by kernel_rfl
def farI (a b : Int) : Int := if a < b then b - a else a - b
def cFar : Con := pureCon (Int × Int) Unit (fun g => [I g.1, I g.2]) (fun g => small g.1 ∧ small g.2) (fun _ _ => True) (fun g _ => I (farI g.1 g.2))
theorem vFar_eq : (cFar.body (fun g => env [] (noLoops g)) Try.f23) = (∀ (g : Int × Int), small (Prod.fst g) ∧ small (Prod.snd g) → (decide (Prod.fst g < Prod.snd g) = true → inK IntKind.i64 (Prod.snd g - Prod.fst g) ∧ ∃ (b : Unit), True ∧ SV.val
  (Value.int IntKind.i64 (Prod.snd g - Prod.fst g)) = SV.val (Value.int IntKind.i64 (farI (Prod.fst g) (Prod.snd g))) ∧ (0 : Nat) = (0 : Nat) ∧ True) ∧ (decide (Prod.fst g < Prod.snd
  g) = false → inK IntKind.i64 (Prod.fst g - Prod.snd g) ∧ ∃ (b : Unit), True ∧ SV.val (Value.int IntKind.i64 (Prod.fst g - Prod.snd g)) = SV.val (Value.int IntKind.i64 (farI
  (Prod.fst g) (Prod.snd g))) ∧ (0 : Nat) = (0 : Nat) ∧ True)) := by kernel_rfl
def polE (p : Po) : Int := if p.kind < 0 ∨ p.kind > 3 then 1 else if p.kind ≠ 0 ∧ (p.nodes < 1 ∨ p.nodes ≥ 16) then 1 else if p.kind = 3 ∧ p.turn < 0 then 1 else 0
def cPol : Con := pureCon Po Unit (fun p => [.agg (encPo p)]) (fun _ => True) (fun _ _ => True) (fun p _ => I (polE p))
theorem vPol_eq : (cPol.body (fun g => env [] (noLoops g)) Try.f37) = (∀ (g : Po), True → (decide (Po.kind g < (0 : Int)) = true → ∃ (b : Unit), True ∧ SV.val (Value.int IntKind.i64 (1 : Int)) = SV.val (Value.int IntKind.i64 (polE g)) ∧ (0 : Nat) = (0
  : Nat) ∧ True) ∧ (decide (Po.kind g < (0 : Int)) = false → (decide (Po.kind g > (3 : Int)) = true → ∃ (b : Unit), True ∧ SV.val (Value.int IntKind.i64 (1 : Int)) = SV.val
  (Value.int IntKind.i64 (polE g)) ∧ (0 : Nat) = (0 : Nat) ∧ True) ∧ (decide (Po.kind g > (3 : Int)) = false → ((Po.kind g != (0 : Int)) = true → (decide (Po.nodes g < (1 : Int)) =
  true → ∃ (b : Unit), True ∧ SV.val (Value.int IntKind.i64 (1 : Int)) = SV.val (Value.int IntKind.i64 (polE g)) ∧ (0 : Nat) = (0 : Nat) ∧ True) ∧ (decide (Po.nodes g < (1 : Int)) =
  false → (decide (Po.nodes g ≥ (16 : Int)) = true → ∃ (b : Unit), True ∧ SV.val (Value.int IntKind.i64 (1 : Int)) = SV.val (Value.int IntKind.i64 (polE g)) ∧ (0 : Nat) = (0 : Nat) ∧
  True) ∧ (decide (Po.nodes g ≥ (16 : Int)) = false → ((Po.kind g == (3 : Int)) = true → (decide (Po.turn g < (0 : Int)) = true → ∃ (b : Unit), True ∧ SV.val (Value.int IntKind.i64
  (1 : Int)) = SV.val (Value.int IntKind.i64 (polE g)) ∧ (0 : Nat) = (0 : Nat) ∧ True) ∧ (decide (Po.turn g < (0 : Int)) = false → ∃ (b : Unit), True ∧ SV.val (Value.int IntKind.i64
  (0 : Int)) = SV.val (Value.int IntKind.i64 (polE g)) ∧ (0 : Nat) = (0 : Nat) ∧ True)) ∧ ((Po.kind g == (3 : Int)) = false → ∃ (b : Unit), True ∧ SV.val (Value.int IntKind.i64 (0 :
  Int)) = SV.val (Value.int IntKind.i64 (polE g)) ∧ (0 : Nat) = (0 : Nat) ∧ True)))) ∧ ((Po.kind g != (0 : Int)) = false → ((Po.kind g == (3 : Int)) = true → (decide (Po.turn g < (0
  : Int)) = true → ∃ (b : Unit), True ∧ SV.val (Value.int IntKind.i64 (1 : Int)) = SV.val (Value.int IntKind.i64 (polE g)) ∧ (0 : Nat) = (0 : Nat) ∧ True) ∧ (decide (Po.turn g < (0 :
  Int)) = false → ∃ (b : Unit), True ∧ SV.val (Value.int IntKind.i64 (0 : Int)) = SV.val (Value.int IntKind.i64 (polE g)) ∧ (0 : Nat) = (0 : Nat) ∧ True)) ∧ ((Po.kind g == (3 : Int))
  = false → ∃ (b : Unit), True ∧ SV.val (Value.int IntKind.i64 (0 : Int)) = SV.val (Value.int IntKind.i64 (polE g)) ∧ (0 : Nat) = (0 : Nat) ∧ True))))) := by kernel_rfl
def cNaN : Con := pureCon Int Unit (fun x => [I x]) (fun _ => True) (fun _ _ => True) (fun _ _ => Bo false)
theorem vNaN_eq : (cNaN.body (fun g => env [] (noLoops g)) Try.f43) = (∀ (g : Int), True → ∃ (b : Unit), True ∧ SV.val (Value.bool (g != g)) = SV.val (Value.bool false) ∧ (0 : Nat) = (0 : Nat) ∧ True) := by kernel_rfl
def compareInt (a b : Int) : Int := if a < b then -1 else if a > b then 1 else 0
def cCmp : Con := pureCon (Int × Int) Unit (fun g => [I g.1, I g.2]) (fun _ => True) (fun _ _ => True) (fun g _ => I (compareInt g.1 g.2))
theorem vCmp_eq : (cCmp.body (fun g => env [(43, cNaN)] (noLoops g)) Try.f28) = (∀ (g : Int × Int), True → ∃ (g_1 : Int), SV.val (Value.int IntKind.i64 (Prod.fst g)) = SV.val (Value.int IntKind.i64 g_1) ∧ True ∧ True ∧ ∀ (b : Unit), True → ∃ (g_2 : Int), SV.val
  (Value.int IntKind.i64 (Prod.snd g)) = SV.val (Value.int IntKind.i64 g_2) ∧ True ∧ True ∧ ∀ (b : Unit), True → (false = true → (false = true → ∃ (b : Unit), True ∧ SV.val
  (Value.int IntKind.i64 (0 : Int)) = SV.val (Value.int IntKind.i64 (compareInt (Prod.fst g) (Prod.snd g))) ∧ (0 : Nat) = (0 : Nat) ∧ True) ∧ (false = false → ∃ (b : Unit), True ∧
  SV.val (Value.int IntKind.i64 (-1 : Int)) = SV.val (Value.int IntKind.i64 (compareInt (Prod.fst g) (Prod.snd g))) ∧ (0 : Nat) = (0 : Nat) ∧ True)) ∧ (false = false → (false = true
  → ∃ (b : Unit), True ∧ SV.val (Value.int IntKind.i64 (1 : Int)) = SV.val (Value.int IntKind.i64 (compareInt (Prod.fst g) (Prod.snd g))) ∧ (0 : Nat) = (0 : Nat) ∧ True) ∧ (false =
  false → (decide (Prod.fst g < Prod.snd g) = true → ∃ (b : Unit), True ∧ SV.val (Value.int IntKind.i64 (-1 : Int)) = SV.val (Value.int IntKind.i64 (compareInt (Prod.fst g) (Prod.snd
  g))) ∧ (0 : Nat) = (0 : Nat) ∧ True) ∧ (decide (Prod.fst g < Prod.snd g) = false → (decide (Prod.fst g > Prod.snd g) = true → ∃ (b : Unit), True ∧ SV.val (Value.int IntKind.i64 (1
  : Int)) = SV.val (Value.int IntKind.i64 (compareInt (Prod.fst g) (Prod.snd g))) ∧ (0 : Nat) = (0 : Nat) ∧ True) ∧ (decide (Prod.fst g > Prod.snd g) = false → ∃ (b : Unit), True ∧
  SV.val (Value.int IntKind.i64 (0 : Int)) = SV.val (Value.int IntKind.i64 (compareInt (Prod.fst g) (Prod.snd g))) ∧ (0 : Nat) = (0 : Nat) ∧ True))))) := by kernel_rfl
def sameL (a b : List Int) : Bool := decide (a = b)
def cSame : Con := pureCon (List Int × List Int) Unit (fun g => [roI g.1, roI g.2]) (fun g => g.1.length ≤ 1000000000) (fun _ _ => True) (fun g _ => Bo (sameL g.1 g.2))
def lSame (g : List Int × List Int) : Loops := loop1 0 { γ := Nat, slots := [5], vals := fun _ i => [I i], inv := fun i => i ≤ g.1.length ∧ g.1.length = g.2.length ∧ g.1.take i = g.2.take i, μ := fun i => g.1.length - i }
theorem vSame_eq : (cSame.body (fun g => env [] (lSame g)) Try.f19) = (∀ (g : List Int × List Int), List.length (Prod.fst g) ≤ (1000000000 : Nat) → (((↑(List.length (Prod.fst g)) : Int) != (↑(List.length (Prod.snd g)) : Int)) = true → ∃ (b : Unit),
  True ∧ sameL (Prod.fst g) (Prod.snd g) = false ∧ (0 : Nat) = (0 : Nat) ∧ True) ∧ (((↑(List.length (Prod.fst g)) : Int) != (↑(List.length (Prod.snd g)) : Int)) = false → (∃ (g_1 :
  Nat), (g_1 ≤ List.length (Prod.fst g) ∧ List.length (Prod.fst g) = List.length (Prod.snd g) ∧ List.take g_1 (Prod.fst g) = List.take g_1 (Prod.snd g)) ∧ (0 : Int) = (↑g_1 : Int) ∧
  True ∧ True) ∧ ∀ (g_1 : Nat), g_1 ≤ List.length (Prod.fst g) ∧ List.length (Prod.fst g) = List.length (Prod.snd g) ∧ List.take g_1 (Prod.fst g) = List.take g_1 (Prod.snd g) →
  (decide ((↑g_1 : Int) < (↑(List.length (Prod.fst g)) : Int)) = true → ((0 : Int) ≤ (↑g_1 : Int) ∧ (↑g_1 : Int) < (↑(List.length (Prod.fst g)) : Int)) ∧ Int.toNat (↑g_1 : Int) <
  List.length (Prod.fst g) ∧ ((0 : Int) ≤ (↑g_1 : Int) ∧ (↑g_1 : Int) < (↑(List.length (Prod.snd g)) : Int)) ∧ Int.toNat (↑g_1 : Int) < List.length (Prod.snd g) ∧ ((List.getD
  (Prod.fst g) (Int.toNat (↑g_1 : Int)) (0 : Int) != List.getD (Prod.snd g) (Int.toNat (↑g_1 : Int)) (0 : Int)) = true → ∃ (b : Unit), True ∧ sameL (Prod.fst g) (Prod.snd g) = false
  ∧ (0 : Nat) = (0 : Nat) ∧ True) ∧ ((List.getD (Prod.fst g) (Int.toNat (↑g_1 : Int)) (0 : Int) != List.getD (Prod.snd g) (Int.toNat (↑g_1 : Int)) (0 : Int)) = false → inK
  IntKind.i64 ((↑g_1 : Int) + (1 : Int)) ∧ ∃ (g' : Nat), (g' ≤ List.length (Prod.fst g) ∧ List.length (Prod.fst g) = List.length (Prod.snd g) ∧ List.take g' (Prod.fst g) = List.take
  g' (Prod.snd g)) ∧ List.length (Prod.fst g) - g' < List.length (Prod.fst g) - g_1 ∧ (↑g_1 : Int) + (1 : Int) = (↑g' : Int) ∧ True ∧ True)) ∧ (decide ((↑g_1 : Int) < (↑(List.length
  (Prod.fst g)) : Int)) = false → ∃ (b : Unit), True ∧ sameL (Prod.fst g) (Prod.snd g) = true ∧ (0 : Nat) = (0 : Nat) ∧ True))) := by kernel_rfl
def idxI (x : Int) : List Int → Nat → Int
  | [], _ => -1
  | q :: r, i => if x = q then i else idxI x r (i + 1)
def cIndex : Con := pureCon (List Int × Int) Unit (fun g => [roI g.1, I g.2]) (fun g => g.1.length ≤ 1000000000) (fun _ _ => True) (fun g _ => I (idxI g.2 g.1 0))
def lIndex (g : List Int × Int) : Loops := loop1 0 { γ := Nat, slots := [8], vals := fun _ i => [I i], inv := fun i => i ≤ g.1.length ∧ idxI g.2 (g.1.drop i) i = idxI g.2 g.1 0, μ := fun i => g.1.length - i }
theorem vIndex_eq : (cIndex.body (fun g => env [] (lIndex g)) Try.f40) = (∀ (g : List Int × Int), List.length (Prod.fst g) ≤ (1000000000 : Nat) → (∃ (g_1 : Nat), (g_1 ≤ List.length (Prod.fst g) ∧ idxI (Prod.snd g) (List.drop g_1 (Prod.fst g)) g_1 = idxI
  (Prod.snd g) (Prod.fst g) (0 : Nat)) ∧ (0 : Int) = (↑g_1 : Int) ∧ True ∧ True) ∧ ∀ (g_1 : Nat), g_1 ≤ List.length (Prod.fst g) ∧ idxI (Prod.snd g) (List.drop g_1 (Prod.fst g)) g_1
  = idxI (Prod.snd g) (Prod.fst g) (0 : Nat) → (decide ((↑g_1 : Int) < (↑(List.length (Prod.fst g)) : Int)) = true → ((0 : Int) ≤ (↑g_1 : Int) ∧ (↑g_1 : Int) < (↑(List.length
  (Prod.fst g)) : Int)) ∧ Int.toNat (↑g_1 : Int) < List.length (Prod.fst g) ∧ ((Prod.snd g == List.getD (Prod.fst g) (Int.toNat (↑g_1 : Int)) (0 : Int)) = true → ∃ (b : Unit), True ∧
  SV.val (Value.int IntKind.i64 (↑g_1 : Int)) = SV.val (Value.int IntKind.i64 (idxI (Prod.snd g) (Prod.fst g) (0 : Nat))) ∧ (0 : Nat) = (0 : Nat) ∧ True) ∧ ((Prod.snd g == List.getD
  (Prod.fst g) (Int.toNat (↑g_1 : Int)) (0 : Int)) = false → inK IntKind.i64 ((↑g_1 : Int) + (1 : Int)) ∧ ∃ (g' : Nat), (g' ≤ List.length (Prod.fst g) ∧ idxI (Prod.snd g) (List.drop
  g' (Prod.fst g)) g' = idxI (Prod.snd g) (Prod.fst g) (0 : Nat)) ∧ List.length (Prod.fst g) - g' < List.length (Prod.fst g) - g_1 ∧ (↑g_1 : Int) + (1 : Int) = (↑g' : Int) ∧ True ∧
  True)) ∧ (decide ((↑g_1 : Int) < (↑(List.length (Prod.fst g)) : Int)) = false → ∃ (b : Unit), True ∧ SV.val (Value.int IntKind.i64 (-1 : Int)) = SV.val (Value.int IntKind.i64 (idxI
  (Prod.snd g) (Prod.fst g) (0 : Nat))) ∧ (0 : Nat) = (0 : Nat) ∧ True)) := by kernel_rfl
def cCont : Con := pureCon (List Int × Int) Unit (fun g => [roI g.1, I g.2]) (fun g => g.1.length ≤ 1000000000) (fun _ _ => True) (fun g _ => Bo (g.1.contains g.2))
theorem vCont_eq : (cCont.body (fun g => env [(40, cIndex)] (noLoops g)) Try.f25) = (∀ (g : List Int × Int), List.length (Prod.fst g) ≤ (1000000000 : Nat) → ∃ (g_1 : List Int × Int), (SV.ro Int (0 : Int) encI (Prod.fst g) = SV.ro Int (0 : Int) encI (Prod.fst g_1) ∧
  SV.val (Value.int IntKind.i64 (Prod.snd g)) = SV.val (Value.int IntKind.i64 (Prod.snd g_1))) ∧ True ∧ List.length (Prod.fst g_1) ≤ (1000000000 : Nat) ∧ ∀ (b : Unit), True → ∃ (b :
  Unit), True ∧ SV.val (Value.bool (decide (idxI (Prod.snd g_1) (Prod.fst g_1) (0 : Nat) ≥ (0 : Int)))) = SV.val (Value.bool (List.contains (Prod.fst g) (Prod.snd g))) ∧ (0 : Nat) =
  (0 : Nat) ∧ True) := by kernel_rfl
def inM (mask node : Int) : Bool := decide (node ≥ 0) && (decide (node < 4) && (Int.tmod (Int.fdiv mask (2 ^ node.toNat)) 2 == 1))
def cIn : Con := pureCon (Int × Int) Unit (fun g => [I g.1, I g.2]) (fun _ => True) (fun _ _ => True) (fun g _ => Bo (inM g.1 g.2))
theorem vIn_eq : (cIn.body (fun g => env [] (noLoops g)) Try.f39) = (∀ (g : Int × Int), True → (decide (Prod.snd g ≥ (0 : Int)) = true → (decide (Prod.snd g < (4 : Int)) = true → inK IntKind.u64 (Prod.snd g) ∧ (0 : Int) ≤ Prod.snd g ∧ (2 : Int) ≠ (0
  : Int) ∧ ∃ (b : Unit), True ∧ SV.val (Value.bool (Int.tmod (Int.fdiv (Prod.fst g) ((2 : Int) ^ min (Int.toNat (Prod.snd g)) (64 : Nat))) (2 : Int) == (1 : Int))) = SV.val
  (Value.bool (inM (Prod.fst g) (Prod.snd g))) ∧ (0 : Nat) = (0 : Nat) ∧ True) ∧ (decide (Prod.snd g < (4 : Int)) = false → ∃ (b : Unit), True ∧ inM (Prod.fst g) (Prod.snd g) = false
  ∧ (0 : Nat) = (0 : Nat) ∧ True)) ∧ (decide (Prod.snd g ≥ (0 : Int)) = false → ∃ (b : Unit), True ∧ inM (Prod.fst g) (Prod.snd g) = false ∧ (0 : Nat) = (0 : Nat) ∧ True)) := by kernel_rfl

theorem vPol : cPol.body (fun g => env [] (noLoops g)) Try.f37 := by
  rw [vPol_eq]
  simp only [exists_const, true_and, and_true, SV.val.injEq, Value.int.injEq, forall_const, polE]
  intro g
  grind
theorem vKey : cKey.body (fun g => env [] (noLoops g)) Try.f29 := by
  rw [vKey_eq]
  simp only [exists_const, true_and, and_true, SV.val.injEq, Value.int.injEq, forall_const, keyI, small, inK, lo, hi]
  intro g
  grind
theorem vFar : cFar.body (fun g => env [] (noLoops g)) Try.f23 := by
  rw [vFar_eq]
  simp only [exists_const, true_and, and_true, SV.val.injEq, Value.int.injEq, forall_const, farI, small, inK, lo, hi]
  intro g
  grind
theorem vCheckN : cCheckN.body (fun g => env [(13, cCheck)] (noLoops g)) Try.f24 := by
  rw [vCheckN_eq]
  intro g hg
  refine ⟨g.1, rfl, trivial, hg, fun _ _ => ?_⟩
  simp only [exists_const, true_and, and_true, SV.val.injEq, Value.int.injEq, forall_const, checkN]
  grind

theorem vNaN : cNaN.body (fun g => env [] (noLoops g)) Try.f43 := by
  rw [vNaN_eq]
  intro x _
  simp
theorem vCmp : cCmp.body (fun g => env [(43, cNaN)] (noLoops g)) Try.f28 := by
  rw [vCmp_eq]
  intro g _
  refine ⟨g.1, rfl, trivial, trivial, fun _ _ => ⟨g.2, rfl, trivial, trivial, fun _ _ => ?_⟩⟩
  simp only [exists_const, true_and, and_true, SV.val.injEq, Value.int.injEq, forall_const, compareInt]
  grind
theorem vHas : cHas.body (fun g => env [] (lHas g)) Try.f30 := by
  rw [vHas_eq]
  rintro ⟨l, n⟩ hlen
  dsimp only at hlen ⊢
  refine ⟨⟨0, ⟨Nat.zero_le _, rfl⟩, rfl, trivial, trivial⟩, fun i ⟨hi, ho⟩ => ⟨fun h => ?_, fun h => ⟨(), trivial, ?_, rfl, trivial⟩⟩⟩
  · have h : (i : Int) < l.length := of_decide_eq_true h
    have hi' : i < l.length := by omega
    have hd : hasZ (l.drop i) n = ((l.getD i dZ).node == n || hasZ (l.drop (i + 1)) n) := by rw [drop_getD dZ hi']; rfl
    rw [Int.toNat_natCast]
    refine ⟨⟨by omega, h⟩, hi', fun h1 => ⟨(), trivial, ?_, rfl, trivial⟩, fun h1 => ⟨inI (by omega) (by omega), i + 1, ⟨hi', ?_⟩, by omega, by omega, trivial, trivial⟩⟩
    · rw [← ho, hd, h1]; rfl
    · rw [← ho, hd, h1]; rfl
  · have h := of_decide_eq_false h
    rw [List.drop_eq_nil_of_le (by omega)] at ho
    exact ho.symm
theorem vValid : cValid.body (fun g => env [] (lValid g)) Try.f22 := by
  rw [vValid_eq]
  rintro ⟨l, n⟩ hlen
  dsimp only at hlen ⊢
  have out : decide ((l.length : Int) > 6) = true ∨ decide (n < 0) = true ∨ decide (n ≥ 4) = true → validZ l n = false := fun h => by
    unfold validZ
    rcases h with h | h | h <;> rw [h] <;> simp
  refine ⟨fun h => ⟨(), trivial, out (.inl h), rfl, trivial⟩, fun h1 => ⟨fun h => ⟨(), trivial, out (.inr (.inl h)), rfl, trivial⟩, fun h2 => ⟨fun h => ⟨(), trivial, out (.inr (.inr h)), rfl, trivial⟩, fun h3 => ⟨⟨0, ⟨Nat.zero_le _, rfl⟩, rfl, trivial, trivial⟩, fun i ⟨hi, ho⟩ => ⟨fun h => ?_, fun h => ⟨(), trivial, ?_, rfl, trivial⟩⟩⟩⟩⟩⟩
  · have h6 := of_decide_eq_false h1
    have h : (i : Int) < l.length := of_decide_eq_true h
    have hi' : i < l.length := by omega
    rw [Int.toNat_natCast]
    have bad : okZn (l.getD i dZ) = false → validZ l n = false := fun hb => by
      have : l.all okZn = false := by rw [List.all_eq_false]; exact ⟨_, getD_mem hi', by rw [hb]; decide⟩
      unfold validZ; rw [this, Bool.and_false]
    refine ⟨⟨by omega, h⟩, hi', fun h1 => ⟨(), trivial, bad ?_, rfl, trivial⟩, fun h1 => ⟨⟨by omega, h⟩, hi', fun h2 => ⟨(), trivial, bad ?_, rfl, trivial⟩, fun h2 => ⟨⟨by omega, h⟩, hi', fun h3 => ⟨(), trivial, bad ?_, rfl, trivial⟩, fun h3 => ⟨⟨by omega, h⟩, hi', fun h4 => ⟨(), trivial, bad ?_, rfl, trivial⟩, fun h4 => ⟨inI (by omega) (by omega), i + 1, ⟨hi', ?_⟩, by omega, by omega, trivial, trivial⟩⟩⟩⟩⟩
    · unfold okZn; rw [h1]; rfl
    · unfold okZn; rw [h2, Bool.true_or, Bool.or_true]; rfl
    · unfold okZn; rw [h3, Bool.true_or, Bool.or_true, Bool.or_true]; rfl
    · unfold okZn; rw [h4, Bool.or_true, Bool.or_true, Bool.or_true]; rfl
    · rw [take_next l dZ hi', List.all_append, ho, Bool.true_and]
      simp only [List.all_cons, List.all_nil, Bool.and_true]
      unfold okZn; rw [h1, h2, h3, h4]; rfl
  · have h := of_decide_eq_false h
    rw [List.take_of_length_le (by omega)] at ho
    unfold validZ; rw [h1, h2, h3, ho]; rfl
theorem vSame : cSame.body (fun g => env [] (lSame g)) Try.f19 := by
  rw [vSame_eq]
  rintro ⟨a, b⟩ hlen
  dsimp only at hlen ⊢
  refine ⟨fun h => ⟨(), trivial, ?_, rfl, trivial⟩, fun hl => ⟨⟨0, ⟨Nat.zero_le _, by simp at hl; omega, rfl⟩, rfl, trivial, trivial⟩, fun i ⟨hi, hab, ho⟩ => ⟨fun h => ?_, fun h => ⟨(), trivial, ?_, rfl, trivial⟩⟩⟩⟩
  · have h : ¬ ((a.length : Int) = b.length) := by simpa using h
    exact decide_eq_false fun e => h (by rw [e])
  · have h : (i : Int) < a.length := of_decide_eq_true h
    have hi' : i < a.length := by omega
    rw [Int.toNat_natCast]
    refine ⟨⟨by omega, h⟩, hi', ⟨by omega, by omega⟩, by omega, fun h1 => ⟨(), trivial, ?_, rfl, trivial⟩, fun h1 => ⟨inI (by omega) (by omega), i + 1, ⟨hi', hab, ?_⟩, by omega, by omega, trivial, trivial⟩⟩
    · have h1 : ¬ (a.getD i 0 = b.getD i 0) := by simpa using h1
      exact decide_eq_false fun e => h1 (by rw [e])
    · have h1 : a.getD i 0 = b.getD i 0 := by simpa using h1
      rw [take_next a 0 hi', take_next b 0 (by omega), ho, h1]
  · have h := of_decide_eq_false h
    rw [List.take_of_length_le (by omega), List.take_of_length_le (by omega)] at ho
    exact decide_eq_true ho
theorem vIndex : cIndex.body (fun g => env [] (lIndex g)) Try.f40 := by
  rw [vIndex_eq]
  rintro ⟨l, x⟩ hlen
  dsimp only at hlen ⊢
  refine ⟨⟨0, ⟨Nat.zero_le _, rfl⟩, rfl, trivial, trivial⟩, fun i ⟨hi, ho⟩ => ⟨fun hlt => ?_, fun hge => ⟨(), trivial, ?_, rfl, trivial⟩⟩⟩
  · have hlt : (i : Int) < l.length := of_decide_eq_true hlt
    have hi' : i < l.length := by omega
    rw [drop_getD 0 hi', idxI] at ho
    rw [Int.toNat_natCast]
    refine ⟨⟨by omega, hlt⟩, hi', fun h => ⟨(), trivial, ?_, rfl, trivial⟩, fun h => ⟨inI (by omega) (by omega), i + 1, ⟨hi', ?_⟩, by omega, by omega, trivial, trivial⟩⟩
    · rw [if_pos (by simpa using h)] at ho; rw [ho]
    · rw [if_neg (by simpa using h)] at ho; exact ho
  · have hge := of_decide_eq_false hge
    rw [List.drop_eq_nil_of_le (by omega)] at ho
    rw [← ho]; rfl
theorem idxI_contains (x : Int) : ∀ (l : List Int) (k : Nat), (0 ≤ idxI x l k) ↔ x ∈ l
  | [], k => by simp [idxI]
  | q :: r, k => by
    unfold idxI
    by_cases h : x = q
    · simp [h]
    · simp only [h, if_false, List.mem_cons, false_or]; exact idxI_contains x r (k + 1)
theorem vCont : cCont.body (fun g => env [(40, cIndex)] (noLoops g)) Try.f25 := by
  rw [vCont_eq]
  intro g hg
  refine ⟨g, ⟨rfl, rfl⟩, trivial, hg, fun _ _ => ⟨(), trivial, ?_, rfl, trivial⟩⟩
  have : decide (idxI g.2 g.1 0 ≥ 0) = g.1.contains g.2 := by
    rw [List.contains_eq_mem]
    exact decide_eq_decide.2 (idxI_contains _ _ _)
  rw [this]
theorem vIn : cIn.body (fun g => env [] (noLoops g)) Try.f39 := by
  rw [vIn_eq]
  rintro ⟨m, n⟩ _
  dsimp only
  refine ⟨fun h1 => ⟨fun h2 => ?_, fun h2 => ⟨(), trivial, ?_, rfl, trivial⟩⟩, fun h1 => ⟨(), trivial, ?_, rfl, trivial⟩⟩
  · have h1' := of_decide_eq_true h1
    have h2' := of_decide_eq_true h2
    refine ⟨⟨by simp only [lo]; omega, by simp only [hi]; omega⟩, h1', by decide, (), trivial, ?_, rfl, trivial⟩
    unfold inM
    rw [h1, h2, Nat.min_eq_left (by omega)]; rfl
  · unfold inM; rw [h2, Bool.false_and, Bool.and_false]
  · unfold inM; rw [h1]; rfl
theorem sCheckN : SpecOk P 24 cCheckN.spec := spec_of cCheckN (tab_cons sCheck (tab_nil P)) mixed (fn := Try.f24) (by kernel_rfl) (by kernel_rfl) (by kernel_rfl) (Nat.zero_le _) (noIns fun _ => rfl) vCheckN
theorem sKey : SpecOk P 29 cKey.spec := spec_of cKey (tab_nil P) mixed (fn := Try.f29) (by kernel_rfl) (by kernel_rfl) (by kernel_rfl) (Nat.zero_le _) (noIns fun _ => rfl) vKey
theorem sHas : SpecOk P 30 cHas.spec := spec_of cHas (tab_nil P) mixed (fn := Try.f30) (by kernel_rfl) (by kernel_rfl) (by kernel_rfl) (Nat.zero_le _) (noIns fun _ => rfl) vHas
theorem sValid : SpecOk P 22 cValid.spec := spec_of cValid (tab_nil P) mixed (fn := Try.f22) (by kernel_rfl) (by kernel_rfl) (by kernel_rfl) (Nat.zero_le _) (noIns fun _ => rfl) vValid
theorem sFar : SpecOk P 23 cFar.spec := spec_of cFar (tab_nil P) mixed (fn := Try.f23) (by kernel_rfl) (by kernel_rfl) (by kernel_rfl) (Nat.zero_le _) (noIns fun _ => rfl) vFar
theorem sPol : SpecOk P 37 cPol.spec := spec_of cPol (tab_nil P) mixed (fn := Try.f37) (by kernel_rfl) (by kernel_rfl) (by kernel_rfl) (Nat.zero_le _) (noIns fun _ => rfl) vPol
theorem sNaN : SpecOk P 43 cNaN.spec := spec_of cNaN (tab_nil P) mixed (fn := Try.f43) (by kernel_rfl) (by kernel_rfl) (by kernel_rfl) (Nat.zero_le _) (noIns fun _ => rfl) vNaN
theorem sCmp : SpecOk P 28 cCmp.spec := spec_of cCmp (tab_cons sNaN (tab_nil P)) mixed (fn := Try.f28) (by kernel_rfl) (by kernel_rfl) (by kernel_rfl) (Nat.zero_le _) (noIns fun _ => rfl) vCmp
theorem sSame : SpecOk P 19 cSame.spec := spec_of cSame (tab_nil P) mixed (fn := Try.f19) (by kernel_rfl) (by kernel_rfl) (by kernel_rfl) (Nat.zero_le _) (noIns fun _ => rfl) vSame
theorem sIndex : SpecOk P 40 cIndex.spec := spec_of cIndex (tab_nil P) mixed (fn := Try.f40) (by kernel_rfl) (by kernel_rfl) (by kernel_rfl) (Nat.zero_le _) (noIns fun _ => rfl) vIndex
theorem sCont : SpecOk P 25 cCont.spec := spec_of cCont (tab_cons sIndex (tab_nil P)) mixed (fn := Try.f25) (by kernel_rfl) (by kernel_rfl) (by kernel_rfl) (Nat.zero_le _) (noIns fun _ => rfl) vCont
theorem sIn : SpecOk P 39 cIn.spec := spec_of cIn (tab_nil P) mixed (fn := Try.f39) (by kernel_rfl) (by kernel_rfl) (by kernel_rfl) (Nat.zero_le _) (noIns fun _ => rfl) vIn
end Go.Zn
