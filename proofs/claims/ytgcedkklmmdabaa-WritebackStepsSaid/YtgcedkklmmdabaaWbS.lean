/- A PART OF THE PROOF. NO CONDITION. -/
import Derived.Test.YtgcedkklmmdabaaWbR
import Derived.Test.YtgcedkklmmdabaaSxAD
noncomputable section
set_option linter.unusedVariables false
set_option linter.unusedVariables false
set_option linter.unusedSimpArgs false
namespace Go.Wb
open Go.Proofs Go.SX
set_option maxRecDepth 100000
/-! Equal of runs -/
def eqDR (p q : DR) : Bool := p.file == q.file && (p.index == q.index && (p.count == q.count && true))
def eqR : List DR → List DR → Bool
  | [], [] => true
  | p :: r, q :: s => eqDR p q && eqR r s
  | _, _ => false
def cEqR : Con := pureCon (List DR × List DR) Unit (fun g => [roR g.1, roR g.2]) (fun g => g.1.length ≤ 1000000000 ∧ g.2.length ≤ 1000000000) (fun _ _ => True) (fun g _ => Bo (eqR g.1 g.2))
def lEqR (g : List DR × List DR) : Loops := loop1 0 { γ := Nat, slots := [13], vals := fun _ i => [I i], inv := fun i => i ≤ g.1.length ∧ g.1.length = g.2.length ∧ eqR (g.1.drop i) (g.2.drop i) = eqR g.1 g.2, μ := fun i => g.1.length - i }
theorem vEqR_eq : (cEqR.body (fun g => env [] (lEqR g)) Try.f23) = (∀ (g : List DR × List DR), List.length (Prod.fst g) ≤ (1000000000 : Nat) ∧ List.length (Prod.snd g) ≤ (1000000000 : Nat) → (((↑(List.length (Prod.fst g)) : Int) != (↑(List.length
  (Prod.snd g)) : Int)) = true → ∃ (b : Unit), True ∧ eqR (Prod.fst g) (Prod.snd g) = false ∧ (0 : Nat) = (0 : Nat) ∧ True) ∧ (((↑(List.length (Prod.fst g)) : Int) != (↑(List.length
  (Prod.snd g)) : Int)) = false → (∃ (g_1 : Nat), (g_1 ≤ List.length (Prod.fst g) ∧ List.length (Prod.fst g) = List.length (Prod.snd g) ∧ eqR (List.drop g_1 (Prod.fst g)) (List.drop
  g_1 (Prod.snd g)) = eqR (Prod.fst g) (Prod.snd g)) ∧ (0 : Int) = (↑g_1 : Int) ∧ True ∧ True) ∧ ∀ (g_1 : Nat), g_1 ≤ List.length (Prod.fst g) ∧ List.length (Prod.fst g) =
  List.length (Prod.snd g) ∧ eqR (List.drop g_1 (Prod.fst g)) (List.drop g_1 (Prod.snd g)) = eqR (Prod.fst g) (Prod.snd g) → (decide ((↑g_1 : Int) < (↑(List.length (Prod.fst g)) :
  Int)) = true → ((0 : Int) ≤ (↑g_1 : Int) ∧ (↑g_1 : Int) < (↑(List.length (Prod.fst g)) : Int)) ∧ Int.toNat (↑g_1 : Int) < List.length (Prod.fst g) ∧ ((0 : Int) ≤ (↑g_1 : Int) ∧
  (↑g_1 : Int) < (↑(List.length (Prod.snd g)) : Int)) ∧ Int.toNat (↑g_1 : Int) < List.length (Prod.snd g) ∧ ((!(DR.file (List.getD (Prod.fst g) (Int.toNat (↑g_1 : Int)) dDR) ==
  DR.file (List.getD (Prod.snd g) (Int.toNat (↑g_1 : Int)) dDR) && (DR.index (List.getD (Prod.fst g) (Int.toNat (↑g_1 : Int)) dDR) == DR.index (List.getD (Prod.snd g) (Int.toNat
  (↑g_1 : Int)) dDR) && (DR.count (List.getD (Prod.fst g) (Int.toNat (↑g_1 : Int)) dDR) == DR.count (List.getD (Prod.snd g) (Int.toNat (↑g_1 : Int)) dDR) && true)))) = true → ∃ (b :
  Unit), True ∧ eqR (Prod.fst g) (Prod.snd g) = false ∧ (0 : Nat) = (0 : Nat) ∧ True) ∧ ((!(DR.file (List.getD (Prod.fst g) (Int.toNat (↑g_1 : Int)) dDR) == DR.file (List.getD
  (Prod.snd g) (Int.toNat (↑g_1 : Int)) dDR) && (DR.index (List.getD (Prod.fst g) (Int.toNat (↑g_1 : Int)) dDR) == DR.index (List.getD (Prod.snd g) (Int.toNat (↑g_1 : Int)) dDR) &&
  (DR.count (List.getD (Prod.fst g) (Int.toNat (↑g_1 : Int)) dDR) == DR.count (List.getD (Prod.snd g) (Int.toNat (↑g_1 : Int)) dDR) && true)))) = false → inK IntKind.i64 ((↑g_1 :
  Int) + (1 : Int)) ∧ ∃ (g' : Nat), (g' ≤ List.length (Prod.fst g) ∧ List.length (Prod.fst g) = List.length (Prod.snd g) ∧ eqR (List.drop g' (Prod.fst g)) (List.drop g' (Prod.snd g))
  = eqR (Prod.fst g) (Prod.snd g)) ∧ List.length (Prod.fst g) - g' < List.length (Prod.fst g) - g_1 ∧ (↑g_1 : Int) + (1 : Int) = (↑g' : Int) ∧ True ∧ True)) ∧ (decide ((↑g_1 : Int) <
  (↑(List.length (Prod.fst g)) : Int)) = false → ∃ (b : Unit), True ∧ eqR (Prod.fst g) (Prod.snd g) = true ∧ (0 : Nat) = (0 : Nat) ∧ True))) := by kernel_rfl
/-! awake -/
def cAwake : Con := pureCon Unit Unit (fun _ => []) (fun _ => True) (fun _ _ => True) (fun _ _ => Bo true)
def tabA : List (Nat × Con) := [(12, cOrder), (19, cExp), (21, cRuns), (16, cNext), (14, cWCheck), (18, cEq), (24, cWr), (23, cEqR)]
theorem vAwake_eq : (cAwake.body (fun g => env tabA (noLoops g)) Try.f11) = (∀ (g : Unit), True → ∃ (g : List DP), ([[SV.val (Value.int IntKind.i64 (0 : Int)), SV.val (Value.int IntKind.i64 (3 : Int)), SV.val (Value.int IntKind.i64 (20 : Int))], [SV.val
  (Value.int IntKind.i64 (0 : Int)), SV.val (Value.int IntKind.i64 (2 : Int)), SV.val (Value.int IntKind.i64 (25 : Int))], [SV.val (Value.int IntKind.i64 (1 : Int)), SV.val
  (Value.int IntKind.i64 (0 : Int)), SV.val (Value.int IntKind.i64 (20 : Int))], [SV.val (Value.int IntKind.i64 (0 : Int)), SV.val (Value.int IntKind.i64 (4 : Int)), SV.val
  (Value.int IntKind.i64 (30 : Int))]] = List.map encDP g ∧ ∀ (x : DP), (3 : Nat) = (3 : Nat) ∧ allOne (encDP x) = true) ∧ True ∧ List.length g ≤ (1000000000 : Nat) ∧ ∀ (b : Unit),
  True → ∃ (g_1 : GExp), (([[SV.val (Value.int IntKind.i64 (0 : Int)), SV.val (Value.int IntKind.i64 (3 : Int)), SV.val (Value.int IntKind.i64 (20 : Int))], [SV.val (Value.int
  IntKind.i64 (0 : Int)), SV.val (Value.int IntKind.i64 (2 : Int)), SV.val (Value.int IntKind.i64 (25 : Int))], [SV.val (Value.int IntKind.i64 (1 : Int)), SV.val (Value.int
  IntKind.i64 (0 : Int)), SV.val (Value.int IntKind.i64 (20 : Int))], [SV.val (Value.int IntKind.i64 (0 : Int)), SV.val (Value.int IntKind.i64 (4 : Int)), SV.val (Value.int
  IntKind.i64 (30 : Int))]] = List.map encDP (GExp.l g_1) ∧ ∀ (x : DP), (3 : Nat) = (3 : Nat) ∧ allOne (encDP x) = true) ∧ SV.val (Value.int IntKind.i64 (30 : Int)) = SV.val
  (Value.int IntKind.i64 (GExp.now g_1)) ∧ SV.val (Value.int IntKind.i64 (5 : Int)) = SV.val (Value.int IntKind.i64 (GExp.age g_1))) ∧ True ∧ (List.length (GExp.l g_1) ≤ (1000000000
  : Nat) ∧ GExp.now g_1 ≤ (9223372036854775807 : Int) ∧ ∀ (p : DP), p ∈ GExp.l g_1 → DP.since p ≤ (9223372036854775807 : Int)) ∧ ∀ (b : Unit), True → ∃ (g_2 : GRn), (([[SV.val
  (Value.int IntKind.i64 (0 : Int)), SV.val (Value.int IntKind.i64 (3 : Int)), SV.val (Value.int IntKind.i64 (20 : Int))], [SV.val (Value.int IntKind.i64 (0 : Int)), SV.val
  (Value.int IntKind.i64 (2 : Int)), SV.val (Value.int IntKind.i64 (25 : Int))], [SV.val (Value.int IntKind.i64 (1 : Int)), SV.val (Value.int IntKind.i64 (0 : Int)), SV.val
  (Value.int IntKind.i64 (20 : Int))], [SV.val (Value.int IntKind.i64 (0 : Int)), SV.val (Value.int IntKind.i64 (4 : Int)), SV.val (Value.int IntKind.i64 (30 : Int))]] = List.map
  encDP (GRn.l g_2) ∧ ∀ (x : DP), (3 : Nat) = (3 : Nat) ∧ allOne (encDP x) = true) ∧ SV.val (Value.int IntKind.i64 (2 : Int)) = SV.val (Value.int IntKind.i64 (GRn.most g_2))) ∧ True
  ∧ (List.length (GRn.l g_2) ≤ (1000000000 : Nat) ∧ GRn.most g_2 ≤ (9223372036854775807 : Int)) ∧ ∀ (b : Unit), True → ((chk g != (0 : Int)) = true → ∃ (b : Unit), True ∧ true =
  false ∧ (0 : Nat) = (0 : Nat) ∧ True) ∧ ((chk g != (0 : Int)) = false → ((expE g_1 != (0 : Int)) = true → ∃ (b : Unit), True ∧ true = false ∧ (0 : Nat) = (0 : Nat) ∧ True) ∧ ((expE
  g_1 != (0 : Int)) = false → ((runsE g_2 != (0 : Int)) = true → ∃ (b : Unit), True ∧ true = false ∧ (0 : Nat) = (0 : Nat) ∧ True) ∧ ((runsE g_2 != (0 : Int)) = false → ∃ (g_3 : List
  DP), ([[SV.val (Value.int IntKind.i64 (0 : Int)), SV.val (Value.int IntKind.i64 (3 : Int)), SV.val (Value.int IntKind.i64 (20 : Int))], [SV.val (Value.int IntKind.i64 (0 : Int)),
  SV.val (Value.int IntKind.i64 (2 : Int)), SV.val (Value.int IntKind.i64 (25 : Int))], [SV.val (Value.int IntKind.i64 (1 : Int)), SV.val (Value.int IntKind.i64 (0 : Int)), SV.val
  (Value.int IntKind.i64 (20 : Int))], [SV.val (Value.int IntKind.i64 (0 : Int)), SV.val (Value.int IntKind.i64 (4 : Int)), SV.val (Value.int IntKind.i64 (30 : Int))]] = List.map
  encDP g_3 ∧ ∀ (x : DP), (3 : Nat) = (3 : Nat) ∧ allOne (encDP x) = true) ∧ True ∧ List.length g_3 ≤ (1000000000 : Nat) ∧ ∀ (b : Unit), True → ((nxt g_3 != (0 : Int)) = true → ∃ (b
  : Unit), True ∧ true = false ∧ (0 : Nat) = (0 : Nat) ∧ True) ∧ ((nxt g_3 != (0 : Int)) = false → ∃ (g_4 : List DP), ([[SV.val (Value.int IntKind.i64 (0 : Int)), SV.val (Value.int
  IntKind.i64 (3 : Int)), SV.val (Value.int IntKind.i64 (20 : Int))], [SV.val (Value.int IntKind.i64 (0 : Int)), SV.val (Value.int IntKind.i64 (2 : Int)), SV.val (Value.int
  IntKind.i64 (25 : Int))], [SV.val (Value.int IntKind.i64 (1 : Int)), SV.val (Value.int IntKind.i64 (0 : Int)), SV.val (Value.int IntKind.i64 (20 : Int))], [SV.val (Value.int
  IntKind.i64 (0 : Int)), SV.val (Value.int IntKind.i64 (4 : Int)), SV.val (Value.int IntKind.i64 (30 : Int))]] = List.map encDP g_4 ∧ ∀ (x : DP), (3 : Nat) = (3 : Nat) ∧ allOne
  (encDP x) = true) ∧ True ∧ List.length g_4 ≤ (1000000000 : Nat) ∧ ∀ (b : Unit), True → ((chk g_4 != (0 : Int)) = true → ∃ (b : Unit), True ∧ true = false ∧ (0 : Nat) = (0 : Nat) ∧
  True) ∧ ((chk g_4 != (0 : Int)) = false → ((0 : Int) ≤ (0 : Int) ∧ (0 : Int) < (↑(4 : Nat) : Int)) ∧ ((0 : Int) ≤ (2 : Int) ∧ (2 : Int) < (↑(4 : Nat) : Int)) ∧ ((0 : Int) ≤ (1 :
  Int) ∧ (1 : Int) < (↑(4 : Nat) : Int)) ∧ ((0 : Int) ≤ (3 : Int) ∧ (3 : Int) < (↑(4 : Nat) : Int)) ∧ ∃ (g_5 : List DP × List DP), (((0 : Nat) + List.length (ordO g) ≤ List.length
  (ordO g) ∧ SV.ro DP dDP encDP (List.take (List.length (ordO g)) (List.drop (0 : Nat) (ordO g))) = SV.ro DP dDP encDP (Prod.fst g_5)) ∧ [[SV.val (Value.int IntKind.i64 (0 : Int)),
  SV.val (Value.int IntKind.i64 (3 : Int)), SV.val (Value.int IntKind.i64 (20 : Int))], [SV.val (Value.int IntKind.i64 (1 : Int)), SV.val (Value.int IntKind.i64 (0 : Int)), SV.val
  (Value.int IntKind.i64 (20 : Int))], [SV.val (Value.int IntKind.i64 (0 : Int)), SV.val (Value.int IntKind.i64 (2 : Int)), SV.val (Value.int IntKind.i64 (25 : Int))], [SV.val
  (Value.int IntKind.i64 (0 : Int)), SV.val (Value.int IntKind.i64 (4 : Int)), SV.val (Value.int IntKind.i64 (30 : Int))]] = List.map encDP (Prod.snd g_5) ∧ ∀ (x : DP), (3 : Nat) =
  (3 : Nat) ∧ allOne (encDP x) = true) ∧ True ∧ (List.length (Prod.fst g_5) ≤ (1000000000 : Nat) ∧ List.length (Prod.snd g_5) ≤ (1000000000 : Nat)) ∧ ∀ (b : Unit), True → ((!eqL
  (Prod.fst g_5) (Prod.snd g_5)) = true → ∃ (b : Unit), True ∧ true = false ∧ (0 : Nat) = (0 : Nat) ∧ True) ∧ ((!eqL (Prod.fst g_5) (Prod.snd g_5)) = false → ((0 : Int) ≤ (0 : Int) ∧
  (0 : Int) < (↑(4 : Nat) : Int)) ∧ ((0 : Int) ≤ (2 : Int) ∧ (2 : Int) < (↑(4 : Nat) : Int)) ∧ ((0 : Int) ≤ (1 : Int) ∧ (1 : Int) < (↑(4 : Nat) : Int)) ∧ ∃ (g : List DP × List DP),
  (((0 : Nat) + List.length (expO g_1) ≤ List.length (expO g_1) ∧ SV.ro DP dDP encDP (List.take (List.length (expO g_1)) (List.drop (0 : Nat) (expO g_1))) = SV.ro DP dDP encDP
  (Prod.fst g)) ∧ [[SV.val (Value.int IntKind.i64 (0 : Int)), SV.val (Value.int IntKind.i64 (3 : Int)), SV.val (Value.int IntKind.i64 (20 : Int))], [SV.val (Value.int IntKind.i64 (1
  : Int)), SV.val (Value.int IntKind.i64 (0 : Int)), SV.val (Value.int IntKind.i64 (20 : Int))], [SV.val (Value.int IntKind.i64 (0 : Int)), SV.val (Value.int IntKind.i64 (2 : Int)),
  SV.val (Value.int IntKind.i64 (25 : Int))]] = List.map encDP (Prod.snd g) ∧ ∀ (x : DP), (3 : Nat) = (3 : Nat) ∧ allOne (encDP x) = true) ∧ True ∧ (List.length (Prod.fst g) ≤
  (1000000000 : Nat) ∧ List.length (Prod.snd g) ≤ (1000000000 : Nat)) ∧ ∀ (b : Unit), True → ((!eqL (Prod.fst g) (Prod.snd g)) = true → ∃ (b : Unit), True ∧ true = false ∧ (0 : Nat)
  = (0 : Nat) ∧ True) ∧ ((!eqL (Prod.fst g) (Prod.snd g)) = false → ∃ (g : GWr), (([[SV.val (Value.int IntKind.i64 (0 : Int)), SV.val (Value.int IntKind.i64 (3 : Int)), SV.val
  (Value.int IntKind.i64 (20 : Int))], [SV.val (Value.int IntKind.i64 (0 : Int)), SV.val (Value.int IntKind.i64 (2 : Int)), SV.val (Value.int IntKind.i64 (25 : Int))], [SV.val
  (Value.int IntKind.i64 (1 : Int)), SV.val (Value.int IntKind.i64 (0 : Int)), SV.val (Value.int IntKind.i64 (20 : Int))], [SV.val (Value.int IntKind.i64 (0 : Int)), SV.val
  (Value.int IntKind.i64 (4 : Int)), SV.val (Value.int IntKind.i64 (30 : Int))]] = List.map encDP (GWr.l g) ∧ ∀ (x : DP), (3 : Nat) = (3 : Nat) ∧ allOne (encDP x) = true) ∧ SV.val
  (Value.int IntKind.i64 (0 : Int)) = SV.val (Value.int IntKind.i64 (DR.file (GWr.r g))) ∧ SV.val (Value.int IntKind.i64 (2 : Int)) = SV.val (Value.int IntKind.i64 (DR.index (GWr.r
  g))) ∧ SV.val (Value.int IntKind.i64 (2 : Int)) = SV.val (Value.int IntKind.i64 (DR.count (GWr.r g))) ∧ True) ∧ True ∧ List.length (GWr.l g) ≤ (1000000000 : Nat) ∧ ∀ (b : Unit),
  True → ((wrE g == (0 : Int)) = true → ∃ (g_6 : List DR × List DR), (((0 : Nat) + List.length (runsO g_2) ≤ List.length (runsO g_2) ∧ SV.ro DR dDR encDR (List.take (List.length
  (runsO g_2)) (List.drop (0 : Nat) (runsO g_2))) = SV.ro DR dDR encDR (Prod.fst g_6)) ∧ [[SV.val (Value.int IntKind.i64 (0 : Int)), SV.val (Value.int IntKind.i64 (2 : Int)), SV.val
  (Value.int IntKind.i64 (2 : Int))], [SV.val (Value.int IntKind.i64 (0 : Int)), SV.val (Value.int IntKind.i64 (4 : Int)), SV.val (Value.int IntKind.i64 (1 : Int))], [SV.val
  (Value.int IntKind.i64 (1 : Int)), SV.val (Value.int IntKind.i64 (0 : Int)), SV.val (Value.int IntKind.i64 (1 : Int))]] = List.map encDR (Prod.snd g_6) ∧ ∀ (x : DR), (3 : Nat) = (3
  : Nat) ∧ allOne (encDR x) = true) ∧ True ∧ (List.length (Prod.fst g_6) ≤ (1000000000 : Nat) ∧ List.length (Prod.snd g_6) ≤ (1000000000 : Nat)) ∧ ∀ (b : Unit), True → (eqR (Prod.fst
  g_6) (Prod.snd g_6) = true → ((0 : Int) ≤ (2 : Int) ∧ (2 : Int) < (↑(4 : Nat) : Int)) ∧ ((0 : Int) ≤ (3 : Int) ∧ (3 : Int) < (↑(4 : Nat) : Int)) ∧ ∃ (g_7 : List DP × List DP), (((0
  : Nat) + List.length (wrO g) ≤ List.length (wrO g) ∧ SV.ro DP dDP encDP (List.take (List.length (wrO g)) (List.drop (0 : Nat) (wrO g))) = SV.ro DP dDP encDP (Prod.fst g_7)) ∧
  [[SV.val (Value.int IntKind.i64 (1 : Int)), SV.val (Value.int IntKind.i64 (0 : Int)), SV.val (Value.int IntKind.i64 (20 : Int))], [SV.val (Value.int IntKind.i64 (0 : Int)), SV.val
  (Value.int IntKind.i64 (4 : Int)), SV.val (Value.int IntKind.i64 (30 : Int))]] = List.map encDP (Prod.snd g_7) ∧ ∀ (x : DP), (3 : Nat) = (3 : Nat) ∧ allOne (encDP x) = true) ∧ True
  ∧ (List.length (Prod.fst g_7) ≤ (1000000000 : Nat) ∧ List.length (Prod.snd g_7) ≤ (1000000000 : Nat)) ∧ ∀ (b : Unit), True → ∃ (b : Unit), True ∧ SV.val (Value.bool (eqL (Prod.fst
  g_7) (Prod.snd g_7))) = SV.val (Value.bool true) ∧ (0 : Nat) = (0 : Nat) ∧ True) ∧ (eqR (Prod.fst g_6) (Prod.snd g_6) = false → ∃ (b : Unit), True ∧ true = false ∧ (0 : Nat) = (0 :
  Nat) ∧ True)) ∧ ((wrE g == (0 : Int)) = false → ∃ (b : Unit), True ∧ true = false ∧ (0 : Nat) = (0 : Nat) ∧ True))))))))) := by kernel_rfl
theorem eqR_len : ∀ {a b : List DR}, a.length ≠ b.length → eqR a b = false
  | [], [], h => absurd rfl h
  | [], _ :: _, _ => rfl
  | _ :: _, [], _ => rfl
  | p :: r, q :: s, h => by rw [eqR, eqR_len (a := r) (b := s) (by simpa using h), Bool.and_false]
theorem vEqR : cEqR.body (fun g => env [] (lEqR g)) Try.f23 := by
  rw [vEqR_eq]
  rintro ⟨l, m⟩ ⟨h1, h2⟩
  dsimp only at h1 h2 ⊢
  refine ⟨fun hn => ⟨(), trivial, ?_, rfl, trivial⟩, fun hn => ⟨⟨0, ⟨Nat.zero_le _, ?_, rfl⟩, rfl, trivial, trivial⟩, fun i hinv => ⟨fun hlt => ?_, fun hge => ⟨(), trivial, ?_, rfl, trivial⟩⟩⟩⟩
  · have hn : (l.length : Int) ≠ m.length := by simpa only [bne_iff_ne, ne_eq] using hn
    exact eqR_len (by omega)
  · have hn : (l.length : Int) = m.length := by simpa only [bne_eq_false_iff_eq] using hn
    omega
  · obtain ⟨hi, hl, ho⟩ := hinv
    have hlt : (i : Int) < l.length := of_decide_eq_true hlt
    have hi' : i < l.length := by omega
    have hd : ∀ {l : List DR}, i < l.length → l.drop i = l.getD i dDR :: l.drop (i + 1) := fun {l} hi' => by
      rw [List.drop_eq_getElem_cons hi', List.getD_eq_getElem?_getD, List.getElem?_eq_getElem hi']; rfl
    rw [hd hi', hd (l := m) (by omega), eqR] at ho
    rw [Int.toNat_natCast]
    refine ⟨⟨by omega, hlt⟩, hi', ⟨by omega, by omega⟩, by omega, fun h => ⟨(), trivial, ?_, rfl, trivial⟩, fun h => ⟨inI (by omega) (by omega), i + 1, ⟨hi', hl, ?_⟩, by omega, by omega, trivial, trivial⟩⟩
    · have h : eqDR (l.getD i dDR) (m.getD i dDR) = false := (Bool.not_eq_true' _).mp h
      rw [h, Bool.false_and] at ho; exact ho.symm
    · have h : eqDR (l.getD i dDR) (m.getD i dDR) = true := (Bool.not_eq_false' _).mp h
      rw [h, Bool.true_and] at ho; exact ho
  · obtain ⟨hi, hl, ho⟩ := hinv
    have hge : ¬ (i : Int) < l.length := of_decide_eq_false hge
    rw [List.drop_eq_nil_of_le (by omega), List.drop_eq_nil_of_le (by omega)] at ho
    exact ho.symm
theorem sEqR : SpecOk P 23 cEqR.spec := spec_of cEqR (tab_nil P) mixed (fn := Try.f23) (by kernel_rfl) (by kernel_rfl) (by kernel_rfl) (Nat.zero_le _) (noIns fun _ => rfl) vEqR
theorem roT (L : List DP) : SV.ro DP dDP encDP (List.take L.length (List.drop 0 L)) = SV.ro DP dDP encDP L := by rw [List.drop_zero, List.take_length]
theorem roTR (L : List DR) : SV.ro DR dDR encDR (List.take L.length (List.drop 0 L)) = SV.ro DR dDR encDR L := by rw [List.drop_zero, List.take_length]
def exL : List DP := [⟨0, 3, 20⟩, ⟨0, 2, 25⟩, ⟨1, 0, 20⟩, ⟨0, 4, 30⟩]
theorem exE : wrE ⟨exL, ⟨0, 2, 2⟩⟩ = 0 := by
  have h : hasRun exL ⟨0, 2, 2⟩ (2 : Int).toNat := fun j hj => by
    have : j = 0 ∨ j = 1 := by simp at hj; omega
    rcases this with rfl | rfl <;> decide +kernel
  rw [wrE, if_pos (by decide +kernel), if_neg (by decide +kernel), if_pos h]
theorem exO : wrO ⟨exL, ⟨0, 2, 2⟩⟩ = [⟨1, 0, 20⟩, ⟨0, 4, 30⟩] := by
  rw [wrO, if_pos exE]; rfl
theorem le0 (n : Nat) : 0 + n ≤ n := Nat.le_of_eq (Nat.zero_add n)
theorem vAwake : cAwake.body (fun g => env tabA (noLoops g)) Try.f11 := by
  rw [vAwake_eq]
  intro _ _
  have h4 : ∀ k : Int, 0 ≤ k → k < 4 → (0 ≤ k ∧ k < ((4 : Nat) : Int)) := fun k h1 h2 => ⟨h1, h2⟩
  refine ⟨exL, ⟨rfl, okDP⟩, trivial, by decide, fun _ _ => ⟨⟨exL, 30, 5⟩, ⟨⟨rfl, okDP⟩, rfl, rfl⟩, trivial, ⟨by decide, by decide, by decide⟩, fun _ _ => ⟨⟨exL, 2⟩, ⟨⟨rfl, okDP⟩, rfl⟩, trivial, ⟨by decide, by decide⟩, fun _ _ => ?_⟩⟩⟩
  refine ⟨fun h => absurd h (by decide +kernel), fun _ => ⟨fun h => absurd h (by decide +kernel), fun _ => ⟨fun h => absurd h (by decide +kernel), fun _ => ⟨exL, ⟨rfl, okDP⟩, trivial, by decide, fun _ _ => ⟨fun h => absurd h (by decide +kernel), fun _ => ⟨exL, ⟨rfl, okDP⟩, trivial, by decide, fun _ _ => ⟨fun h => absurd h (by decide +kernel), fun _ => ?_⟩⟩⟩⟩⟩⟩⟩
  refine ⟨h4 0 (by decide) (by decide), h4 2 (by decide) (by decide), h4 1 (by decide) (by decide), h4 3 (by decide) (by decide), (ordO exL, [⟨0, 3, 20⟩, ⟨1, 0, 20⟩, ⟨0, 2, 25⟩, ⟨0, 4, 30⟩]), ⟨⟨le0 _, roT _⟩, rfl, okDP⟩, trivial, ⟨by decide +kernel, by decide⟩, fun _ _ => ⟨fun h => absurd h (by decide +kernel), fun _ => ?_⟩⟩
  refine ⟨h4 0 (by decide) (by decide), h4 2 (by decide) (by decide), h4 1 (by decide) (by decide), (expO ⟨exL, 30, 5⟩, [⟨0, 3, 20⟩, ⟨1, 0, 20⟩, ⟨0, 2, 25⟩]), ⟨⟨le0 _, roT _⟩, rfl, okDP⟩, trivial, ⟨by decide +kernel, by decide⟩, fun _ _ => ⟨fun h => absurd h (by decide +kernel), fun _ => ?_⟩⟩
  refine ⟨⟨exL, ⟨0, 2, 2⟩⟩, ⟨⟨rfl, okDP⟩, rfl, rfl, rfl, trivial⟩, trivial, by decide, fun _ _ => ⟨fun _ => ?_, fun h => absurd h (by rw [exE]; decide)⟩⟩
  refine ⟨(runsO ⟨exL, 2⟩, [⟨0, 2, 2⟩, ⟨0, 4, 1⟩, ⟨1, 0, 1⟩]), ⟨⟨le0 _, roTR _⟩, rfl, okDR⟩, trivial, ⟨by decide +kernel, by decide⟩, fun _ _ => ⟨fun _ => ?_, fun h => absurd h (by decide +kernel)⟩⟩
  refine ⟨h4 2 (by decide) (by decide), h4 3 (by decide) (by decide), (wrO ⟨exL, ⟨0, 2, 2⟩⟩, [⟨1, 0, 20⟩, ⟨0, 4, 30⟩]), ⟨⟨le0 _, roT _⟩, rfl, okDP⟩, trivial, ⟨by rw [exO]; decide, by decide⟩, fun _ _ => ⟨(), trivial, congrArg (fun b => SV.val (.bool b)) (by rw [exO]; decide +kernel : eqL (wrO ⟨exL, ⟨0, 2, 2⟩⟩) [⟨1, 0, 20⟩, ⟨0, 4, 30⟩] = true), rfl, trivial⟩⟩
theorem tabA_ok : TabOk P tabA := tab_cons sWOrder (tab_cons sWExp (tab_cons sWRuns (tab_cons sWNext (tab_cons sWCheck (tab_cons sEq (tab_cons sWWr (tab_cons sEqR (tab_nil P))))))))
theorem sAwake : SpecOk P 11 cAwake.spec := spec_of cAwake tabA_ok mixed (fn := Try.f11) (by kernel_rfl) (by kernel_rfl) (by kernel_rfl) (Nat.zero_le _) (noIns fun _ => rfl) vAwake
end Go.Wb
