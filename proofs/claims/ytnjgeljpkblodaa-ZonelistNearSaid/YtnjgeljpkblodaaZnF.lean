/- A PART OF THE PROOF. NO CONDITION. -/
import Derived.Test.YtnjgeljpkblodaaZnE
import Derived.Test.YtnjgeljpkblodaaSxAD
noncomputable section
set_option linter.unusedVariables false
set_option linter.unusedVariables false
set_option linter.unusedSimpArgs false
namespace Go.Zn
open Go.Proofs Go.SX
set_option maxRecDepth 100000

/-! insertion sort -/
def insAt (cf : Int → Int → Int) (x : Int) (R : List Int) : Nat → Nat
  | 0 => 0
  | k + 1 => if cf x (R.getD k 0) < 0 then insAt cf x R k else k + 1
def insP (cf : Int → Int → Int) (R : List Int) (x : Int) : List Int := R.take (insAt cf x R R.length) ++ x :: R.drop (insAt cf x R R.length)
def isR (cf : Int → Int → Int) (l : List Int) : List Int := l.foldl (insP cf) []
def slKeys0 : List SV → List Nat
  | .sl k _ _ _ :: _ => [k]
  | _ => []
def midL (cf : Int → Int → Int) (L : List Int) (i j : Nat) : List Int := (isR cf (L.take i)).take j ++ L.getD i 0 :: ((isR cf (L.take i)).drop j ++ L.drop (i + 1))
def lIns (cf : Int → Int → Int) (L : List Int) : Loops := fun id st => match Nat.beq id 0, Nat.beq id 2 with
  | true, _ => some { γ := Nat, slots := [8], vals := fun _ i => [I i], blks := fun _ i => [(0, .arr Int 0 encI (isR cf (L.take i) ++ L.drop i))], inv := fun i => 1 ≤ i ∧ (i ≤ L.length ∨ i = 1), μ := fun i => L.length - i }
  | _, true => withInt st 8 fun i => some { γ := Nat, slots := [9], vals := fun _ j => [I j], blks := fun _ j => [(0, .arr Int 0 encI (midL cf L i.toNat j))], inv := fun j => j ≤ i.toNat ∧ insAt cf (L.getD i.toNat 0) (isR cf (L.take i.toNat)) j = insAt cf (L.getD i.toNat 0) (isR cf (L.take i.toNat)) i.toNat, μ := fun j => j }
  | _, _ => none
structure GN where
  node : Int
  L : List Int
def preN (g : GN) : Prop := small g.node ∧ (∀ x ∈ g.L, small x) ∧ g.L.length ≤ 12
def cInsN : Con := { γ := GN, β := Unit, keys := slKeys0, m := 1, args := fun g => [.sl 0 1 0 g.L.length, I 0, I g.L.length, .clo 27 [bxI g.node]], ins := fun g => [.arr Int 0 encI g.L], pre := preN, post := fun _ _ => True, res := fun _ _ => .tup [], outs := fun g _ => [.arr Int 0 encI (isR (cfN g.node) g.L)], new := fun _ _ => none }
theorem vInsN_eq : (cInsN.body (fun g => env [(27, c27)] (lIns (cfN g.node) g.L)) Try.f46) = (∀ (g : GN), small (GN.node g) ∧ (∀ (x : Int), x ∈ GN.L g → small x) ∧ List.length (GN.L g) ≤ (12 : Nat) → inK IntKind.i64 ((0 : Int) + (1 : Int)) ∧ (∃ (g_1 : Nat), ((1 : Nat) ≤ g_1
  ∧ (g_1 ≤ List.length (GN.L g) ∨ g_1 = (1 : Nat))) ∧ (0 : Int) + (1 : Int) = (↑g_1 : Int) ∧ (LB.arr Int (0 : Int) encI (GN.L g) = LB.arr Int (0 : Int) encI (isR (cfN (GN.node g))
  (List.take g_1 (GN.L g)) ++ List.drop g_1 (GN.L g)) ∧ True) ∧ True) ∧ ∀ (g_1 : Nat), (1 : Nat) ≤ g_1 ∧ (g_1 ≤ List.length (GN.L g) ∨ g_1 = (1 : Nat)) → (decide ((↑g_1 : Int) <
  (↑(List.length (GN.L g)) : Int)) = true → (∃ (g_2 : Nat), (g_2 ≤ Int.toNat (↑g_1 : Int) ∧ insAt (cfN (GN.node g)) (List.getD (GN.L g) (Int.toNat (↑g_1 : Int)) (0 : Int)) (isR (cfN
  (GN.node g)) (List.take (Int.toNat (↑g_1 : Int)) (GN.L g))) g_2 = insAt (cfN (GN.node g)) (List.getD (GN.L g) (Int.toNat (↑g_1 : Int)) (0 : Int)) (isR (cfN (GN.node g)) (List.take
  (Int.toNat (↑g_1 : Int)) (GN.L g))) (Int.toNat (↑g_1 : Int))) ∧ (↑g_1 : Int) = (↑g_2 : Int) ∧ (LB.arr Int (0 : Int) encI (isR (cfN (GN.node g)) (List.take g_1 (GN.L g)) ++
  List.drop g_1 (GN.L g)) = LB.arr Int (0 : Int) encI (midL (cfN (GN.node g)) (GN.L g) (Int.toNat (↑g_1 : Int)) g_2) ∧ True) ∧ True) ∧ ∀ (g_2 : Nat), g_2 ≤ Int.toNat (↑g_1 : Int) ∧
  insAt (cfN (GN.node g)) (List.getD (GN.L g) (Int.toNat (↑g_1 : Int)) (0 : Int)) (isR (cfN (GN.node g)) (List.take (Int.toNat (↑g_1 : Int)) (GN.L g))) g_2 = insAt (cfN (GN.node g))
  (List.getD (GN.L g) (Int.toNat (↑g_1 : Int)) (0 : Int)) (isR (cfN (GN.node g)) (List.take (Int.toNat (↑g_1 : Int)) (GN.L g))) (Int.toNat (↑g_1 : Int)) → (decide ((↑g_2 : Int) > (0
  : Int)) = true → inK IntKind.i64 ((↑g_2 : Int) - (1 : Int)) ∧ (((0 : Int) ≤ (↑g_2 : Int) ∧ (↑g_2 : Int) < (↑(List.length (GN.L g)) : Int)) ∧ (0 : Nat) + Int.toNat (↑g_2 : Int) <
  List.length (midL (cfN (GN.node g)) (GN.L g) (Int.toNat (↑g_1 : Int)) g_2) ∧ ((0 : Int) ≤ (↑g_2 : Int) - (1 : Int) ∧ (↑g_2 : Int) - (1 : Int) < (↑(List.length (GN.L g)) : Int)) ∧
  (0 : Nat) + Int.toNat ((↑g_2 : Int) - (1 : Int)) < List.length (midL (cfN (GN.node g)) (GN.L g) (Int.toNat (↑g_1 : Int)) g_2) ∧ ∃ (g_3 : G27), (SV.val (Value.int IntKind.i64
  (List.getD (midL (cfN (GN.node g)) (GN.L g) (Int.toNat (↑g_1 : Int)) g_2) ((0 : Nat) + Int.toNat (↑g_2 : Int)) (0 : Int))) = SV.val (Value.int IntKind.i64 (G27.a g_3)) ∧ SV.val
  (Value.int IntKind.i64 (List.getD (midL (cfN (GN.node g)) (GN.L g) (Int.toNat (↑g_1 : Int)) g_2) ((0 : Nat) + Int.toNat ((↑g_2 : Int) - (1 : Int))) (0 : Int))) = SV.val (Value.int
  IntKind.i64 (G27.b g_3)) ∧ SV.rop Int (0 : Int) encI [GN.node g] (0 : Nat) (0 : Nat) = SV.rop Int (0 : Int) encI [G27.node g_3] (0 : Nat) (0 : Nat)) ∧ True ∧ (small (G27.a g_3) ∧
  small (G27.b g_3) ∧ small (G27.node g_3)) ∧ ∀ (b : Unit), True → (decide (cfN (G27.node g_3) (G27.a g_3) (G27.b g_3) < (0 : Int)) = true → inK IntKind.i64 ((↑g_2 : Int) - (1 :
  Int)) ∧ inK IntKind.i64 ((↑g_2 : Int) - (1 : Int)) ∧ ((0 : Int) ≤ (↑g_2 : Int) - (1 : Int) ∧ (↑g_2 : Int) - (1 : Int) < (↑(List.length (GN.L g)) : Int)) ∧ (0 : Nat) + Int.toNat
  ((↑g_2 : Int) - (1 : Int)) < List.length (midL (cfN (GN.node g)) (GN.L g) (Int.toNat (↑g_1 : Int)) g_2) ∧ ((0 : Int) ≤ (↑g_2 : Int) ∧ (↑g_2 : Int) < (↑(List.length (GN.L g)) :
  Int)) ∧ (0 : Nat) + Int.toNat (↑g_2 : Int) < List.length (midL (cfN (GN.node g)) (GN.L g) (Int.toNat (↑g_1 : Int)) g_2) ∧ ((0 : Int) ≤ (↑g_2 : Int) ∧ (↑g_2 : Int) < (↑(List.length
  (GN.L g)) : Int)) ∧ (0 : Nat) + Int.toNat (↑g_2 : Int) < List.length (midL (cfN (GN.node g)) (GN.L g) (Int.toNat (↑g_1 : Int)) g_2) ∧ ∃ (x : Int), [SV.val (Value.int IntKind.i64
  x)] = [SV.val (Value.int IntKind.i64 (List.getD (midL (cfN (GN.node g)) (GN.L g) (Int.toNat (↑g_1 : Int)) g_2) ((0 : Nat) + Int.toNat ((↑g_2 : Int) - (1 : Int))) (0 : Int)))] ∧ ((0
  : Int) ≤ (↑g_2 : Int) - (1 : Int) ∧ (↑g_2 : Int) - (1 : Int) < (↑(List.length (GN.L g)) : Int)) ∧ (0 : Nat) + Int.toNat ((↑g_2 : Int) - (1 : Int)) < List.length (List.set (midL
  (cfN (GN.node g)) (GN.L g) (Int.toNat (↑g_1 : Int)) g_2) ((0 : Nat) + Int.toNat (↑g_2 : Int)) x) ∧ ∃ (x_1 : Int), [SV.val (Value.int IntKind.i64 x_1)] = [SV.val (Value.int
  IntKind.i64 (List.getD (midL (cfN (GN.node g)) (GN.L g) (Int.toNat (↑g_1 : Int)) g_2) ((0 : Nat) + Int.toNat (↑g_2 : Int)) (0 : Int)))] ∧ inK IntKind.i64 ((↑g_2 : Int) - (1 : Int))
  ∧ ∃ (g' : Nat), (g' ≤ Int.toNat (↑g_1 : Int) ∧ insAt (cfN (GN.node g)) (List.getD (GN.L g) (Int.toNat (↑g_1 : Int)) (0 : Int)) (isR (cfN (GN.node g)) (List.take (Int.toNat (↑g_1 :
  Int)) (GN.L g))) g' = insAt (cfN (GN.node g)) (List.getD (GN.L g) (Int.toNat (↑g_1 : Int)) (0 : Int)) (isR (cfN (GN.node g)) (List.take (Int.toNat (↑g_1 : Int)) (GN.L g)))
  (Int.toNat (↑g_1 : Int))) ∧ g' < g_2 ∧ (↑g_2 : Int) - (1 : Int) = (↑g' : Int) ∧ (LB.arr Int (0 : Int) encI (List.set (List.set (midL (cfN (GN.node g)) (GN.L g) (Int.toNat (↑g_1 :
  Int)) g_2) ((0 : Nat) + Int.toNat (↑g_2 : Int)) x) ((0 : Nat) + Int.toNat ((↑g_2 : Int) - (1 : Int))) x_1) = LB.arr Int (0 : Int) encI (midL (cfN (GN.node g)) (GN.L g) (Int.toNat
  (↑g_1 : Int)) g') ∧ True) ∧ True) ∧ (decide (cfN (G27.node g_3) (G27.a g_3) (G27.b g_3) < (0 : Int)) = false → inK IntKind.i64 ((↑g_1 : Int) + (1 : Int)) ∧ ∃ (g' : Nat), ((1 : Nat)
  ≤ g' ∧ (g' ≤ List.length (GN.L g) ∨ g' = (1 : Nat))) ∧ List.length (GN.L g) - g' < List.length (GN.L g) - g_1 ∧ (↑g_1 : Int) + (1 : Int) = (↑g' : Int) ∧ (LB.arr Int (0 : Int) encI
  (midL (cfN (GN.node g)) (GN.L g) (Int.toNat (↑g_1 : Int)) g_2) = LB.arr Int (0 : Int) encI (isR (cfN (GN.node g)) (List.take g' (GN.L g)) ++ List.drop g' (GN.L g)) ∧ True) ∧ True))
  ∧ ((0 : Int) ≤ (↑g_2 : Int) - (1 : Int) ∧ (↑g_2 : Int) - (1 : Int) < (↑(List.length (GN.L g)) : Int)) ∧ (0 : Nat) + Int.toNat ((↑g_2 : Int) - (1 : Int)) < List.length (midL (cfN
  (GN.node g)) (GN.L g) (Int.toNat (↑g_1 : Int)) g_2) ∧ ((0 : Int) ≤ (↑g_2 : Int) ∧ (↑g_2 : Int) < (↑(List.length (GN.L g)) : Int)) ∧ (0 : Nat) + Int.toNat (↑g_2 : Int) < List.length
  (midL (cfN (GN.node g)) (GN.L g) (Int.toNat (↑g_1 : Int)) g_2) ∧ ∃ (g_3 : G27), (SV.val (Value.int IntKind.i64 (List.getD (midL (cfN (GN.node g)) (GN.L g) (Int.toNat (↑g_1 : Int))
  g_2) ((0 : Nat) + Int.toNat (↑g_2 : Int)) (0 : Int))) = SV.val (Value.int IntKind.i64 (G27.a g_3)) ∧ SV.val (Value.int IntKind.i64 (List.getD (midL (cfN (GN.node g)) (GN.L g)
  (Int.toNat (↑g_1 : Int)) g_2) ((0 : Nat) + Int.toNat ((↑g_2 : Int) - (1 : Int))) (0 : Int))) = SV.val (Value.int IntKind.i64 (G27.b g_3)) ∧ SV.rop Int (0 : Int) encI [GN.node g] (0
  : Nat) (0 : Nat) = SV.rop Int (0 : Int) encI [G27.node g_3] (0 : Nat) (0 : Nat)) ∧ True ∧ (small (G27.a g_3) ∧ small (G27.b g_3) ∧ small (G27.node g_3)) ∧ ∀ (b : Unit), True →
  (decide (cfN (G27.node g_3) (G27.a g_3) (G27.b g_3) < (0 : Int)) = true → inK IntKind.i64 ((↑g_2 : Int) - (1 : Int)) ∧ inK IntKind.i64 ((↑g_2 : Int) - (1 : Int)) ∧ ((0 : Int) ≤
  (↑g_2 : Int) - (1 : Int) ∧ (↑g_2 : Int) - (1 : Int) < (↑(List.length (GN.L g)) : Int)) ∧ (0 : Nat) + Int.toNat ((↑g_2 : Int) - (1 : Int)) < List.length (midL (cfN (GN.node g))
  (GN.L g) (Int.toNat (↑g_1 : Int)) g_2) ∧ ((0 : Int) ≤ (↑g_2 : Int) ∧ (↑g_2 : Int) < (↑(List.length (GN.L g)) : Int)) ∧ (0 : Nat) + Int.toNat (↑g_2 : Int) < List.length (midL (cfN
  (GN.node g)) (GN.L g) (Int.toNat (↑g_1 : Int)) g_2) ∧ ((0 : Int) ≤ (↑g_2 : Int) ∧ (↑g_2 : Int) < (↑(List.length (GN.L g)) : Int)) ∧ (0 : Nat) + Int.toNat (↑g_2 : Int) < List.length
  (midL (cfN (GN.node g)) (GN.L g) (Int.toNat (↑g_1 : Int)) g_2) ∧ ∃ (x : Int), [SV.val (Value.int IntKind.i64 x)] = [SV.val (Value.int IntKind.i64 (List.getD (midL (cfN (GN.node g))
  (GN.L g) (Int.toNat (↑g_1 : Int)) g_2) ((0 : Nat) + Int.toNat ((↑g_2 : Int) - (1 : Int))) (0 : Int)))] ∧ ((0 : Int) ≤ (↑g_2 : Int) - (1 : Int) ∧ (↑g_2 : Int) - (1 : Int) <
  (↑(List.length (GN.L g)) : Int)) ∧ (0 : Nat) + Int.toNat ((↑g_2 : Int) - (1 : Int)) < List.length (List.set (midL (cfN (GN.node g)) (GN.L g) (Int.toNat (↑g_1 : Int)) g_2) ((0 :
  Nat) + Int.toNat (↑g_2 : Int)) x) ∧ ∃ (x_1 : Int), [SV.val (Value.int IntKind.i64 x_1)] = [SV.val (Value.int IntKind.i64 (List.getD (midL (cfN (GN.node g)) (GN.L g) (Int.toNat
  (↑g_1 : Int)) g_2) ((0 : Nat) + Int.toNat (↑g_2 : Int)) (0 : Int)))] ∧ inK IntKind.i64 ((↑g_2 : Int) - (1 : Int)) ∧ ∃ (g' : Nat), (g' ≤ Int.toNat (↑g_1 : Int) ∧ insAt (cfN (GN.node
  g)) (List.getD (GN.L g) (Int.toNat (↑g_1 : Int)) (0 : Int)) (isR (cfN (GN.node g)) (List.take (Int.toNat (↑g_1 : Int)) (GN.L g))) g' = insAt (cfN (GN.node g)) (List.getD (GN.L g)
  (Int.toNat (↑g_1 : Int)) (0 : Int)) (isR (cfN (GN.node g)) (List.take (Int.toNat (↑g_1 : Int)) (GN.L g))) (Int.toNat (↑g_1 : Int))) ∧ g' < g_2 ∧ (↑g_2 : Int) - (1 : Int) = (↑g' :
  Int) ∧ (LB.arr Int (0 : Int) encI (List.set (List.set (midL (cfN (GN.node g)) (GN.L g) (Int.toNat (↑g_1 : Int)) g_2) ((0 : Nat) + Int.toNat (↑g_2 : Int)) x) ((0 : Nat) + Int.toNat
  ((↑g_2 : Int) - (1 : Int))) x_1) = LB.arr Int (0 : Int) encI (midL (cfN (GN.node g)) (GN.L g) (Int.toNat (↑g_1 : Int)) g') ∧ True) ∧ True) ∧ (decide (cfN (G27.node g_3) (G27.a g_3)
  (G27.b g_3) < (0 : Int)) = false → inK IntKind.i64 ((↑g_1 : Int) + (1 : Int)) ∧ ∃ (g' : Nat), ((1 : Nat) ≤ g' ∧ (g' ≤ List.length (GN.L g) ∨ g' = (1 : Nat))) ∧ List.length (GN.L g)
  - g' < List.length (GN.L g) - g_1 ∧ (↑g_1 : Int) + (1 : Int) = (↑g' : Int) ∧ (LB.arr Int (0 : Int) encI (midL (cfN (GN.node g)) (GN.L g) (Int.toNat (↑g_1 : Int)) g_2) = LB.arr Int
  (0 : Int) encI (isR (cfN (GN.node g)) (List.take g' (GN.L g)) ++ List.drop g' (GN.L g)) ∧ True) ∧ True)) ∧ (decide ((↑g_2 : Int) > (0 : Int)) = false → (inK IntKind.i64 ((↑g_1 :
  Int) + (1 : Int)) ∧ ∃ (g' : Nat), ((1 : Nat) ≤ g' ∧ (g' ≤ List.length (GN.L g) ∨ g' = (1 : Nat))) ∧ List.length (GN.L g) - g' < List.length (GN.L g) - g_1 ∧ (↑g_1 : Int) + (1 :
  Int) = (↑g' : Int) ∧ (LB.arr Int (0 : Int) encI (midL (cfN (GN.node g)) (GN.L g) (Int.toNat (↑g_1 : Int)) g_2) = LB.arr Int (0 : Int) encI (isR (cfN (GN.node g)) (List.take g'
  (GN.L g)) ++ List.drop g' (GN.L g)) ∧ True) ∧ True) ∧ inK IntKind.i64 ((↑g_1 : Int) + (1 : Int)) ∧ ∃ (g' : Nat), ((1 : Nat) ≤ g' ∧ (g' ≤ List.length (GN.L g) ∨ g' = (1 : Nat))) ∧
  List.length (GN.L g) - g' < List.length (GN.L g) - g_1 ∧ (↑g_1 : Int) + (1 : Int) = (↑g' : Int) ∧ (LB.arr Int (0 : Int) encI (midL (cfN (GN.node g)) (GN.L g) (Int.toNat (↑g_1 :
  Int)) g_2) = LB.arr Int (0 : Int) encI (isR (cfN (GN.node g)) (List.take g' (GN.L g)) ++ List.drop g' (GN.L g)) ∧ True) ∧ True)) ∧ (decide ((↑g_1 : Int) < (↑(List.length (GN.L g))
  : Int)) = false → ∃ (b : Unit), True ∧ True ∧ (1 : Nat) = (1 : Nat) ∧ some (LB.arr Int (0 : Int) encI (isR (cfN (GN.node g)) (List.take g_1 (GN.L g)) ++ List.drop g_1 (GN.L g))) =
  some (LB.arr Int (0 : Int) encI (isR (cfN (GN.node g)) (GN.L g))) ∧ ∀ (x : Int), allFlat (encI x) = true)) := by kernel_rfl
structure GOs where
  g : GR
  L : List Int
def preO (g : GOs) : Prop := okR g.g ∧ (∀ x ∈ g.L, 0 ≤ x ∧ x < g.g.l.length) ∧ g.L.length ≤ 12
def cInsO : Con := { γ := GOs, β := Unit, keys := slKeys0, m := 1, args := fun g => [.sl 0 1 0 g.L.length, I 0, I g.L.length, .clo 33 [bxR g.g]], ins := fun g => [.arr Int 0 encI g.L], pre := preO, post := fun _ _ => True, res := fun _ _ => .tup [], outs := fun g _ => [.arr Int 0 encI (isR (cfO g.g) g.L)], new := fun _ _ => none }
theorem vInsO_eq : (cInsO.body (fun g => env [(33, c33)] (lIns (cfO g.g) g.L)) Try.f46) = (∀ (g : GOs), okR (GOs.g g) ∧ (∀ (x : Int), x ∈ GOs.L g → (0 : Int) ≤ x ∧ x < (↑(List.length (GR.l (GOs.g g))) : Int)) ∧ List.length (GOs.L g) ≤ (12 : Nat) → inK IntKind.i64 ((0 :
  Int) + (1 : Int)) ∧ (∃ (g_1 : Nat), ((1 : Nat) ≤ g_1 ∧ (g_1 ≤ List.length (GOs.L g) ∨ g_1 = (1 : Nat))) ∧ (0 : Int) + (1 : Int) = (↑g_1 : Int) ∧ (LB.arr Int (0 : Int) encI (GOs.L
  g) = LB.arr Int (0 : Int) encI (isR (cfO (GOs.g g)) (List.take g_1 (GOs.L g)) ++ List.drop g_1 (GOs.L g)) ∧ True) ∧ True) ∧ ∀ (g_1 : Nat), (1 : Nat) ≤ g_1 ∧ (g_1 ≤ List.length
  (GOs.L g) ∨ g_1 = (1 : Nat)) → (decide ((↑g_1 : Int) < (↑(List.length (GOs.L g)) : Int)) = true → (∃ (g_2 : Nat), (g_2 ≤ Int.toNat (↑g_1 : Int) ∧ insAt (cfO (GOs.g g)) (List.getD
  (GOs.L g) (Int.toNat (↑g_1 : Int)) (0 : Int)) (isR (cfO (GOs.g g)) (List.take (Int.toNat (↑g_1 : Int)) (GOs.L g))) g_2 = insAt (cfO (GOs.g g)) (List.getD (GOs.L g) (Int.toNat (↑g_1
  : Int)) (0 : Int)) (isR (cfO (GOs.g g)) (List.take (Int.toNat (↑g_1 : Int)) (GOs.L g))) (Int.toNat (↑g_1 : Int))) ∧ (↑g_1 : Int) = (↑g_2 : Int) ∧ (LB.arr Int (0 : Int) encI (isR
  (cfO (GOs.g g)) (List.take g_1 (GOs.L g)) ++ List.drop g_1 (GOs.L g)) = LB.arr Int (0 : Int) encI (midL (cfO (GOs.g g)) (GOs.L g) (Int.toNat (↑g_1 : Int)) g_2) ∧ True) ∧ True) ∧ ∀
  (g_2 : Nat), g_2 ≤ Int.toNat (↑g_1 : Int) ∧ insAt (cfO (GOs.g g)) (List.getD (GOs.L g) (Int.toNat (↑g_1 : Int)) (0 : Int)) (isR (cfO (GOs.g g)) (List.take (Int.toNat (↑g_1 : Int))
  (GOs.L g))) g_2 = insAt (cfO (GOs.g g)) (List.getD (GOs.L g) (Int.toNat (↑g_1 : Int)) (0 : Int)) (isR (cfO (GOs.g g)) (List.take (Int.toNat (↑g_1 : Int)) (GOs.L g))) (Int.toNat
  (↑g_1 : Int)) → (decide ((↑g_2 : Int) > (0 : Int)) = true → inK IntKind.i64 ((↑g_2 : Int) - (1 : Int)) ∧ (((0 : Int) ≤ (↑g_2 : Int) ∧ (↑g_2 : Int) < (↑(List.length (GOs.L g)) :
  Int)) ∧ (0 : Nat) + Int.toNat (↑g_2 : Int) < List.length (midL (cfO (GOs.g g)) (GOs.L g) (Int.toNat (↑g_1 : Int)) g_2) ∧ ((0 : Int) ≤ (↑g_2 : Int) - (1 : Int) ∧ (↑g_2 : Int) - (1 :
  Int) < (↑(List.length (GOs.L g)) : Int)) ∧ (0 : Nat) + Int.toNat ((↑g_2 : Int) - (1 : Int)) < List.length (midL (cfO (GOs.g g)) (GOs.L g) (Int.toNat (↑g_1 : Int)) g_2) ∧ ∃ (g_3 :
  G33), (SV.val (Value.int IntKind.i64 (List.getD (midL (cfO (GOs.g g)) (GOs.L g) (Int.toNat (↑g_1 : Int)) g_2) ((0 : Nat) + Int.toNat (↑g_2 : Int)) (0 : Int))) = SV.val (Value.int
  IntKind.i64 (G33.a g_3)) ∧ SV.val (Value.int IntKind.i64 (List.getD (midL (cfO (GOs.g g)) (GOs.L g) (Int.toNat (↑g_1 : Int)) g_2) ((0 : Nat) + Int.toNat ((↑g_2 : Int) - (1 : Int)))
  (0 : Int))) = SV.val (Value.int IntKind.i64 (G33.b g_3)) ∧ SV.rop GR dGR encR [GOs.g g] (0 : Nat) (0 : Nat) = SV.rop GR dGR encR [G33.g g_3] (0 : Nat) (0 : Nat)) ∧ True ∧ (okR
  (G33.g g_3) ∧ ((0 : Int) ≤ G33.a g_3 ∧ G33.a g_3 < (↑(List.length (GR.l (G33.g g_3))) : Int)) ∧ (0 : Int) ≤ G33.b g_3 ∧ G33.b g_3 < (↑(List.length (GR.l (G33.g g_3))) : Int)) ∧ ∀
  (b : Unit), True → (decide (cfO (G33.g g_3) (G33.a g_3) (G33.b g_3) < (0 : Int)) = true → inK IntKind.i64 ((↑g_2 : Int) - (1 : Int)) ∧ inK IntKind.i64 ((↑g_2 : Int) - (1 : Int)) ∧
  ((0 : Int) ≤ (↑g_2 : Int) - (1 : Int) ∧ (↑g_2 : Int) - (1 : Int) < (↑(List.length (GOs.L g)) : Int)) ∧ (0 : Nat) + Int.toNat ((↑g_2 : Int) - (1 : Int)) < List.length (midL (cfO
  (GOs.g g)) (GOs.L g) (Int.toNat (↑g_1 : Int)) g_2) ∧ ((0 : Int) ≤ (↑g_2 : Int) ∧ (↑g_2 : Int) < (↑(List.length (GOs.L g)) : Int)) ∧ (0 : Nat) + Int.toNat (↑g_2 : Int) < List.length
  (midL (cfO (GOs.g g)) (GOs.L g) (Int.toNat (↑g_1 : Int)) g_2) ∧ ((0 : Int) ≤ (↑g_2 : Int) ∧ (↑g_2 : Int) < (↑(List.length (GOs.L g)) : Int)) ∧ (0 : Nat) + Int.toNat (↑g_2 : Int) <
  List.length (midL (cfO (GOs.g g)) (GOs.L g) (Int.toNat (↑g_1 : Int)) g_2) ∧ ∃ (x : Int), [SV.val (Value.int IntKind.i64 x)] = [SV.val (Value.int IntKind.i64 (List.getD (midL (cfO
  (GOs.g g)) (GOs.L g) (Int.toNat (↑g_1 : Int)) g_2) ((0 : Nat) + Int.toNat ((↑g_2 : Int) - (1 : Int))) (0 : Int)))] ∧ ((0 : Int) ≤ (↑g_2 : Int) - (1 : Int) ∧ (↑g_2 : Int) - (1 :
  Int) < (↑(List.length (GOs.L g)) : Int)) ∧ (0 : Nat) + Int.toNat ((↑g_2 : Int) - (1 : Int)) < List.length (List.set (midL (cfO (GOs.g g)) (GOs.L g) (Int.toNat (↑g_1 : Int)) g_2)
  ((0 : Nat) + Int.toNat (↑g_2 : Int)) x) ∧ ∃ (x_1 : Int), [SV.val (Value.int IntKind.i64 x_1)] = [SV.val (Value.int IntKind.i64 (List.getD (midL (cfO (GOs.g g)) (GOs.L g) (Int.toNat
  (↑g_1 : Int)) g_2) ((0 : Nat) + Int.toNat (↑g_2 : Int)) (0 : Int)))] ∧ inK IntKind.i64 ((↑g_2 : Int) - (1 : Int)) ∧ ∃ (g' : Nat), (g' ≤ Int.toNat (↑g_1 : Int) ∧ insAt (cfO (GOs.g
  g)) (List.getD (GOs.L g) (Int.toNat (↑g_1 : Int)) (0 : Int)) (isR (cfO (GOs.g g)) (List.take (Int.toNat (↑g_1 : Int)) (GOs.L g))) g' = insAt (cfO (GOs.g g)) (List.getD (GOs.L g)
  (Int.toNat (↑g_1 : Int)) (0 : Int)) (isR (cfO (GOs.g g)) (List.take (Int.toNat (↑g_1 : Int)) (GOs.L g))) (Int.toNat (↑g_1 : Int))) ∧ g' < g_2 ∧ (↑g_2 : Int) - (1 : Int) = (↑g' :
  Int) ∧ (LB.arr Int (0 : Int) encI (List.set (List.set (midL (cfO (GOs.g g)) (GOs.L g) (Int.toNat (↑g_1 : Int)) g_2) ((0 : Nat) + Int.toNat (↑g_2 : Int)) x) ((0 : Nat) + Int.toNat
  ((↑g_2 : Int) - (1 : Int))) x_1) = LB.arr Int (0 : Int) encI (midL (cfO (GOs.g g)) (GOs.L g) (Int.toNat (↑g_1 : Int)) g') ∧ True) ∧ True) ∧ (decide (cfO (G33.g g_3) (G33.a g_3)
  (G33.b g_3) < (0 : Int)) = false → inK IntKind.i64 ((↑g_1 : Int) + (1 : Int)) ∧ ∃ (g' : Nat), ((1 : Nat) ≤ g' ∧ (g' ≤ List.length (GOs.L g) ∨ g' = (1 : Nat))) ∧ List.length (GOs.L
  g) - g' < List.length (GOs.L g) - g_1 ∧ (↑g_1 : Int) + (1 : Int) = (↑g' : Int) ∧ (LB.arr Int (0 : Int) encI (midL (cfO (GOs.g g)) (GOs.L g) (Int.toNat (↑g_1 : Int)) g_2) = LB.arr
  Int (0 : Int) encI (isR (cfO (GOs.g g)) (List.take g' (GOs.L g)) ++ List.drop g' (GOs.L g)) ∧ True) ∧ True)) ∧ ((0 : Int) ≤ (↑g_2 : Int) - (1 : Int) ∧ (↑g_2 : Int) - (1 : Int) <
  (↑(List.length (GOs.L g)) : Int)) ∧ (0 : Nat) + Int.toNat ((↑g_2 : Int) - (1 : Int)) < List.length (midL (cfO (GOs.g g)) (GOs.L g) (Int.toNat (↑g_1 : Int)) g_2) ∧ ((0 : Int) ≤
  (↑g_2 : Int) ∧ (↑g_2 : Int) < (↑(List.length (GOs.L g)) : Int)) ∧ (0 : Nat) + Int.toNat (↑g_2 : Int) < List.length (midL (cfO (GOs.g g)) (GOs.L g) (Int.toNat (↑g_1 : Int)) g_2) ∧ ∃
  (g_3 : G33), (SV.val (Value.int IntKind.i64 (List.getD (midL (cfO (GOs.g g)) (GOs.L g) (Int.toNat (↑g_1 : Int)) g_2) ((0 : Nat) + Int.toNat (↑g_2 : Int)) (0 : Int))) = SV.val
  (Value.int IntKind.i64 (G33.a g_3)) ∧ SV.val (Value.int IntKind.i64 (List.getD (midL (cfO (GOs.g g)) (GOs.L g) (Int.toNat (↑g_1 : Int)) g_2) ((0 : Nat) + Int.toNat ((↑g_2 : Int) -
  (1 : Int))) (0 : Int))) = SV.val (Value.int IntKind.i64 (G33.b g_3)) ∧ SV.rop GR dGR encR [GOs.g g] (0 : Nat) (0 : Nat) = SV.rop GR dGR encR [G33.g g_3] (0 : Nat) (0 : Nat)) ∧ True
  ∧ (okR (G33.g g_3) ∧ ((0 : Int) ≤ G33.a g_3 ∧ G33.a g_3 < (↑(List.length (GR.l (G33.g g_3))) : Int)) ∧ (0 : Int) ≤ G33.b g_3 ∧ G33.b g_3 < (↑(List.length (GR.l (G33.g g_3))) :
  Int)) ∧ ∀ (b : Unit), True → (decide (cfO (G33.g g_3) (G33.a g_3) (G33.b g_3) < (0 : Int)) = true → inK IntKind.i64 ((↑g_2 : Int) - (1 : Int)) ∧ inK IntKind.i64 ((↑g_2 : Int) - (1
  : Int)) ∧ ((0 : Int) ≤ (↑g_2 : Int) - (1 : Int) ∧ (↑g_2 : Int) - (1 : Int) < (↑(List.length (GOs.L g)) : Int)) ∧ (0 : Nat) + Int.toNat ((↑g_2 : Int) - (1 : Int)) < List.length
  (midL (cfO (GOs.g g)) (GOs.L g) (Int.toNat (↑g_1 : Int)) g_2) ∧ ((0 : Int) ≤ (↑g_2 : Int) ∧ (↑g_2 : Int) < (↑(List.length (GOs.L g)) : Int)) ∧ (0 : Nat) + Int.toNat (↑g_2 : Int) <
  List.length (midL (cfO (GOs.g g)) (GOs.L g) (Int.toNat (↑g_1 : Int)) g_2) ∧ ((0 : Int) ≤ (↑g_2 : Int) ∧ (↑g_2 : Int) < (↑(List.length (GOs.L g)) : Int)) ∧ (0 : Nat) + Int.toNat
  (↑g_2 : Int) < List.length (midL (cfO (GOs.g g)) (GOs.L g) (Int.toNat (↑g_1 : Int)) g_2) ∧ ∃ (x : Int), [SV.val (Value.int IntKind.i64 x)] = [SV.val (Value.int IntKind.i64
  (List.getD (midL (cfO (GOs.g g)) (GOs.L g) (Int.toNat (↑g_1 : Int)) g_2) ((0 : Nat) + Int.toNat ((↑g_2 : Int) - (1 : Int))) (0 : Int)))] ∧ ((0 : Int) ≤ (↑g_2 : Int) - (1 : Int) ∧
  (↑g_2 : Int) - (1 : Int) < (↑(List.length (GOs.L g)) : Int)) ∧ (0 : Nat) + Int.toNat ((↑g_2 : Int) - (1 : Int)) < List.length (List.set (midL (cfO (GOs.g g)) (GOs.L g) (Int.toNat
  (↑g_1 : Int)) g_2) ((0 : Nat) + Int.toNat (↑g_2 : Int)) x) ∧ ∃ (x_1 : Int), [SV.val (Value.int IntKind.i64 x_1)] = [SV.val (Value.int IntKind.i64 (List.getD (midL (cfO (GOs.g g))
  (GOs.L g) (Int.toNat (↑g_1 : Int)) g_2) ((0 : Nat) + Int.toNat (↑g_2 : Int)) (0 : Int)))] ∧ inK IntKind.i64 ((↑g_2 : Int) - (1 : Int)) ∧ ∃ (g' : Nat), (g' ≤ Int.toNat (↑g_1 : Int)
  ∧ insAt (cfO (GOs.g g)) (List.getD (GOs.L g) (Int.toNat (↑g_1 : Int)) (0 : Int)) (isR (cfO (GOs.g g)) (List.take (Int.toNat (↑g_1 : Int)) (GOs.L g))) g' = insAt (cfO (GOs.g g))
  (List.getD (GOs.L g) (Int.toNat (↑g_1 : Int)) (0 : Int)) (isR (cfO (GOs.g g)) (List.take (Int.toNat (↑g_1 : Int)) (GOs.L g))) (Int.toNat (↑g_1 : Int))) ∧ g' < g_2 ∧ (↑g_2 : Int) -
  (1 : Int) = (↑g' : Int) ∧ (LB.arr Int (0 : Int) encI (List.set (List.set (midL (cfO (GOs.g g)) (GOs.L g) (Int.toNat (↑g_1 : Int)) g_2) ((0 : Nat) + Int.toNat (↑g_2 : Int)) x) ((0 :
  Nat) + Int.toNat ((↑g_2 : Int) - (1 : Int))) x_1) = LB.arr Int (0 : Int) encI (midL (cfO (GOs.g g)) (GOs.L g) (Int.toNat (↑g_1 : Int)) g') ∧ True) ∧ True) ∧ (decide (cfO (G33.g
  g_3) (G33.a g_3) (G33.b g_3) < (0 : Int)) = false → inK IntKind.i64 ((↑g_1 : Int) + (1 : Int)) ∧ ∃ (g' : Nat), ((1 : Nat) ≤ g' ∧ (g' ≤ List.length (GOs.L g) ∨ g' = (1 : Nat))) ∧
  List.length (GOs.L g) - g' < List.length (GOs.L g) - g_1 ∧ (↑g_1 : Int) + (1 : Int) = (↑g' : Int) ∧ (LB.arr Int (0 : Int) encI (midL (cfO (GOs.g g)) (GOs.L g) (Int.toNat (↑g_1 :
  Int)) g_2) = LB.arr Int (0 : Int) encI (isR (cfO (GOs.g g)) (List.take g' (GOs.L g)) ++ List.drop g' (GOs.L g)) ∧ True) ∧ True)) ∧ (decide ((↑g_2 : Int) > (0 : Int)) = false → (inK
  IntKind.i64 ((↑g_1 : Int) + (1 : Int)) ∧ ∃ (g' : Nat), ((1 : Nat) ≤ g' ∧ (g' ≤ List.length (GOs.L g) ∨ g' = (1 : Nat))) ∧ List.length (GOs.L g) - g' < List.length (GOs.L g) - g_1 ∧
  (↑g_1 : Int) + (1 : Int) = (↑g' : Int) ∧ (LB.arr Int (0 : Int) encI (midL (cfO (GOs.g g)) (GOs.L g) (Int.toNat (↑g_1 : Int)) g_2) = LB.arr Int (0 : Int) encI (isR (cfO (GOs.g g))
  (List.take g' (GOs.L g)) ++ List.drop g' (GOs.L g)) ∧ True) ∧ True) ∧ inK IntKind.i64 ((↑g_1 : Int) + (1 : Int)) ∧ ∃ (g' : Nat), ((1 : Nat) ≤ g' ∧ (g' ≤ List.length (GOs.L g) ∨ g'
  = (1 : Nat))) ∧ List.length (GOs.L g) - g' < List.length (GOs.L g) - g_1 ∧ (↑g_1 : Int) + (1 : Int) = (↑g' : Int) ∧ (LB.arr Int (0 : Int) encI (midL (cfO (GOs.g g)) (GOs.L g)
  (Int.toNat (↑g_1 : Int)) g_2) = LB.arr Int (0 : Int) encI (isR (cfO (GOs.g g)) (List.take g' (GOs.L g)) ++ List.drop g' (GOs.L g)) ∧ True) ∧ True)) ∧ (decide ((↑g_1 : Int) <
  (↑(List.length (GOs.L g)) : Int)) = false → ∃ (b : Unit), True ∧ True ∧ (1 : Nat) = (1 : Nat) ∧ some (LB.arr Int (0 : Int) encI (isR (cfO (GOs.g g)) (List.take g_1 (GOs.L g)) ++
  List.drop g_1 (GOs.L g))) = some (LB.arr Int (0 : Int) encI (isR (cfO (GOs.g g)) (GOs.L g))) ∧ ∀ (x : Int), allFlat (encI x) = true)) := by kernel_rfl

section lists
variable (cf : Int → Int → Int)
theorem insAt_le (x : Int) (R : List Int) : ∀ k, insAt cf x R k ≤ k
  | 0 => Nat.le_refl _
  | k + 1 => by
    unfold insAt
    split
    · exact Nat.le_succ_of_le (insAt_le x R k)
    · exact Nat.le_refl _
theorem insP_length (R : List Int) (x : Int) : (insP cf R x).length = R.length + 1 := by
  have := insAt_le cf x R R.length
  simp only [insP, List.length_append, List.length_cons, List.length_take, List.length_drop]; omega
theorem isR_snoc (l : List Int) (x : Int) : isR cf (l ++ [x]) = insP cf (isR cf l) x := by simp [isR]
theorem isR_length (l : List Int) : (isR cf l).length = l.length := by
  suffices h : ∀ r : List Int, (isR cf r.reverse).length = r.length by simpa using h l.reverse
  intro r
  induction r with
  | nil => rfl
  | cons x r ih => rw [List.reverse_cons, isR_snoc, insP_length, ih]; rfl
theorem insP_perm (R : List Int) (x : Int) : (insP cf R x).Perm (x :: R) := by
  unfold insP
  refine List.perm_middle.trans ?_
  rw [List.take_append_drop]
theorem isR_perm (l : List Int) : (isR cf l).Perm l := by
  suffices h : ∀ r : List Int, (isR cf r.reverse).Perm r.reverse by simpa using h l.reverse
  intro r
  induction r with
  | nil => exact List.Perm.refl _
  | cons x r ih =>
    rw [List.reverse_cons, isR_snoc]
    refine (insP_perm cf _ x).trans ?_
    refine (List.Perm.cons x ih).trans ?_
    exact (List.perm_append_singleton x r.reverse).symm
variable {L : List Int} {i : Nat} (hi : i < L.length)
include hi
theorem R_length : (isR cf (L.take i)).length = i := by rw [isR_length, List.length_take]; omega
theorem mid_len {j : Nat} (hj : j ≤ i) : (midL cf L i j).length = L.length := by
  have := R_length cf hi
  simp only [midL, List.length_append, List.length_cons, List.length_take, List.length_drop]; omega
theorem mid_at {j : Nat} (hj : j ≤ i) : (midL cf L i j).getD j 0 = L.getD i 0 := by
  have := R_length cf hi
  have hl : ((isR cf (L.take i)).take j).length = j := by rw [List.length_take]; omega
  rw [midL, List.getD_eq_getElem?_getD, List.getElem?_append_right (by omega), hl, Nat.sub_self]; rfl
theorem mid_before {j : Nat} (hj : j ≤ i) (h0 : 0 < j) : (midL cf L i j).getD (j - 1) 0 = (isR cf (L.take i)).getD (j - 1) 0 := by
  have := R_length cf hi
  have hl : ((isR cf (L.take i)).take j).length = j := by rw [List.length_take]; omega
  rw [midL, List.getD_eq_getElem?_getD, List.getElem?_append_left (by omega), List.getElem?_take_of_lt (by omega), List.getD_eq_getElem?_getD]
theorem mid_start : isR cf (L.take i) ++ L.drop i = midL cf L i i := by
  have := R_length cf hi
  rw [midL, List.take_of_length_le (l := isR cf (L.take i)) (by omega), show (isR cf (L.take i)).drop i = [] from List.drop_eq_nil_of_le (by omega), drop_getD 0 hi]; rfl
theorem mid_swap {j : Nat} (hj : j ≤ i) (h0 : 0 < j) : ((midL cf L i j).set j ((midL cf L i j).getD (j - 1) 0)).set (j - 1) ((midL cf L i j).getD j 0) = midL cf L i (j - 1) := by
  rw [mid_at cf hi hj, mid_before cf hi hj h0]
  have hR := R_length cf hi
  obtain ⟨k, rfl⟩ : ∃ k, j = k + 1 := ⟨j - 1, by omega⟩
  rw [Nat.add_sub_cancel]
  have ht : (isR cf (L.take i)).take (k + 1) = (isR cf (L.take i)).take k ++ [(isR cf (L.take i)).getD k 0] := take_next _ 0 (by omega)
  have hd : (isR cf (L.take i)).drop k = (isR cf (L.take i)).getD k 0 :: (isR cf (L.take i)).drop (k + 1) := drop_getD 0 (by omega)
  have hl : ((isR cf (L.take i)).take k).length = k := by rw [List.length_take]; omega
  unfold midL
  rw [ht, hd]
  generalize (isR cf (L.take i)).getD k 0 = b at *
  generalize (isR cf (L.take i)).take k = A at *
  generalize (isR cf (L.take i)).drop (k + 1) = C at *
  subst hl
  simp [List.set_append]
theorem mid_end {j : Nat} (h : insAt cf (L.getD i 0) (isR cf (L.take i)) i = j) : midL cf L i j = isR cf (L.take (i + 1)) ++ L.drop (i + 1) := by
  have hR := R_length cf hi
  rw [take_next L 0 hi, isR_snoc, insP, hR, h, midL, List.append_assoc]; rfl
end lists

theorem vInsN : cInsN.body (fun g => env [(27, c27)] (lIns (cfN g.node) g.L)) Try.f46 := by
  rw [vInsN_eq]
  rintro ⟨node, L⟩ ⟨h1, h2, h3⟩
  dsimp only at h1 h2 h3 ⊢
  have hel : ∀ (k : Nat) (y : Int), y ∈ isR (cfN node) (L.take k) → y ∈ L := fun k y hy => List.mem_of_mem_take ((isR_perm (cfN node) (L.take k)).mem_iff.1 hy)
  refine ⟨inI (by omega) (by omega), ⟨1, ⟨Nat.le_refl _, .inr rfl⟩, rfl, ⟨congrArg (LB.arr Int 0 encI) ?_, trivial⟩, trivial⟩, fun i ⟨hi1, hi2⟩ => ⟨fun hlt => ?_, fun hge => ?_⟩⟩
  · cases L with
    | nil => rfl
    | cons x r => rfl
  · have hlt : (i : Int) < L.length := of_decide_eq_true hlt
    have hi : i < L.length := by omega
    have hR := R_length (cfN node) hi
    rw [Int.toNat_natCast]
    have hx := h2 _ (getD_mem (d := 0) hi)
    refine ⟨⟨i, ⟨Nat.le_refl _, rfl⟩, rfl, ⟨congrArg (LB.arr Int 0 encI) (mid_start (cfN node) hi), trivial⟩, trivial⟩, fun j ⟨hj1, hj2⟩ => ⟨fun hp => ?_, fun hz => ?_⟩⟩
    · have hp : (j : Int) > 0 := of_decide_eq_true hp
      have hj0 : 0 < j := by omega
      have e1 : Int.toNat ((j : Int) - 1) = j - 1 := by omega
      rw [Int.toNat_natCast, e1, Nat.zero_add, Nat.zero_add]
      have B1 : 0 ≤ (j : Int) ∧ (j : Int) < L.length := ⟨by omega, by omega⟩
      have hml := mid_len (cfN node) hi hj1
      have B2 : j < (midL (cfN node) L i j).length := by omega
      have B3 : 0 ≤ (j : Int) - 1 ∧ (j : Int) - 1 < L.length := ⟨by omega, by omega⟩
      have B4 : j - 1 < (midL (cfN node) L i j).length := by omega
      have B5 : inK IntKind.i64 ((j : Int) - 1) := inI (by omega) (by omega)
      have B6 : ∀ x, j - 1 < ((midL (cfN node) L i j).set j x).length := fun x => by rw [List.length_set]; exact B4
      have hat := mid_at (cfN node) hi hj1
      have hbe := mid_before (cfN node) hi hj1 hj0
      have hb := h2 _ (hel i _ (getD_mem (d := 0) (show j - 1 < (isR (cfN node) (L.take i)).length by omega)))
      have hxa : small ((midL (cfN node) L i j).getD j 0) := by rw [hat]; exact hx
      have hxb : small ((midL (cfN node) L i j).getD (j - 1) 0) := by rw [hbe]; exact hb
      have step : ∀ k, j = k + 1 → insAt (cfN node) (L.getD i 0) (isR (cfN node) (L.take i)) j = if (cfN node) (L.getD i 0) ((isR (cfN node) (L.take i)).getD k 0) < 0 then insAt (cfN node) (L.getD i 0) (isR (cfN node) (L.take i)) k else k + 1 := fun k hk => by rw [hk]; rfl
      have step := step (j - 1) (by omega)
      have S1 : decide ((cfN node) ((midL (cfN node) L i j).getD j 0) ((midL (cfN node) L i j).getD (j - 1) 0) < 0) = true → insAt (cfN node) (L.getD i 0) (isR (cfN node) (L.take i)) (j - 1) = insAt (cfN node) (L.getD i 0) (isR (cfN node) (L.take i)) i := fun hc => by
        have hc := of_decide_eq_true hc
        rw [hat, hbe] at hc
        rw [if_pos hc] at step
        rw [← step, hj2]
      have S2 : decide ((cfN node) ((midL (cfN node) L i j).getD j 0) ((midL (cfN node) L i j).getD (j - 1) 0) < 0) = false → insAt (cfN node) (L.getD i 0) (isR (cfN node) (L.take i)) i = j := fun hc => by
        have hc := of_decide_eq_false hc
        rw [hat, hbe] at hc
        rw [if_neg hc] at step
        rw [← hj2, step]; omega
      have SW := mid_swap (cfN node) hi hj1 hj0
      refine ⟨B5, ?_⟩
      repeat' first
        | exact B1
        | exact B2
        | exact B3
        | exact B4
        | exact ⟨⟨(midL (cfN node) L i j).getD j 0, (midL (cfN node) L i j).getD (j - 1) 0, node⟩, ⟨rfl, rfl, rfl⟩, trivial, ⟨hxa, hxb, h1⟩, fun _ _ => ⟨fun hc => ⟨B5, B5, B3, B4, B1, B2, B1, B2, (midL (cfN node) L i j).getD (j - 1) 0, rfl, B3, B6 _, (midL (cfN node) L i j).getD j 0, rfl, B5, j - 1, ⟨by omega, S1 hc⟩, by omega, by omega, ⟨congrArg (LB.arr Int 0 encI) SW, trivial⟩, trivial⟩, fun hc => ⟨inI (by omega) (by omega), i + 1, ⟨by omega, .inl (by omega)⟩, by omega, by omega, ⟨congrArg (LB.arr Int 0 encI) (mid_end (cfN node) hi (S2 hc)), trivial⟩, trivial⟩⟩⟩
        | refine And.intro ?_ ?_
    · have hz := of_decide_eq_false hz
      have hj0 : j = 0 := by omega
      subst hj0
      have hd : inK IntKind.i64 ((i : Int) + 1) ∧ ∃ g' : Nat, (1 ≤ g' ∧ (g' ≤ L.length ∨ g' = 1)) ∧ L.length - g' < L.length - i ∧ (i : Int) + 1 = g' ∧ (LB.arr Int 0 encI (midL (cfN node) L i 0) = LB.arr Int 0 encI (isR (cfN node) (L.take g') ++ L.drop g') ∧ True) ∧ True :=
        ⟨inI (by omega) (by omega), i + 1, ⟨by omega, .inl (by omega)⟩, by omega, by omega, ⟨congrArg (LB.arr Int 0 encI) (mid_end (cfN node) hi hj2.symm), trivial⟩, trivial⟩
      exact ⟨hd, hd⟩
  · have hge := of_decide_eq_false hge
    have e1 : L.take i = L := List.take_of_length_le (by omega)
    have e2 : L.drop i = [] := List.drop_eq_nil_of_le (by omega)
    rw [e1, e2, List.append_nil]
    exact ⟨(), trivial, trivial, rfl, rfl, flI⟩
theorem sInsN : SpecOk P 46 cInsN.spec := spec_of cInsN (tab_cons s27 (tab_nil P)) mixed (fn := Try.f46) (by kernel_rfl) (by kernel_rfl) (by kernel_rfl) (by decide) (fun g lb _ hm => by rcases List.mem_cons.1 hm with rfl | hm; exact trivial; cases hm) vInsN

theorem vInsO : cInsO.body (fun g => env [(33, c33)] (lIns (cfO g.g) g.L)) Try.f46 := by
  rw [vInsO_eq]
  rintro ⟨g, L⟩ ⟨h1, h2, h3⟩
  dsimp only at h1 h2 h3 ⊢
  have hel : ∀ (k : Nat) (y : Int), y ∈ isR (cfO g) (L.take k) → y ∈ L := fun k y hy => List.mem_of_mem_take ((isR_perm (cfO g) (L.take k)).mem_iff.1 hy)
  refine ⟨inI (by omega) (by omega), ⟨1, ⟨Nat.le_refl _, .inr rfl⟩, rfl, ⟨congrArg (LB.arr Int 0 encI) ?_, trivial⟩, trivial⟩, fun i ⟨hi1, hi2⟩ => ⟨fun hlt => ?_, fun hge => ?_⟩⟩
  · cases L with
    | nil => rfl
    | cons x r => rfl
  · have hlt : (i : Int) < L.length := of_decide_eq_true hlt
    have hi : i < L.length := by omega
    have hR := R_length (cfO g) hi
    rw [Int.toNat_natCast]
    have hx := h2 _ (getD_mem (d := 0) hi)
    refine ⟨⟨i, ⟨Nat.le_refl _, rfl⟩, rfl, ⟨congrArg (LB.arr Int 0 encI) (mid_start (cfO g) hi), trivial⟩, trivial⟩, fun j ⟨hj1, hj2⟩ => ⟨fun hp => ?_, fun hz => ?_⟩⟩
    · have hp : (j : Int) > 0 := of_decide_eq_true hp
      have hj0 : 0 < j := by omega
      have e1 : Int.toNat ((j : Int) - 1) = j - 1 := by omega
      rw [Int.toNat_natCast, e1, Nat.zero_add, Nat.zero_add]
      have B1 : 0 ≤ (j : Int) ∧ (j : Int) < L.length := ⟨by omega, by omega⟩
      have hml := mid_len (cfO g) hi hj1
      have B2 : j < (midL (cfO g) L i j).length := by omega
      have B3 : 0 ≤ (j : Int) - 1 ∧ (j : Int) - 1 < L.length := ⟨by omega, by omega⟩
      have B4 : j - 1 < (midL (cfO g) L i j).length := by omega
      have B5 : inK IntKind.i64 ((j : Int) - 1) := inI (by omega) (by omega)
      have B6 : ∀ x, j - 1 < ((midL (cfO g) L i j).set j x).length := fun x => by rw [List.length_set]; exact B4
      have hat := mid_at (cfO g) hi hj1
      have hbe := mid_before (cfO g) hi hj1 hj0
      have hb := h2 _ (hel i _ (getD_mem (d := 0) (show j - 1 < (isR (cfO g) (L.take i)).length by omega)))
      have hxa : (fun x : Int => 0 ≤ x ∧ x < g.l.length) ((midL (cfO g) L i j).getD j 0) := by rw [hat]; exact hx
      have hxb : (fun x : Int => 0 ≤ x ∧ x < g.l.length) ((midL (cfO g) L i j).getD (j - 1) 0) := by rw [hbe]; exact hb
      have step : ∀ k, j = k + 1 → insAt (cfO g) (L.getD i 0) (isR (cfO g) (L.take i)) j = if (cfO g) (L.getD i 0) ((isR (cfO g) (L.take i)).getD k 0) < 0 then insAt (cfO g) (L.getD i 0) (isR (cfO g) (L.take i)) k else k + 1 := fun k hk => by rw [hk]; rfl
      have step := step (j - 1) (by omega)
      have S1 : decide ((cfO g) ((midL (cfO g) L i j).getD j 0) ((midL (cfO g) L i j).getD (j - 1) 0) < 0) = true → insAt (cfO g) (L.getD i 0) (isR (cfO g) (L.take i)) (j - 1) = insAt (cfO g) (L.getD i 0) (isR (cfO g) (L.take i)) i := fun hc => by
        have hc := of_decide_eq_true hc
        rw [hat, hbe] at hc
        rw [if_pos hc] at step
        rw [← step, hj2]
      have S2 : decide ((cfO g) ((midL (cfO g) L i j).getD j 0) ((midL (cfO g) L i j).getD (j - 1) 0) < 0) = false → insAt (cfO g) (L.getD i 0) (isR (cfO g) (L.take i)) i = j := fun hc => by
        have hc := of_decide_eq_false hc
        rw [hat, hbe] at hc
        rw [if_neg hc] at step
        rw [← hj2, step]; omega
      have SW := mid_swap (cfO g) hi hj1 hj0
      refine ⟨B5, ?_⟩
      repeat' first
        | exact B1
        | exact B2
        | exact B3
        | exact B4
        | exact ⟨⟨g, (midL (cfO g) L i j).getD j 0, (midL (cfO g) L i j).getD (j - 1) 0⟩, ⟨rfl, rfl, rfl⟩, trivial, ⟨h1, hxa, hxb⟩, fun _ _ => ⟨fun hc => ⟨B5, B5, B3, B4, B1, B2, B1, B2, (midL (cfO g) L i j).getD (j - 1) 0, rfl, B3, B6 _, (midL (cfO g) L i j).getD j 0, rfl, B5, j - 1, ⟨by omega, S1 hc⟩, by omega, by omega, ⟨congrArg (LB.arr Int 0 encI) SW, trivial⟩, trivial⟩, fun hc => ⟨inI (by omega) (by omega), i + 1, ⟨by omega, .inl (by omega)⟩, by omega, by omega, ⟨congrArg (LB.arr Int 0 encI) (mid_end (cfO g) hi (S2 hc)), trivial⟩, trivial⟩⟩⟩
        | refine And.intro ?_ ?_
    · have hz := of_decide_eq_false hz
      have hj0 : j = 0 := by omega
      subst hj0
      have hd : inK IntKind.i64 ((i : Int) + 1) ∧ ∃ g' : Nat, (1 ≤ g' ∧ (g' ≤ L.length ∨ g' = 1)) ∧ L.length - g' < L.length - i ∧ (i : Int) + 1 = g' ∧ (LB.arr Int 0 encI (midL (cfO g) L i 0) = LB.arr Int 0 encI (isR (cfO g) (L.take g') ++ L.drop g') ∧ True) ∧ True :=
        ⟨inI (by omega) (by omega), i + 1, ⟨by omega, .inl (by omega)⟩, by omega, by omega, ⟨congrArg (LB.arr Int 0 encI) (mid_end (cfO g) hi hj2.symm), trivial⟩, trivial⟩
      exact ⟨hd, hd⟩
  · have hge := of_decide_eq_false hge
    have e1 : L.take i = L := List.take_of_length_le (by omega)
    have e2 : L.drop i = [] := List.drop_eq_nil_of_le (by omega)
    rw [e1, e2, List.append_nil]
    exact ⟨(), trivial, trivial, rfl, rfl, flI⟩
theorem sInsO : SpecOk P 46 cInsO.spec := spec_of cInsO (tab_cons s33 (tab_nil P)) mixed (fn := Try.f46) (by kernel_rfl) (by kernel_rfl) (by kernel_rfl) (by decide) (fun g lb _ hm => by rcases List.mem_cons.1 hm with rfl | hm; exact trivial; cases hm) vInsO
end Go.Zn
