/- A PART OF THE PROOF. NO CONDITION. -/
import Derived.Test.YtnjgeljpkblodaaZnB
import Derived.Test.YtnjgeljpkblodaaSxAD
noncomputable section
set_option linter.unusedVariables false
set_option linter.unusedVariables false
set_option linter.unusedSimpArgs false
namespace Go.Zn
open Go.Proofs Go.SX
set_option maxRecDepth 100000

def stepN (l : List Z) (node : Int) (d : Nat) : List Int := (if hasZ l (node - d) = true then [node - d] else []) ++ (if d > 0 ∧ hasZ l (node + d) = true then [node + d] else [])
def nodesTo (l : List Z) (node : Int) : Nat → List Int
  | 0 => []
  | d + 1 => nodesTo l node d ++ stepN l node d
def nodesO (l : List Z) (node : Int) : List Int := if checkN l node ≠ 0 then [] else nodesTo l node 4
def cRNodes : Con := newCon (List Z × Int) Unit (fun g => [roZ g.1, I g.2]) (fun g => g.1.length ≤ 1000000000) (fun _ _ => True) (fun g _ => .tup [.sl 0 1 0 (nodesO g.1 g.2).length, I (checkN g.1 g.2)]) (fun g _ => .arr Int 0 encI (nodesO g.1 g.2))
def lRNodes (g : List Z × Int) : Loops := loop1 0 { γ := Nat, slots := [7, 8], vals := fun b d => [.sl b 1 0 (nodesTo g.1 g.2 d).length, I d], rekey := [7], blks := fun b d => [(b, .arr Int 0 encI (nodesTo g.1 g.2 d))], inv := fun d => d ≤ 4, μ := fun d => 4 - d }
theorem vRNodes_eq : (cRNodes.body (fun g => env [(14, cCheck), (30, cHas)] (lRNodes g)) Try.f16) = (∀ (g : List Z × Int), List.length (Prod.fst g) ≤ (1000000000 : Nat) → ∃ (g_1 : List Z), SV.ro Z dZ encZ (Prod.fst g) = SV.ro Z dZ encZ g_1 ∧ True ∧ List.length g_1 ≤ (1000000000 :
  Nat) ∧ ∀ (b : Unit), True → ((chk g_1 != (0 : Int)) = true → ∃ (b : Unit), True ∧ (((SV.val (Value.slice none (0 : Nat) (0 : Nat)) = SV.val (Value.slice none (0 : Nat) (0 : Nat)) ∧
  (0 : Nat) = (0 : Nat) ∧ List.length (nodesO (Prod.fst g) (Prod.snd g)) = (0 : Nat)) ∧ SV.val (Value.int IntKind.i64 (chk g_1)) = SV.val (Value.int IntKind.i64 (checkN (Prod.fst g)
  (Prod.snd g)))) ∧ (∀ (x : Int), allFlat (encI x) = true) ∧ nodesO (Prod.fst g) (Prod.snd g) = [] ∧ ∀ (x : Int), (1 : Nat) = (1 : Nat) ∧ allOne (encI x) = true) ∧ (0 : Nat) = (0 :
  Nat) ∧ True) ∧ ((chk g_1 != (0 : Int)) = false → (decide (Prod.snd g < (0 : Int)) = true → ∃ (b : Unit), True ∧ (((SV.val (Value.slice none (0 : Nat) (0 : Nat)) = SV.val
  (Value.slice none (0 : Nat) (0 : Nat)) ∧ (0 : Nat) = (0 : Nat) ∧ List.length (nodesO (Prod.fst g) (Prod.snd g)) = (0 : Nat)) ∧ SV.val (Value.int IntKind.i64 (2 : Int)) = SV.val
  (Value.int IntKind.i64 (checkN (Prod.fst g) (Prod.snd g)))) ∧ (∀ (x : Int), allFlat (encI x) = true) ∧ nodesO (Prod.fst g) (Prod.snd g) = [] ∧ ∀ (x : Int), (1 : Nat) = (1 : Nat) ∧
  allOne (encI x) = true) ∧ (0 : Nat) = (0 : Nat) ∧ True) ∧ (decide (Prod.snd g < (0 : Int)) = false → (decide (Prod.snd g ≥ (4 : Int)) = true → ∃ (b : Unit), True ∧ (((SV.val
  (Value.slice none (0 : Nat) (0 : Nat)) = SV.val (Value.slice none (0 : Nat) (0 : Nat)) ∧ (0 : Nat) = (0 : Nat) ∧ List.length (nodesO (Prod.fst g) (Prod.snd g)) = (0 : Nat)) ∧
  SV.val (Value.int IntKind.i64 (2 : Int)) = SV.val (Value.int IntKind.i64 (checkN (Prod.fst g) (Prod.snd g)))) ∧ (∀ (x : Int), allFlat (encI x) = true) ∧ nodesO (Prod.fst g)
  (Prod.snd g) = [] ∧ ∀ (x : Int), (1 : Nat) = (1 : Nat) ∧ allOne (encI x) = true) ∧ (0 : Nat) = (0 : Nat) ∧ True) ∧ (decide (Prod.snd g ≥ (4 : Int)) = false → (∃ (g_2 : Nat), g_2 ≤
  (4 : Nat) ∧ (((0 : Nat) = (0 : Nat) ∧ List.length (nodesTo (Prod.fst g) (Prod.snd g) g_2) = (0 : Nat)) ∧ (0 : Int) = (↑g_2 : Int)) ∧ ((nodesTo (Prod.fst g) (Prod.snd g) g_2 = [] ∧
  ∀ (x : Int), (1 : Nat) = (1 : Nat) ∧ allOne (encI x) = true) ∧ True) ∧ True) ∧ ∀ (g_2 : Nat), g_2 ≤ (4 : Nat) → (decide ((↑g_2 : Int) < (4 : Int)) = true → inK IntKind.i64
  (Prod.snd g - (↑g_2 : Int)) ∧ ∃ (g_3 : List Z × Int), (SV.ro Z dZ encZ (Prod.fst g) = SV.ro Z dZ encZ (Prod.fst g_3) ∧ SV.val (Value.int IntKind.i64 (Prod.snd g - (↑g_2 : Int))) =
  SV.val (Value.int IntKind.i64 (Prod.snd g_3))) ∧ True ∧ List.length (Prod.fst g_3) ≤ (1000000000 : Nat) ∧ ∀ (b : Unit), True → (hasZ (Prod.fst g_3) (Prod.snd g_3) = true → inK
  IntKind.i64 (Prod.snd g - (↑g_2 : Int)) ∧ (0 : Nat) + List.length (nodesTo (Prod.fst g) (Prod.snd g) g_2) ≤ List.length (nodesTo (Prod.fst g) (Prod.snd g) g_2) ∧ ∃ (ys : List Int),
  [[SV.val (Value.int IntKind.i64 (Prod.snd g - (↑g_2 : Int)))]] = List.map encI ys ∧ (List.length (nodesTo (Prod.fst g) (Prod.snd g) g_2) + List.length ys) * (8 : Nat) ≤
  (140737488355328 : Nat) ∧ (decide ((↑g_2 : Int) > (0 : Int)) = true → inK IntKind.i64 (Prod.snd g + (↑g_2 : Int)) ∧ ∃ (g_4 : List Z × Int), (SV.ro Z dZ encZ (Prod.fst g) = SV.ro Z
  dZ encZ (Prod.fst g_4) ∧ SV.val (Value.int IntKind.i64 (Prod.snd g + (↑g_2 : Int))) = SV.val (Value.int IntKind.i64 (Prod.snd g_4))) ∧ True ∧ List.length (Prod.fst g_4) ≤
  (1000000000 : Nat) ∧ ∀ (b : Unit), True → (hasZ (Prod.fst g_4) (Prod.snd g_4) = true → inK IntKind.i64 (Prod.snd g + (↑g_2 : Int)) ∧ (0 : Nat) + (List.length (nodesTo (Prod.fst g)
  (Prod.snd g) g_2) + List.length ys) ≤ List.length (List.take (List.length (nodesTo (Prod.fst g) (Prod.snd g) g_2)) (List.drop (0 : Nat) (nodesTo (Prod.fst g) (Prod.snd g) g_2)) ++
  ys) ∧ ∃ (ys_1 : List Int), [[SV.val (Value.int IntKind.i64 (Prod.snd g + (↑g_2 : Int)))]] = List.map encI ys_1 ∧ (List.length (nodesTo (Prod.fst g) (Prod.snd g) g_2) + List.length
  ys + List.length ys_1) * (8 : Nat) ≤ (140737488355328 : Nat) ∧ inK IntKind.i64 ((↑g_2 : Int) + (1 : Int)) ∧ ∃ (g' : Nat), g' ≤ (4 : Nat) ∧ (4 : Nat) - g' < (4 : Nat) - g_2 ∧ (((1 :
  Nat) = (1 : Nat) ∧ (0 : Nat) = (0 : Nat) ∧ List.length (nodesTo (Prod.fst g) (Prod.snd g) g_2) + List.length ys + List.length ys_1 = List.length (nodesTo (Prod.fst g) (Prod.snd g)
  g')) ∧ (↑g_2 : Int) + (1 : Int) = (↑g' : Int)) ∧ (LB.arr Int (0 : Int) encI (List.take (List.length (nodesTo (Prod.fst g) (Prod.snd g) g_2) + List.length ys) (List.drop (0 : Nat)
  (List.take (List.length (nodesTo (Prod.fst g) (Prod.snd g) g_2)) (List.drop (0 : Nat) (nodesTo (Prod.fst g) (Prod.snd g) g_2)) ++ ys)) ++ ys_1) = LB.arr Int (0 : Int) encI (nodesTo
  (Prod.fst g) (Prod.snd g) g') ∧ True) ∧ True) ∧ (hasZ (Prod.fst g_4) (Prod.snd g_4) = false → inK IntKind.i64 ((↑g_2 : Int) + (1 : Int)) ∧ ∃ (g' : Nat), g' ≤ (4 : Nat) ∧ (4 : Nat)
  - g' < (4 : Nat) - g_2 ∧ (((1 : Nat) = (1 : Nat) ∧ (0 : Nat) = (0 : Nat) ∧ List.length (nodesTo (Prod.fst g) (Prod.snd g) g_2) + List.length ys = List.length (nodesTo (Prod.fst g)
  (Prod.snd g) g')) ∧ (↑g_2 : Int) + (1 : Int) = (↑g' : Int)) ∧ (LB.arr Int (0 : Int) encI (List.take (List.length (nodesTo (Prod.fst g) (Prod.snd g) g_2)) (List.drop (0 : Nat)
  (nodesTo (Prod.fst g) (Prod.snd g) g_2)) ++ ys) = LB.arr Int (0 : Int) encI (nodesTo (Prod.fst g) (Prod.snd g) g') ∧ True) ∧ True)) ∧ (decide ((↑g_2 : Int) > (0 : Int)) = false →
  inK IntKind.i64 ((↑g_2 : Int) + (1 : Int)) ∧ ∃ (g' : Nat), g' ≤ (4 : Nat) ∧ (4 : Nat) - g' < (4 : Nat) - g_2 ∧ (((1 : Nat) = (1 : Nat) ∧ (0 : Nat) = (0 : Nat) ∧ List.length
  (nodesTo (Prod.fst g) (Prod.snd g) g_2) + List.length ys = List.length (nodesTo (Prod.fst g) (Prod.snd g) g')) ∧ (↑g_2 : Int) + (1 : Int) = (↑g' : Int)) ∧ (LB.arr Int (0 : Int)
  encI (List.take (List.length (nodesTo (Prod.fst g) (Prod.snd g) g_2)) (List.drop (0 : Nat) (nodesTo (Prod.fst g) (Prod.snd g) g_2)) ++ ys) = LB.arr Int (0 : Int) encI (nodesTo
  (Prod.fst g) (Prod.snd g) g') ∧ True) ∧ True)) ∧ (hasZ (Prod.fst g_3) (Prod.snd g_3) = false → (decide ((↑g_2 : Int) > (0 : Int)) = true → inK IntKind.i64 (Prod.snd g + (↑g_2 :
  Int)) ∧ ∃ (g_4 : List Z × Int), (SV.ro Z dZ encZ (Prod.fst g) = SV.ro Z dZ encZ (Prod.fst g_4) ∧ SV.val (Value.int IntKind.i64 (Prod.snd g + (↑g_2 : Int))) = SV.val (Value.int
  IntKind.i64 (Prod.snd g_4))) ∧ True ∧ List.length (Prod.fst g_4) ≤ (1000000000 : Nat) ∧ ∀ (b : Unit), True → (hasZ (Prod.fst g_4) (Prod.snd g_4) = true → inK IntKind.i64 (Prod.snd
  g + (↑g_2 : Int)) ∧ (0 : Nat) + List.length (nodesTo (Prod.fst g) (Prod.snd g) g_2) ≤ List.length (nodesTo (Prod.fst g) (Prod.snd g) g_2) ∧ ∃ (ys : List Int), [[SV.val (Value.int
  IntKind.i64 (Prod.snd g + (↑g_2 : Int)))]] = List.map encI ys ∧ (List.length (nodesTo (Prod.fst g) (Prod.snd g) g_2) + List.length ys) * (8 : Nat) ≤ (140737488355328 : Nat) ∧ inK
  IntKind.i64 ((↑g_2 : Int) + (1 : Int)) ∧ ∃ (g' : Nat), g' ≤ (4 : Nat) ∧ (4 : Nat) - g' < (4 : Nat) - g_2 ∧ (((1 : Nat) = (1 : Nat) ∧ (0 : Nat) = (0 : Nat) ∧ List.length (nodesTo
  (Prod.fst g) (Prod.snd g) g_2) + List.length ys = List.length (nodesTo (Prod.fst g) (Prod.snd g) g')) ∧ (↑g_2 : Int) + (1 : Int) = (↑g' : Int)) ∧ (LB.arr Int (0 : Int) encI
  (List.take (List.length (nodesTo (Prod.fst g) (Prod.snd g) g_2)) (List.drop (0 : Nat) (nodesTo (Prod.fst g) (Prod.snd g) g_2)) ++ ys) = LB.arr Int (0 : Int) encI (nodesTo (Prod.fst
  g) (Prod.snd g) g') ∧ True) ∧ True) ∧ (hasZ (Prod.fst g_4) (Prod.snd g_4) = false → inK IntKind.i64 ((↑g_2 : Int) + (1 : Int)) ∧ ∃ (g' : Nat), g' ≤ (4 : Nat) ∧ (4 : Nat) - g' < (4
  : Nat) - g_2 ∧ (((1 : Nat) = (1 : Nat) ∧ (0 : Nat) = (0 : Nat) ∧ List.length (nodesTo (Prod.fst g) (Prod.snd g) g_2) = List.length (nodesTo (Prod.fst g) (Prod.snd g) g')) ∧ (↑g_2 :
  Int) + (1 : Int) = (↑g' : Int)) ∧ (LB.arr Int (0 : Int) encI (nodesTo (Prod.fst g) (Prod.snd g) g_2) = LB.arr Int (0 : Int) encI (nodesTo (Prod.fst g) (Prod.snd g) g') ∧ True) ∧
  True)) ∧ (decide ((↑g_2 : Int) > (0 : Int)) = false → inK IntKind.i64 ((↑g_2 : Int) + (1 : Int)) ∧ ∃ (g' : Nat), g' ≤ (4 : Nat) ∧ (4 : Nat) - g' < (4 : Nat) - g_2 ∧ (((1 : Nat) =
  (1 : Nat) ∧ (0 : Nat) = (0 : Nat) ∧ List.length (nodesTo (Prod.fst g) (Prod.snd g) g_2) = List.length (nodesTo (Prod.fst g) (Prod.snd g) g')) ∧ (↑g_2 : Int) + (1 : Int) = (↑g' :
  Int)) ∧ (LB.arr Int (0 : Int) encI (nodesTo (Prod.fst g) (Prod.snd g) g_2) = LB.arr Int (0 : Int) encI (nodesTo (Prod.fst g) (Prod.snd g) g') ∧ True) ∧ True))) ∧ (decide ((↑g_2 :
  Int) < (4 : Int)) = false → ∃ (b : Unit), True ∧ (((SV.sl (128 : Nat) (1 : Nat) (0 : Nat) (List.length (nodesTo (Prod.fst g) (Prod.snd g) g_2)) = SV.sl (128 : Nat) (1 : Nat) (0 :
  Nat) (List.length (nodesTo (Prod.fst g) (Prod.snd g) g_2)) ∧ (0 : Nat) = (0 : Nat) ∧ (1 : Nat) = (1 : Nat) ∧ List.length (nodesTo (Prod.fst g) (Prod.snd g) g_2) = List.length
  (nodesO (Prod.fst g) (Prod.snd g))) ∧ SV.val (Value.int IntKind.i64 (0 : Int)) = SV.val (Value.int IntKind.i64 (checkN (Prod.fst g) (Prod.snd g)))) ∧ (∀ (x : Int), allFlat (encI x)
  = true) ∧ (0 : Nat) + List.length (nodesTo (Prod.fst g) (Prod.snd g) g_2) ≤ List.length (nodesTo (Prod.fst g) (Prod.snd g) g_2) ∧ LB.arr Int (0 : Int) encI (List.take (List.length
  (nodesTo (Prod.fst g) (Prod.snd g) g_2)) (List.drop (0 : Nat) (nodesTo (Prod.fst g) (Prod.snd g) g_2))) = LB.arr Int (0 : Int) encI (nodesO (Prod.fst g) (Prod.snd g))) ∧ (0 : Nat)
  = (0 : Nat) ∧ True))))) := by kernel_rfl

def idxs (f : Z → Bool) (l : List Z) : Nat → List Int
  | 0 => []
  | i + 1 => idxs f l i ++ if f (l.getD i dZ) = true then [(i : Int)] else []
def movF (nd : Int) (z : Z) : Bool := z.node == nd && z.kind == 1
def norF (nd : Int) (z : Z) : Bool := z.node == nd && z.kind == 0
def lim (l : List Z) (kernel : Bool) : Nat := if kernel = true then 0 else l.length
def seg (l : List Z) (kernel : Bool) (nd : Int) : List Int := idxs (movF nd) l (lim l kernel) ++ idxs (norF nd) l l.length
def ordTo (l : List Z) (kernel : Bool) (L : List Int) : Nat → List Int
  | 0 => []
  | n + 1 => ordTo l kernel L n ++ seg l kernel (L.getD n 0)
def ordO (l : List Z) (node : Int) (kernel : Bool) : List Int := if checkN l node ≠ 0 then [] else ordTo l kernel (nodesO l node) (nodesO l node).length
structure GO where
  l : List Z
  node : Int
  kernel : Bool
def cROrder : Con := newCon GO Unit (fun g => [roZ g.l, I g.node, Bo g.kernel]) (fun g => g.l.length ≤ 1000000000) (fun _ _ => True) (fun g _ => .tup [.sl 0 1 0 (ordO g.l g.node g.kernel).length, I (checkN g.l g.node)]) (fun g _ => .arr Int 0 encI (ordO g.l g.node g.kernel))
def withInt (st : St) (i : Nat) (K : Int → Option LoopAnn) : Option LoopAnn := match getSlot st.tmps i with | .val (.int _ x) => K x | _ => none
def segA (g : GO) (n : Nat) (i : Nat) : List Int := ordTo g.l g.kernel (nodesO g.l g.node) n ++ idxs (movF ((nodesO g.l g.node).getD n 0)) g.l i
def segB (g : GO) (n : Nat) (i : Nat) : List Int := segA g n (lim g.l g.kernel) ++ idxs (norF ((nodesO g.l g.node).getD n 0)) g.l i
def lROrder (g : GO) : Loops := fun id st => match Nat.beq id 0, Nat.beq id 2, Nat.beq id 4 with
  | true, _, _ => some { γ := Nat, slots := [10, 11], vals := fun b n => [.sl b 1 0 (ordTo g.l g.kernel (nodesO g.l g.node) n).length, I n], rekey := [10], blks := fun b n => [(b, .arr Int 0 encI (ordTo g.l g.kernel (nodesO g.l g.node) n))], inv := fun n => n ≤ (nodesO g.l g.node).length, μ := fun n => (nodesO g.l g.node).length - n }
  | _, true, _ => withInt st 11 fun n => some { γ := Nat, slots := [10, 12], vals := fun b i => [.sl b 1 0 (segA g n.toNat i).length, I i], rekey := [10], blks := fun b i => [(b, .arr Int 0 encI (segA g n.toNat i))], inv := fun i => i ≤ lim g.l g.kernel, μ := fun i => g.l.length - i }
  | _, _, true => withInt st 11 fun n => some { γ := Nat, slots := [10, 13], vals := fun b i => [.sl b 1 0 (segB g n.toNat i).length, I i], rekey := [10], blks := fun b i => [(b, .arr Int 0 encI (segB g n.toNat i))], inv := fun i => i ≤ g.l.length, μ := fun i => g.l.length - i }
  | _, _, _ => none
theorem vROrder_eq : (cROrder.body (fun g => env [(16, cRNodes)] (lROrder g)) Try.f18) = (∀ (g : GO), List.length (GO.l g) ≤ (1000000000 : Nat) → ∃ (g_1 : List Z × Int), (SV.ro Z dZ encZ (GO.l g) = SV.ro Z dZ encZ (Prod.fst g_1) ∧ SV.val (Value.int IntKind.i64 (GO.node
  g)) = SV.val (Value.int IntKind.i64 (Prod.snd g_1))) ∧ True ∧ List.length (Prod.fst g_1) ≤ (1000000000 : Nat) ∧ ∀ (b : Unit), True → ((checkN (Prod.fst g_1) (Prod.snd g_1) != (0 :
  Int)) = true → ∃ (b : Unit), True ∧ (((SV.val (Value.slice none (0 : Nat) (0 : Nat)) = SV.val (Value.slice none (0 : Nat) (0 : Nat)) ∧ (0 : Nat) = (0 : Nat) ∧ List.length (ordO
  (GO.l g) (GO.node g) (GO.kernel g)) = (0 : Nat)) ∧ SV.val (Value.int IntKind.i64 (checkN (Prod.fst g_1) (Prod.snd g_1))) = SV.val (Value.int IntKind.i64 (checkN (GO.l g) (GO.node
  g)))) ∧ (∀ (x : Int), allFlat (encI x) = true) ∧ ordO (GO.l g) (GO.node g) (GO.kernel g) = [] ∧ ∀ (x : Int), (1 : Nat) = (1 : Nat) ∧ allOne (encI x) = true) ∧ (0 : Nat) = (0 : Nat)
  ∧ True) ∧ ((checkN (Prod.fst g_1) (Prod.snd g_1) != (0 : Int)) = false → (∃ (g_2 : Nat), g_2 ≤ List.length (nodesO (GO.l g) (GO.node g)) ∧ (((0 : Nat) = (0 : Nat) ∧ List.length
  (ordTo (GO.l g) (GO.kernel g) (nodesO (GO.l g) (GO.node g)) g_2) = (0 : Nat)) ∧ (0 : Int) = (↑g_2 : Int)) ∧ ((ordTo (GO.l g) (GO.kernel g) (nodesO (GO.l g) (GO.node g)) g_2 = [] ∧
  ∀ (x : Int), (1 : Nat) = (1 : Nat) ∧ allOne (encI x) = true) ∧ True) ∧ LB.arr Int (0 : Int) encI (nodesO (Prod.fst g_1) (Prod.snd g_1)) = LB.arr Int (0 : Int) encI (nodesO
  (Prod.fst g_1) (Prod.snd g_1)) ∧ True) ∧ ∀ (g_2 : Nat), g_2 ≤ List.length (nodesO (GO.l g) (GO.node g)) → (decide ((↑g_2 : Int) < (↑(List.length (nodesO (Prod.fst g_1) (Prod.snd
  g_1))) : Int)) = true → (∃ (g_3 : Nat), g_3 ≤ lim (GO.l g) (GO.kernel g) ∧ (((1 : Nat) = (1 : Nat) ∧ (0 : Nat) = (0 : Nat) ∧ List.length (ordTo (GO.l g) (GO.kernel g) (nodesO (GO.l
  g) (GO.node g)) g_2) = List.length (segA g (Int.toNat (↑g_2 : Int)) g_3)) ∧ (0 : Int) = (↑g_3 : Int)) ∧ (LB.arr Int (0 : Int) encI (ordTo (GO.l g) (GO.kernel g) (nodesO (GO.l g)
  (GO.node g)) g_2) = LB.arr Int (0 : Int) encI (segA g (Int.toNat (↑g_2 : Int)) g_3) ∧ True) ∧ LB.arr Int (0 : Int) encI (nodesO (Prod.fst g_1) (Prod.snd g_1)) = LB.arr Int (0 :
  Int) encI (nodesO (Prod.fst g_1) (Prod.snd g_1)) ∧ True) ∧ ∀ (g_3 : Nat), g_3 ≤ lim (GO.l g) (GO.kernel g) → (decide ((↑g_3 : Int) < (↑(List.length (GO.l g)) : Int)) = true →
  ((!GO.kernel g) = true → ((0 : Int) ≤ (↑g_3 : Int) ∧ (↑g_3 : Int) < (↑(List.length (GO.l g)) : Int)) ∧ Int.toNat (↑g_3 : Int) < List.length (GO.l g) ∧ ((0 : Int) ≤ (↑g_2 : Int) ∧
  (↑g_2 : Int) < (↑(List.length (nodesO (Prod.fst g_1) (Prod.snd g_1))) : Int)) ∧ (0 : Nat) + Int.toNat (↑g_2 : Int) < List.length (nodesO (Prod.fst g_1) (Prod.snd g_1)) ∧ ((Z.node
  (List.getD (GO.l g) (Int.toNat (↑g_3 : Int)) dZ) == List.getD (nodesO (Prod.fst g_1) (Prod.snd g_1)) ((0 : Nat) + Int.toNat (↑g_2 : Int)) (0 : Int)) = true → ((0 : Int) ≤ (↑g_3 :
  Int) ∧ (↑g_3 : Int) < (↑(List.length (GO.l g)) : Int)) ∧ Int.toNat (↑g_3 : Int) < List.length (GO.l g) ∧ ((Z.kind (List.getD (GO.l g) (Int.toNat (↑g_3 : Int)) dZ) == (1 : Int)) =
  true → (0 : Nat) + List.length (segA g (Int.toNat (↑g_2 : Int)) g_3) ≤ List.length (segA g (Int.toNat (↑g_2 : Int)) g_3) ∧ ∃ (ys : List Int), [[SV.val (Value.int IntKind.i64 (↑g_3
  : Int))]] = List.map encI ys ∧ (List.length (segA g (Int.toNat (↑g_2 : Int)) g_3) + List.length ys) * (8 : Nat) ≤ (140737488355328 : Nat) ∧ inK IntKind.i64 ((↑g_3 : Int) + (1 :
  Int)) ∧ ∃ (g' : Nat), g' ≤ lim (GO.l g) (GO.kernel g) ∧ List.length (GO.l g) - g' < List.length (GO.l g) - g_3 ∧ (((1 : Nat) = (1 : Nat) ∧ (0 : Nat) = (0 : Nat) ∧ List.length (segA
  g (Int.toNat (↑g_2 : Int)) g_3) + List.length ys = List.length (segA g (Int.toNat (↑g_2 : Int)) g')) ∧ (↑g_3 : Int) + (1 : Int) = (↑g' : Int)) ∧ (LB.arr Int (0 : Int) encI
  (List.take (List.length (segA g (Int.toNat (↑g_2 : Int)) g_3)) (List.drop (0 : Nat) (segA g (Int.toNat (↑g_2 : Int)) g_3)) ++ ys) = LB.arr Int (0 : Int) encI (segA g (Int.toNat
  (↑g_2 : Int)) g') ∧ True) ∧ LB.arr Int (0 : Int) encI (nodesO (Prod.fst g_1) (Prod.snd g_1)) = LB.arr Int (0 : Int) encI (nodesO (Prod.fst g_1) (Prod.snd g_1)) ∧ True) ∧ ((Z.kind
  (List.getD (GO.l g) (Int.toNat (↑g_3 : Int)) dZ) == (1 : Int)) = false → inK IntKind.i64 ((↑g_3 : Int) + (1 : Int)) ∧ ∃ (g' : Nat), g' ≤ lim (GO.l g) (GO.kernel g) ∧ List.length
  (GO.l g) - g' < List.length (GO.l g) - g_3 ∧ (((1 : Nat) = (1 : Nat) ∧ (0 : Nat) = (0 : Nat) ∧ List.length (segA g (Int.toNat (↑g_2 : Int)) g_3) = List.length (segA g (Int.toNat
  (↑g_2 : Int)) g')) ∧ (↑g_3 : Int) + (1 : Int) = (↑g' : Int)) ∧ (LB.arr Int (0 : Int) encI (segA g (Int.toNat (↑g_2 : Int)) g_3) = LB.arr Int (0 : Int) encI (segA g (Int.toNat (↑g_2
  : Int)) g') ∧ True) ∧ LB.arr Int (0 : Int) encI (nodesO (Prod.fst g_1) (Prod.snd g_1)) = LB.arr Int (0 : Int) encI (nodesO (Prod.fst g_1) (Prod.snd g_1)) ∧ True)) ∧ ((Z.node
  (List.getD (GO.l g) (Int.toNat (↑g_3 : Int)) dZ) == List.getD (nodesO (Prod.fst g_1) (Prod.snd g_1)) ((0 : Nat) + Int.toNat (↑g_2 : Int)) (0 : Int)) = false → inK IntKind.i64
  ((↑g_3 : Int) + (1 : Int)) ∧ ∃ (g' : Nat), g' ≤ lim (GO.l g) (GO.kernel g) ∧ List.length (GO.l g) - g' < List.length (GO.l g) - g_3 ∧ (((1 : Nat) = (1 : Nat) ∧ (0 : Nat) = (0 :
  Nat) ∧ List.length (segA g (Int.toNat (↑g_2 : Int)) g_3) = List.length (segA g (Int.toNat (↑g_2 : Int)) g')) ∧ (↑g_3 : Int) + (1 : Int) = (↑g' : Int)) ∧ (LB.arr Int (0 : Int) encI
  (segA g (Int.toNat (↑g_2 : Int)) g_3) = LB.arr Int (0 : Int) encI (segA g (Int.toNat (↑g_2 : Int)) g') ∧ True) ∧ LB.arr Int (0 : Int) encI (nodesO (Prod.fst g_1) (Prod.snd g_1)) =
  LB.arr Int (0 : Int) encI (nodesO (Prod.fst g_1) (Prod.snd g_1)) ∧ True)) ∧ ((!GO.kernel g) = false → (∃ (g_4 : Nat), g_4 ≤ List.length (GO.l g) ∧ (((1 : Nat) = (1 : Nat) ∧ (0 :
  Nat) = (0 : Nat) ∧ List.length (segA g (Int.toNat (↑g_2 : Int)) g_3) = List.length (segB g (Int.toNat (↑g_2 : Int)) g_4)) ∧ (0 : Int) = (↑g_4 : Int)) ∧ (LB.arr Int (0 : Int) encI
  (segA g (Int.toNat (↑g_2 : Int)) g_3) = LB.arr Int (0 : Int) encI (segB g (Int.toNat (↑g_2 : Int)) g_4) ∧ True) ∧ LB.arr Int (0 : Int) encI (nodesO (Prod.fst g_1) (Prod.snd g_1)) =
  LB.arr Int (0 : Int) encI (nodesO (Prod.fst g_1) (Prod.snd g_1)) ∧ True) ∧ ∀ (g_4 : Nat), g_4 ≤ List.length (GO.l g) → (decide ((↑g_4 : Int) < (↑(List.length (GO.l g)) : Int)) =
  true → ((0 : Int) ≤ (↑g_4 : Int) ∧ (↑g_4 : Int) < (↑(List.length (GO.l g)) : Int)) ∧ Int.toNat (↑g_4 : Int) < List.length (GO.l g) ∧ ((0 : Int) ≤ (↑g_2 : Int) ∧ (↑g_2 : Int) <
  (↑(List.length (nodesO (Prod.fst g_1) (Prod.snd g_1))) : Int)) ∧ (0 : Nat) + Int.toNat (↑g_2 : Int) < List.length (nodesO (Prod.fst g_1) (Prod.snd g_1)) ∧ ((Z.node (List.getD (GO.l
  g) (Int.toNat (↑g_4 : Int)) dZ) == List.getD (nodesO (Prod.fst g_1) (Prod.snd g_1)) ((0 : Nat) + Int.toNat (↑g_2 : Int)) (0 : Int)) = true → ((0 : Int) ≤ (↑g_4 : Int) ∧ (↑g_4 :
  Int) < (↑(List.length (GO.l g)) : Int)) ∧ Int.toNat (↑g_4 : Int) < List.length (GO.l g) ∧ ((Z.kind (List.getD (GO.l g) (Int.toNat (↑g_4 : Int)) dZ) == (0 : Int)) = true → (0 : Nat)
  + List.length (segB g (Int.toNat (↑g_2 : Int)) g_4) ≤ List.length (segB g (Int.toNat (↑g_2 : Int)) g_4) ∧ ∃ (ys : List Int), [[SV.val (Value.int IntKind.i64 (↑g_4 : Int))]] =
  List.map encI ys ∧ (List.length (segB g (Int.toNat (↑g_2 : Int)) g_4) + List.length ys) * (8 : Nat) ≤ (140737488355328 : Nat) ∧ inK IntKind.i64 ((↑g_4 : Int) + (1 : Int)) ∧ ∃ (g' :
  Nat), g' ≤ List.length (GO.l g) ∧ List.length (GO.l g) - g' < List.length (GO.l g) - g_4 ∧ (((1 : Nat) = (1 : Nat) ∧ (0 : Nat) = (0 : Nat) ∧ List.length (segB g (Int.toNat (↑g_2 :
  Int)) g_4) + List.length ys = List.length (segB g (Int.toNat (↑g_2 : Int)) g')) ∧ (↑g_4 : Int) + (1 : Int) = (↑g' : Int)) ∧ (LB.arr Int (0 : Int) encI (List.take (List.length (segB
  g (Int.toNat (↑g_2 : Int)) g_4)) (List.drop (0 : Nat) (segB g (Int.toNat (↑g_2 : Int)) g_4)) ++ ys) = LB.arr Int (0 : Int) encI (segB g (Int.toNat (↑g_2 : Int)) g') ∧ True) ∧
  LB.arr Int (0 : Int) encI (nodesO (Prod.fst g_1) (Prod.snd g_1)) = LB.arr Int (0 : Int) encI (nodesO (Prod.fst g_1) (Prod.snd g_1)) ∧ True) ∧ ((Z.kind (List.getD (GO.l g)
  (Int.toNat (↑g_4 : Int)) dZ) == (0 : Int)) = false → inK IntKind.i64 ((↑g_4 : Int) + (1 : Int)) ∧ ∃ (g' : Nat), g' ≤ List.length (GO.l g) ∧ List.length (GO.l g) - g' < List.length
  (GO.l g) - g_4 ∧ (((1 : Nat) = (1 : Nat) ∧ (0 : Nat) = (0 : Nat) ∧ List.length (segB g (Int.toNat (↑g_2 : Int)) g_4) = List.length (segB g (Int.toNat (↑g_2 : Int)) g')) ∧ (↑g_4 :
  Int) + (1 : Int) = (↑g' : Int)) ∧ (LB.arr Int (0 : Int) encI (segB g (Int.toNat (↑g_2 : Int)) g_4) = LB.arr Int (0 : Int) encI (segB g (Int.toNat (↑g_2 : Int)) g') ∧ True) ∧ LB.arr
  Int (0 : Int) encI (nodesO (Prod.fst g_1) (Prod.snd g_1)) = LB.arr Int (0 : Int) encI (nodesO (Prod.fst g_1) (Prod.snd g_1)) ∧ True)) ∧ ((Z.node (List.getD (GO.l g) (Int.toNat
  (↑g_4 : Int)) dZ) == List.getD (nodesO (Prod.fst g_1) (Prod.snd g_1)) ((0 : Nat) + Int.toNat (↑g_2 : Int)) (0 : Int)) = false → inK IntKind.i64 ((↑g_4 : Int) + (1 : Int)) ∧ ∃ (g' :
  Nat), g' ≤ List.length (GO.l g) ∧ List.length (GO.l g) - g' < List.length (GO.l g) - g_4 ∧ (((1 : Nat) = (1 : Nat) ∧ (0 : Nat) = (0 : Nat) ∧ List.length (segB g (Int.toNat (↑g_2 :
  Int)) g_4) = List.length (segB g (Int.toNat (↑g_2 : Int)) g')) ∧ (↑g_4 : Int) + (1 : Int) = (↑g' : Int)) ∧ (LB.arr Int (0 : Int) encI (segB g (Int.toNat (↑g_2 : Int)) g_4) = LB.arr
  Int (0 : Int) encI (segB g (Int.toNat (↑g_2 : Int)) g') ∧ True) ∧ LB.arr Int (0 : Int) encI (nodesO (Prod.fst g_1) (Prod.snd g_1)) = LB.arr Int (0 : Int) encI (nodesO (Prod.fst
  g_1) (Prod.snd g_1)) ∧ True)) ∧ (decide ((↑g_4 : Int) < (↑(List.length (GO.l g)) : Int)) = false → inK IntKind.i64 ((↑g_2 : Int) + (1 : Int)) ∧ ∃ (g' : Nat), g' ≤ List.length
  (nodesO (GO.l g) (GO.node g)) ∧ List.length (nodesO (GO.l g) (GO.node g)) - g' < List.length (nodesO (GO.l g) (GO.node g)) - g_2 ∧ (((1 : Nat) = (1 : Nat) ∧ (0 : Nat) = (0 : Nat) ∧
  List.length (segB g (Int.toNat (↑g_2 : Int)) g_4) = List.length (ordTo (GO.l g) (GO.kernel g) (nodesO (GO.l g) (GO.node g)) g')) ∧ (↑g_2 : Int) + (1 : Int) = (↑g' : Int)) ∧ (LB.arr
  Int (0 : Int) encI (segB g (Int.toNat (↑g_2 : Int)) g_4) = LB.arr Int (0 : Int) encI (ordTo (GO.l g) (GO.kernel g) (nodesO (GO.l g) (GO.node g)) g') ∧ True) ∧ LB.arr Int (0 : Int)
  encI (nodesO (Prod.fst g_1) (Prod.snd g_1)) = LB.arr Int (0 : Int) encI (nodesO (Prod.fst g_1) (Prod.snd g_1)) ∧ True))) ∧ (decide ((↑g_3 : Int) < (↑(List.length (GO.l g)) : Int))
  = false → (∃ (g_4 : Nat), g_4 ≤ List.length (GO.l g) ∧ (((1 : Nat) = (1 : Nat) ∧ (0 : Nat) = (0 : Nat) ∧ List.length (segA g (Int.toNat (↑g_2 : Int)) g_3) = List.length (segB g
  (Int.toNat (↑g_2 : Int)) g_4)) ∧ (0 : Int) = (↑g_4 : Int)) ∧ (LB.arr Int (0 : Int) encI (segA g (Int.toNat (↑g_2 : Int)) g_3) = LB.arr Int (0 : Int) encI (segB g (Int.toNat (↑g_2 :
  Int)) g_4) ∧ True) ∧ LB.arr Int (0 : Int) encI (nodesO (Prod.fst g_1) (Prod.snd g_1)) = LB.arr Int (0 : Int) encI (nodesO (Prod.fst g_1) (Prod.snd g_1)) ∧ True) ∧ ∀ (g_4 : Nat),
  g_4 ≤ List.length (GO.l g) → (decide ((↑g_4 : Int) < (↑(List.length (GO.l g)) : Int)) = true → ((0 : Int) ≤ (↑g_4 : Int) ∧ (↑g_4 : Int) < (↑(List.length (GO.l g)) : Int)) ∧
  Int.toNat (↑g_4 : Int) < List.length (GO.l g) ∧ ((0 : Int) ≤ (↑g_2 : Int) ∧ (↑g_2 : Int) < (↑(List.length (nodesO (Prod.fst g_1) (Prod.snd g_1))) : Int)) ∧ (0 : Nat) + Int.toNat
  (↑g_2 : Int) < List.length (nodesO (Prod.fst g_1) (Prod.snd g_1)) ∧ ((Z.node (List.getD (GO.l g) (Int.toNat (↑g_4 : Int)) dZ) == List.getD (nodesO (Prod.fst g_1) (Prod.snd g_1))
  ((0 : Nat) + Int.toNat (↑g_2 : Int)) (0 : Int)) = true → ((0 : Int) ≤ (↑g_4 : Int) ∧ (↑g_4 : Int) < (↑(List.length (GO.l g)) : Int)) ∧ Int.toNat (↑g_4 : Int) < List.length (GO.l g)
  ∧ ((Z.kind (List.getD (GO.l g) (Int.toNat (↑g_4 : Int)) dZ) == (0 : Int)) = true → (0 : Nat) + List.length (segB g (Int.toNat (↑g_2 : Int)) g_4) ≤ List.length (segB g (Int.toNat
  (↑g_2 : Int)) g_4) ∧ ∃ (ys : List Int), [[SV.val (Value.int IntKind.i64 (↑g_4 : Int))]] = List.map encI ys ∧ (List.length (segB g (Int.toNat (↑g_2 : Int)) g_4) + List.length ys) *
  (8 : Nat) ≤ (140737488355328 : Nat) ∧ inK IntKind.i64 ((↑g_4 : Int) + (1 : Int)) ∧ ∃ (g' : Nat), g' ≤ List.length (GO.l g) ∧ List.length (GO.l g) - g' < List.length (GO.l g) - g_4
  ∧ (((1 : Nat) = (1 : Nat) ∧ (0 : Nat) = (0 : Nat) ∧ List.length (segB g (Int.toNat (↑g_2 : Int)) g_4) + List.length ys = List.length (segB g (Int.toNat (↑g_2 : Int)) g')) ∧ (↑g_4 :
  Int) + (1 : Int) = (↑g' : Int)) ∧ (LB.arr Int (0 : Int) encI (List.take (List.length (segB g (Int.toNat (↑g_2 : Int)) g_4)) (List.drop (0 : Nat) (segB g (Int.toNat (↑g_2 : Int))
  g_4)) ++ ys) = LB.arr Int (0 : Int) encI (segB g (Int.toNat (↑g_2 : Int)) g') ∧ True) ∧ LB.arr Int (0 : Int) encI (nodesO (Prod.fst g_1) (Prod.snd g_1)) = LB.arr Int (0 : Int) encI
  (nodesO (Prod.fst g_1) (Prod.snd g_1)) ∧ True) ∧ ((Z.kind (List.getD (GO.l g) (Int.toNat (↑g_4 : Int)) dZ) == (0 : Int)) = false → inK IntKind.i64 ((↑g_4 : Int) + (1 : Int)) ∧ ∃
  (g' : Nat), g' ≤ List.length (GO.l g) ∧ List.length (GO.l g) - g' < List.length (GO.l g) - g_4 ∧ (((1 : Nat) = (1 : Nat) ∧ (0 : Nat) = (0 : Nat) ∧ List.length (segB g (Int.toNat
  (↑g_2 : Int)) g_4) = List.length (segB g (Int.toNat (↑g_2 : Int)) g')) ∧ (↑g_4 : Int) + (1 : Int) = (↑g' : Int)) ∧ (LB.arr Int (0 : Int) encI (segB g (Int.toNat (↑g_2 : Int)) g_4)
  = LB.arr Int (0 : Int) encI (segB g (Int.toNat (↑g_2 : Int)) g') ∧ True) ∧ LB.arr Int (0 : Int) encI (nodesO (Prod.fst g_1) (Prod.snd g_1)) = LB.arr Int (0 : Int) encI (nodesO
  (Prod.fst g_1) (Prod.snd g_1)) ∧ True)) ∧ ((Z.node (List.getD (GO.l g) (Int.toNat (↑g_4 : Int)) dZ) == List.getD (nodesO (Prod.fst g_1) (Prod.snd g_1)) ((0 : Nat) + Int.toNat (↑g_2
  : Int)) (0 : Int)) = false → inK IntKind.i64 ((↑g_4 : Int) + (1 : Int)) ∧ ∃ (g' : Nat), g' ≤ List.length (GO.l g) ∧ List.length (GO.l g) - g' < List.length (GO.l g) - g_4 ∧ (((1 :
  Nat) = (1 : Nat) ∧ (0 : Nat) = (0 : Nat) ∧ List.length (segB g (Int.toNat (↑g_2 : Int)) g_4) = List.length (segB g (Int.toNat (↑g_2 : Int)) g')) ∧ (↑g_4 : Int) + (1 : Int) = (↑g' :
  Int)) ∧ (LB.arr Int (0 : Int) encI (segB g (Int.toNat (↑g_2 : Int)) g_4) = LB.arr Int (0 : Int) encI (segB g (Int.toNat (↑g_2 : Int)) g') ∧ True) ∧ LB.arr Int (0 : Int) encI
  (nodesO (Prod.fst g_1) (Prod.snd g_1)) = LB.arr Int (0 : Int) encI (nodesO (Prod.fst g_1) (Prod.snd g_1)) ∧ True)) ∧ (decide ((↑g_4 : Int) < (↑(List.length (GO.l g)) : Int)) =
  false → inK IntKind.i64 ((↑g_2 : Int) + (1 : Int)) ∧ ∃ (g' : Nat), g' ≤ List.length (nodesO (GO.l g) (GO.node g)) ∧ List.length (nodesO (GO.l g) (GO.node g)) - g' < List.length
  (nodesO (GO.l g) (GO.node g)) - g_2 ∧ (((1 : Nat) = (1 : Nat) ∧ (0 : Nat) = (0 : Nat) ∧ List.length (segB g (Int.toNat (↑g_2 : Int)) g_4) = List.length (ordTo (GO.l g) (GO.kernel
  g) (nodesO (GO.l g) (GO.node g)) g')) ∧ (↑g_2 : Int) + (1 : Int) = (↑g' : Int)) ∧ (LB.arr Int (0 : Int) encI (segB g (Int.toNat (↑g_2 : Int)) g_4) = LB.arr Int (0 : Int) encI
  (ordTo (GO.l g) (GO.kernel g) (nodesO (GO.l g) (GO.node g)) g') ∧ True) ∧ LB.arr Int (0 : Int) encI (nodesO (Prod.fst g_1) (Prod.snd g_1)) = LB.arr Int (0 : Int) encI (nodesO
  (Prod.fst g_1) (Prod.snd g_1)) ∧ True))) ∧ (decide ((↑g_2 : Int) < (↑(List.length (nodesO (Prod.fst g_1) (Prod.snd g_1))) : Int)) = false → ∃ (b : Unit), True ∧ (((SV.sl (120 :
  Nat) (1 : Nat) (0 : Nat) (List.length (ordTo (GO.l g) (GO.kernel g) (nodesO (GO.l g) (GO.node g)) g_2)) = SV.sl (120 : Nat) (1 : Nat) (0 : Nat) (List.length (ordTo (GO.l g)
  (GO.kernel g) (nodesO (GO.l g) (GO.node g)) g_2)) ∧ (0 : Nat) = (0 : Nat) ∧ (1 : Nat) = (1 : Nat) ∧ List.length (ordTo (GO.l g) (GO.kernel g) (nodesO (GO.l g) (GO.node g)) g_2) =
  List.length (ordO (GO.l g) (GO.node g) (GO.kernel g))) ∧ SV.val (Value.int IntKind.i64 (0 : Int)) = SV.val (Value.int IntKind.i64 (checkN (GO.l g) (GO.node g)))) ∧ (∀ (x : Int),
  allFlat (encI x) = true) ∧ (0 : Nat) + List.length (ordTo (GO.l g) (GO.kernel g) (nodesO (GO.l g) (GO.node g)) g_2) ≤ List.length (ordTo (GO.l g) (GO.kernel g) (nodesO (GO.l g)
  (GO.node g)) g_2) ∧ LB.arr Int (0 : Int) encI (List.take (List.length (ordTo (GO.l g) (GO.kernel g) (nodesO (GO.l g) (GO.node g)) g_2)) (List.drop (0 : Nat) (ordTo (GO.l g)
  (GO.kernel g) (nodesO (GO.l g) (GO.node g)) g_2))) = LB.arr Int (0 : Int) encI (ordO (GO.l g) (GO.node g) (GO.kernel g))) ∧ (0 : Nat) = (0 : Nat) ∧ True))) := by kernel_rfl

theorem okI' : ∀ x : Int, 1 = 1 ∧ allOne (encI x) = true := fun _ => ⟨rfl, rfl⟩
theorem flI : ∀ x : Int, allFlat (encI x) = true := fun _ => rfl
theorem checkN_bad {l : List Z} {n : Int} (h : (chk l != 0) = true) : checkN l n = chk l ∧ checkN l n ≠ 0 := by
  have h : chk l ≠ 0 := by simpa using h
  rw [checkN, if_pos h]; exact ⟨rfl, h⟩
theorem checkN_out {l : List Z} {n : Int} (h : (chk l != 0) = false) (h1 : n < 0 ∨ n ≥ 4) : checkN l n = 2 := by
  have h : chk l = 0 := by simpa using h
  rw [checkN, if_neg (by rw [h]; decide), if_pos h1]
theorem checkN_ok {l : List Z} {n : Int} (h : (chk l != 0) = false) (h1 : ¬ n < 0) (h2 : ¬ n ≥ 4) : checkN l n = 0 := by
  have h : chk l = 0 := by simpa using h
  rw [checkN, if_neg (by rw [h]; decide), if_neg (by omega)]
theorem nodesTo_small (l : List Z) (n : Int) (h : 0 ≤ n) (h4 : n < 4) : ∀ d, d ≤ 4 → (nodesTo l n d).length ≤ 2 * d
  | 0, _ => Nat.le_refl _
  | d + 1, hd => by
    have := nodesTo_small l n h h4 d (by omega)
    have hs : (stepN l n d).length ≤ 2 := by unfold stepN; split <;> split <;> simp
    rw [nodesTo, List.length_append]; omega
theorem vRNodes : cRNodes.body (fun g => env [(14, cCheck), (30, cHas)] (lRNodes g)) Try.f16 := by
  rw [vRNodes_eq]
  rintro ⟨l, n⟩ hlen
  dsimp only at hlen ⊢
  have bad : checkN l n ≠ 0 → nodesO l n = [] := fun h => by rw [nodesO, if_pos h]
  refine ⟨l, rfl, trivial, hlen, fun _ _ => ⟨fun h => ?_, fun h => ⟨fun h1 => ?_, fun h1 => ⟨fun h2 => ?_, fun h2 => ⟨⟨0, by omega, ⟨⟨rfl, rfl⟩, rfl⟩, ⟨⟨rfl, okI'⟩, trivial⟩, trivial⟩, fun d hd => ⟨fun hlt => ?_, fun hge => ?_⟩⟩⟩⟩⟩⟩
  · obtain ⟨e1, e2⟩ := checkN_bad (n := n) h
    rw [bad e2, e1]
    exact ⟨(), trivial, ⟨⟨⟨rfl, rfl, rfl⟩, rfl⟩, flI, rfl, okI'⟩, rfl, trivial⟩
  · have e1 := checkN_out (n := n) h (.inl (of_decide_eq_true h1))
    rw [bad (by rw [e1]; decide), e1]
    exact ⟨(), trivial, ⟨⟨⟨rfl, rfl, rfl⟩, rfl⟩, flI, rfl, okI'⟩, rfl, trivial⟩
  · have e1 := checkN_out (n := n) h (.inr (of_decide_eq_true h2))
    rw [bad (by rw [e1]; decide), e1]
    exact ⟨(), trivial, ⟨⟨⟨rfl, rfl, rfl⟩, rfl⟩, flI, rfl, okI'⟩, rfl, trivial⟩
  · have h1 := of_decide_eq_false h1
    have h2 := of_decide_eq_false h2
    have hlt : (d : Int) < 4 := of_decide_eq_true hlt
    have hnx : nodesTo l n (d + 1) = nodesTo l n d ++ stepN l n d := rfl
    have hsm := nodesTo_small l n (by omega) (by omega) d (by omega)
    have hst : stepN l n d = (if hasZ l (n - d) = true then [n - (d : Int)] else []) ++ (if d > 0 ∧ hasZ l (n + d) = true then [n + (d : Int)] else []) := rfl
    have nx : ∀ L : List Int, L = nodesTo l n (d + 1) → inK IntKind.i64 ((d : Int) + 1) ∧ d + 1 ≤ 4 ∧ 4 - (d + 1) < 4 - d ∧ L.length = (nodesTo l n (d + 1)).length ∧ (d : Int) + 1 = ((d + 1 : Nat) : Int) := fun L e => ⟨inI (by omega) (by omega), by omega, by omega, by rw [e], by omega⟩
    have inM : inK .i64 (n - d) := inI (by omega) (by omega)
    have inP : inK .i64 (n + d) := inI (by omega) (by omega)
    refine ⟨inM, (l, n - d), ⟨rfl, rfl⟩, trivial, hlen, fun _ _ => ⟨fun h3 => ⟨inM, Nat.le_of_eq (Nat.zero_add _), [n - d], rfl, by simp only [List.length_cons, List.length_nil]; omega, fun h4 => ⟨inP, (l, n + d), ⟨rfl, rfl⟩, trivial, hlen, fun _ _ => ⟨fun h5 => ⟨inP, ?_, [n + d], rfl, by simp only [List.length_cons, List.length_nil]; omega, ?_⟩, fun h5 => ?_⟩⟩, fun h4 => ?_⟩, fun h3 => ⟨fun h4 => ⟨inP, (l, n + d), ⟨rfl, rfl⟩, trivial, hlen, fun _ _ => ⟨fun h5 => ⟨inP, Nat.le_of_eq (Nat.zero_add _), [n + d], rfl, by simp only [List.length_cons, List.length_nil]; omega, ?_⟩, fun h5 => ?_⟩⟩, fun h4 => ?_⟩⟩⟩
    · simp
    all_goals
      have h3 : hasZ l (n - d) = _ := h3
      first
        | (have h4 : d > 0 := by have := of_decide_eq_true h4; omega
           have h5 : hasZ l (n + d) = _ := h5)
        | (have h4 : ¬ d > 0 := by have := of_decide_eq_false h4; omega)
    · rw [h3, if_pos rfl, h5, if_pos ⟨h4, rfl⟩] at hst
      rw [hst] at hnx
      obtain ⟨a, b, c, e, f⟩ := nx _ rfl
      refine ⟨a, d + 1, b, c, ⟨⟨rfl, rfl, ?_⟩, f⟩, ⟨?_, trivial⟩, trivial⟩
      · rw [hnx]; simp
      · rw [hnx]; simp [List.take_of_length_le]
    · rw [h3, if_pos rfl, h5, if_neg (fun h => by cases h.2)] at hst
      rw [hst] at hnx
      obtain ⟨a, b, c, e, f⟩ := nx _ rfl
      refine ⟨a, d + 1, b, c, ⟨⟨rfl, rfl, ?_⟩, f⟩, ⟨?_, trivial⟩, trivial⟩
      · rw [hnx]; simp
      · rw [hnx]; simp
    · rw [h3, if_pos rfl, if_neg (fun h => h4 h.1)] at hst
      rw [hst] at hnx
      obtain ⟨a, b, c, e, f⟩ := nx _ rfl
      refine ⟨a, d + 1, b, c, ⟨⟨rfl, rfl, ?_⟩, f⟩, ⟨?_, trivial⟩, trivial⟩
      · rw [hnx]; simp
      · rw [hnx]; simp
    · rw [h3, if_neg (by decide), h5, if_pos ⟨h4, rfl⟩] at hst
      rw [hst] at hnx
      obtain ⟨a, b, c, e, f⟩ := nx _ rfl
      refine ⟨a, d + 1, b, c, ⟨⟨rfl, rfl, ?_⟩, f⟩, ⟨?_, trivial⟩, trivial⟩
      · rw [hnx]; simp
      · rw [hnx]; simp
    · rw [h3, if_neg (by decide), h5, if_neg (fun h => by cases h.2)] at hst
      rw [hst] at hnx
      obtain ⟨a, b, c, e, f⟩ := nx _ rfl
      refine ⟨a, d + 1, b, c, ⟨⟨rfl, rfl, ?_⟩, f⟩, ⟨?_, trivial⟩, trivial⟩
      · rw [hnx]; simp
      · rw [hnx]; simp
    · rw [h3, if_neg (by decide), if_neg (fun h => h4 h.1)] at hst
      rw [hst] at hnx
      obtain ⟨a, b, c, e, f⟩ := nx _ rfl
      refine ⟨a, d + 1, b, c, ⟨⟨rfl, rfl, ?_⟩, f⟩, ⟨?_, trivial⟩, trivial⟩
      · rw [hnx]; simp
      · rw [hnx]; simp
  · have h1 := of_decide_eq_false h1
    have h2 := of_decide_eq_false h2
    have hge := of_decide_eq_false hge
    have e1 := checkN_ok h h1 h2
    have hd4 : d = 4 := by omega
    subst hd4
    have e2 : nodesO l n = nodesTo l n 4 := by rw [nodesO, if_neg (by rw [e1]; decide)]
    rw [e1, e2]
    refine ⟨(), trivial, ⟨⟨⟨rfl, rfl, rfl, rfl⟩, rfl⟩, flI, Nat.le_of_eq (Nat.zero_add _), ?_⟩, rfl, trivial⟩
    rw [List.drop_zero, List.take_length]
theorem sRNodes : SpecOk P 16 cRNodes.spec := spec_of cRNodes (tab_cons sRCheck (tab_cons sHas (tab_nil P))) mixed (fn := Try.f16) (by kernel_rfl) (by kernel_rfl) (by kernel_rfl) (Nat.zero_le _) (noIns fun _ => rfl) vRNodes

theorem checkN_zero {l : List Z} {n : Int} (h : checkN l n = 0) : chk l = 0 ∧ 0 ≤ n ∧ n < 4 ∧ l.length ≤ 6 := by
  unfold checkN at h
  have h0 : chk l = 0 := by
    by_cases h1 : chk l = 0
    · exact h1
    · rw [if_pos h1] at h; exact absurd h h1
  rw [if_neg (by rw [h0]; decide)] at h
  have h6 : l.length ≤ 6 := by
    by_cases h1 : l.length > 6
    · rw [chk, if_pos h1] at h0; cases h0
    · omega
  by_cases h1 : n < 0 ∨ n ≥ 4
  · rw [if_pos h1] at h; cases h
  · exact ⟨h0, by omega, by omega, h6⟩
theorem nodesO_small (l : List Z) (n : Int) : (nodesO l n).length ≤ 8 := by
  unfold nodesO
  split
  · simp
  · rename_i h
    have h : checkN l n = 0 := by simpa using h
    obtain ⟨_, h1, h2, _⟩ := checkN_zero h
    exact nodesTo_small l n h1 h2 4 (Nat.le_refl _)
theorem idxs_length (f : Z → Bool) (l : List Z) : ∀ i, (idxs f l i).length ≤ i
  | 0 => Nat.le_refl _
  | i + 1 => by
    have := idxs_length f l i
    rw [idxs, List.length_append]
    split <;> simp <;> omega
theorem lim_le (l : List Z) (k : Bool) : lim l k ≤ l.length := by unfold lim; split <;> omega
theorem ordTo_length {l : List Z} (h6 : l.length ≤ 6) (k : Bool) (L : List Int) : ∀ n, (ordTo l k L n).length ≤ n * 12
  | 0 => Nat.le_refl _
  | n + 1 => by
    have h1 := ordTo_length h6 k L n
    have h2 := idxs_length (movF (L.getD n 0)) l (lim l k)
    have h3 := idxs_length (norF (L.getD n 0)) l l.length
    have h4 := lim_le l k
    rw [ordTo, List.length_append, seg, List.length_append]; omega
theorem idxs_hit {f : Z → Bool} {l : List Z} {i : Nat} (h : f (l.getD i dZ) = true) : idxs f l (i + 1) = idxs f l i ++ [(i : Int)] := by rw [idxs, if_pos h]
theorem idxs_miss {f : Z → Bool} {l : List Z} {i : Nat} (h : f (l.getD i dZ) = false) : idxs f l (i + 1) = idxs f l i := by rw [idxs, if_neg (by rw [h]; decide), List.append_nil]
theorem vROrder : cROrder.body (fun g => env [(16, cRNodes)] (lROrder g)) Try.f18 := by
  rw [vROrder_eq]
  rintro ⟨l, node, k⟩ hlen
  dsimp only at hlen ⊢
  refine ⟨(l, node), ⟨rfl, rfl⟩, trivial, hlen, fun _ _ => ⟨fun h => ?_, fun h => ⟨⟨0, Nat.zero_le _, ⟨⟨rfl, rfl⟩, rfl⟩, ⟨⟨rfl, okI'⟩, trivial⟩, rfl, trivial⟩, fun n hn => ⟨fun hlt => ?_, fun hge => ?_⟩⟩⟩⟩
  · have h : checkN l node ≠ 0 := by simpa using h
    have e : ordO l node k = [] := by rw [ordO, if_pos h]
    rw [e]
    exact ⟨(), trivial, ⟨⟨⟨rfl, rfl, rfl⟩, rfl⟩, flI, rfl, okI'⟩, rfl, trivial⟩
  · have h : checkN l node = 0 := by simpa using h
    obtain ⟨_, _, _, h6⟩ := checkN_zero h
    have hlt : (n : Int) < ((nodesO l node).length : Int) := of_decide_eq_true hlt
    have hn8 := nodesO_small l node
    have hlim := lim_le l k
    rw [Int.toNat_natCast]
    generalize hLL : nodesO l node = L at *
    have hot := ordTo_length h6 k L n
    have eA : ∀ i, segA ⟨l, node, k⟩ n i = ordTo l k L n ++ idxs (movF (L.getD n 0)) l i := fun i => by rw [segA, hLL]
    have eB : ∀ i, segB ⟨l, node, k⟩ n i = segA ⟨l, node, k⟩ n (lim l k) ++ idxs (norF (L.getD n 0)) l i := fun i => by rw [segB, hLL]
    have lA : ∀ i, i ≤ l.length → (segA ⟨l, node, k⟩ n i).length ≤ 102 := fun i hi => by
      have := idxs_length (movF (L.getD n 0)) l i
      rw [eA, List.length_append]; omega
    have lB : ∀ i, i ≤ l.length → (segB ⟨l, node, k⟩ n i).length ≤ 108 := fun i hi => by
      have := idxs_length (norF (L.getD n 0)) l i
      have := lA (lim l k) hlim
      rw [eB, List.length_append]; omega
    have eEnd : segB ⟨l, node, k⟩ n l.length = ordTo l k L (n + 1) := by
      rw [eB, eA, ordTo, seg, List.append_assoc]
    have eA0 : segA ⟨l, node, k⟩ n 0 = ordTo l k L n := by rw [eA]; simp [idxs]
    have eB0 : segB ⟨l, node, k⟩ n 0 = segA ⟨l, node, k⟩ n (lim l k) := by rw [eB]; simp [idxs]
    refine ⟨⟨0, Nat.zero_le _, ⟨⟨rfl, rfl, by rw [eA0]⟩, rfl⟩, ⟨by rw [eA0], trivial⟩, rfl, trivial⟩, fun i hi => ⟨fun h1 => ⟨fun h2 => ?_, fun h2 => ?_⟩, fun h1 => ?_⟩⟩
    · have h1 : (i : Int) < l.length := of_decide_eq_true h1
      have hi' : i < l.length := by omega
      have hil : i < lim l k := by
        unfold lim
        cases k with
        | true => cases h2
        | false => simpa using hi'
      rw [Int.toNat_natCast, Nat.zero_add]
      have hit : (l.getD i dZ).node = L.getD n 0 → (l.getD i dZ).kind = 1 → segA ⟨l, node, k⟩ n (i + 1) = segA ⟨l, node, k⟩ n i ++ [(i : Int)] := fun a b => by
        rw [eA, eA, idxs_hit (by simp only [movF, a, b]; simp), List.append_assoc]
      have miss : ((l.getD i dZ).node = L.getD n 0 → (l.getD i dZ).kind = 1 → False) → segA ⟨l, node, k⟩ n (i + 1) = segA ⟨l, node, k⟩ n i := fun a => by
        rw [eA, eA, idxs_miss]
        cases hm : movF (L.getD n 0) (l.getD i dZ) with
        | false => rfl
        | true =>
          unfold movF at hm
          rw [Bool.and_eq_true, beq_iff_eq, beq_iff_eq] at hm
          exact (a hm.1 hm.2).elim
      have hla := lA i (by omega)
      refine ⟨⟨by omega, h1⟩, hi', ⟨by omega, hlt⟩, by omega, fun h3 => ⟨⟨by omega, h1⟩, hi', fun h4 => ⟨Nat.le_of_eq (Nat.zero_add _), [(i : Int)], rfl, by simp only [List.length_cons, List.length_nil]; omega, inI (by omega) (by omega), i + 1, hil, by omega, ⟨⟨rfl, rfl, ?_⟩, by omega⟩, ⟨?_, trivial⟩, rfl, trivial⟩, fun h4 => ⟨inI (by omega) (by omega), i + 1, hil, by omega, ⟨⟨rfl, rfl, ?_⟩, by omega⟩, ⟨?_, trivial⟩, rfl, trivial⟩⟩, fun h3 => ⟨inI (by omega) (by omega), i + 1, hil, by omega, ⟨⟨rfl, rfl, ?_⟩, by omega⟩, ⟨?_, trivial⟩, rfl, trivial⟩⟩
      · rw [hit (by simpa using h3) (by simpa using h4), List.length_append]
      · rw [hit (by simpa using h3) (by simpa using h4), List.drop_zero, List.take_length]
      · rw [miss fun _ b => by rw [b] at h4; simp at h4]
      · rw [miss fun _ b => by rw [b] at h4; simp at h4]
      · rw [miss fun a _ => by rw [a] at h3; simp at h3]
      · rw [miss fun a _ => by rw [a] at h3; simp at h3]
    all_goals
      have hil : i = lim l k := by
        unfold lim at hi ⊢
        cases k with
        | true => simp only [if_true] at hi ⊢; omega
        | false =>
          first
            | cases h2
            | (have h1 := of_decide_eq_false h1
               simp only [Bool.false_eq_true, if_false] at hi ⊢
               omega)
      subst hil
      refine ⟨⟨0, Nat.zero_le _, ⟨⟨rfl, rfl, by rw [eB0]⟩, rfl⟩, ⟨by rw [eB0], trivial⟩, rfl, trivial⟩, fun j hj => ⟨fun h3 => ?_, fun h3 => ?_⟩⟩
      · have h3 : (j : Int) < l.length := of_decide_eq_true h3
        have hj' : j < l.length := by omega
        rw [Int.toNat_natCast, Nat.zero_add]
        have hit : (l.getD j dZ).node = L.getD n 0 → (l.getD j dZ).kind = 0 → segB ⟨l, node, k⟩ n (j + 1) = segB ⟨l, node, k⟩ n j ++ [(j : Int)] := fun a b => by
          rw [eB, eB, idxs_hit (by simp only [norF, a, b]; simp), List.append_assoc]
        have miss : ((l.getD j dZ).node = L.getD n 0 → (l.getD j dZ).kind = 0 → False) → segB ⟨l, node, k⟩ n (j + 1) = segB ⟨l, node, k⟩ n j := fun a => by
          rw [eB, eB, idxs_miss]
          cases hm : norF (L.getD n 0) (l.getD j dZ) with
          | false => rfl
          | true =>
            unfold norF at hm
            rw [Bool.and_eq_true, beq_iff_eq, beq_iff_eq] at hm
            exact (a hm.1 hm.2).elim
        have hlb := lB j hj
        refine ⟨⟨by omega, h3⟩, hj', ⟨by omega, hlt⟩, by omega, fun h4 => ⟨⟨by omega, h3⟩, hj', fun h5 => ⟨Nat.le_of_eq (Nat.zero_add _), [(j : Int)], rfl, by simp only [List.length_cons, List.length_nil]; omega, inI (by omega) (by omega), j + 1, hj', by omega, ⟨⟨rfl, rfl, ?_⟩, by omega⟩, ⟨?_, trivial⟩, rfl, trivial⟩, fun h5 => ⟨inI (by omega) (by omega), j + 1, hj', by omega, ⟨⟨rfl, rfl, ?_⟩, by omega⟩, ⟨?_, trivial⟩, rfl, trivial⟩⟩, fun h4 => ⟨inI (by omega) (by omega), j + 1, hj', by omega, ⟨⟨rfl, rfl, ?_⟩, by omega⟩, ⟨?_, trivial⟩, rfl, trivial⟩⟩
        · rw [hit (by simpa using h4) (by simpa using h5), List.length_append]
        · rw [hit (by simpa using h4) (by simpa using h5), List.drop_zero, List.take_length]
        · rw [miss fun _ b => by rw [b] at h5; simp at h5]
        · rw [miss fun _ b => by rw [b] at h5; simp at h5]
        · rw [miss fun a _ => by rw [a] at h4; simp at h4]
        · rw [miss fun a _ => by rw [a] at h4; simp at h4]
      · have h3 := of_decide_eq_false h3
        have hjl : j = l.length := by omega
        subst hjl
        rw [eEnd]
        exact ⟨inI (by omega) (by omega), n + 1, by omega, by omega, ⟨⟨rfl, rfl, rfl⟩, by omega⟩, ⟨rfl, trivial⟩, rfl, trivial⟩
  · have h : checkN l node = 0 := by simpa using h
    have hge := of_decide_eq_false hge
    have hnl : n = (nodesO l node).length := by dsimp only at hge hn; omega
    subst hnl
    have e : ordO l node k = ordTo l k (nodesO l node) (nodesO l node).length := by rw [ordO, if_neg (by rw [h]; decide)]
    rw [e, h]
    refine ⟨(), trivial, ⟨⟨⟨rfl, rfl, rfl, rfl⟩, rfl⟩, flI, Nat.le_of_eq (Nat.zero_add _), ?_⟩, rfl, trivial⟩
    rw [List.drop_zero, List.take_length]
theorem sROrder : SpecOk P 18 cROrder.spec := spec_of cROrder (tab_cons sRNodes (tab_nil P)) mixed (fn := Try.f18) (by kernel_rfl) (by kernel_rfl) (by kernel_rfl) (Nat.zero_le _) (noIns fun _ => rfl) vROrder
end Go.Zn
