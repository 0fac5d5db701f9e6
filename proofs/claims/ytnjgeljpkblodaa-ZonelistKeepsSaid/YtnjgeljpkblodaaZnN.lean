/- A PART OF THE PROOF. NO CONDITION. -/
import Derived.Test.YtnjgeljpkblodaaZnM
import Derived.Test.YtnjgeljpkblodaaSxAD
noncomputable section
set_option linter.unusedVariables false
set_option linter.unusedVariables false
set_option linter.unusedSimpArgs false
namespace Go.Zn
open Go.Proofs Go.SX
set_option maxRecDepth 100000

/-! Keeps -/
def bareTo (l : List Z) : Nat → List Z
  | 0 => []
  | i + 1 => bareTo l i ++ [⟨(l.getD i dZ).node, (l.getD i dZ).kind, 7, -1, i⟩]
def cKeeps : Con := pureCon GP Unit (fun g => [roZ g.l, .agg (encPo g.p), .agg [I g.node, Bo g.kernel]]) (fun _ => True) (fun _ _ => True) (fun _ _ => Bo true)
def withKey (st : St) (i : Nat) (K : Nat → Option LoopAnn) : Option LoopAnn := match getSlot st.tmps i with | .sl key _ _ _ => K key | _ => none
def nines (L : List Int) (i : Nat) : List Int := List.replicate i (-9) ++ L.drop i
def lKeeps (g : GP) : Loops := fun id st => match Nat.beq id 0, Nat.beq id 2, Nat.beq id 4 with
  | true, _, _ => some { γ := Nat, slots := [8, 9], vals := fun b i => [.sl b 10 0 i, I i], rekey := [8], blks := fun b i => [(b, .arr Z dZ encZ (bareTo g.l i))], inv := fun i => i ≤ g.l.length, μ := fun i => g.l.length - i }
  | _, true, _ => withKey st 10 fun key => some { γ := Nat, slots := [14], vals := fun _ i => [I i], blks := fun _ i => [(key, .arr Int 0 encI (nines (pickO g) i))], inv := fun i => i ≤ (pickO g).length, μ := fun i => (pickO g).length - i }
  | _, _, true => some { γ := Nat, slots := [17], vals := fun _ i => [I i], inv := fun i => i ≤ g.l.length, μ := fun i => g.l.length - i }
  | _, _, _ => none
theorem vKeeps_eq : (cKeeps.body (fun g => env [(12, cAwake), (11, cFew), (20, cRPick), (19, cSame)] (lKeeps g)) Try.f10) = (∀ (g : GP), True → ∃ (g_1 : List Z × Int), (SV.ro Z dZ encZ (GP.l g) = SV.ro Z dZ encZ (Prod.fst g_1) ∧ SV.val (Value.int IntKind.i64 (10 : Int)) = SV.val (Value.int IntKind.i64
  (Prod.snd g_1))) ∧ True ∧ True ∧ ∀ (b : Unit), True → ((!decide ((↑(List.length (Prod.fst g_1)) : Int) ≤ Prod.snd g_1)) = true → ∃ (g : Unit), True ∧ True ∧ True ∧ ∀ (b : Unit),
  True → ∃ (b : Unit), True ∧ SV.val (Value.bool true) = SV.val (Value.bool true) ∧ (0 : Nat) = (0 : Nat) ∧ True) ∧ ((!decide ((↑(List.length (Prod.fst g_1)) : Int) ≤ Prod.snd g_1))
  = false → ∃ (ys : List (Enc.α (Enc.mk (Z) (dZ) (encZ)))), relaxL (Enc.enc (Enc.mk (Z) (dZ) (encZ)) (Enc.d (Enc.mk (Z) (dZ) (encZ)))) (List.map encZ (GP.l g)) = List.map (Enc.enc
  (Enc.mk (Z) (dZ) (encZ))) ys ∧ (List.length ys * (160 : Nat) ≤ (140737488355328 : Nat) ∧ ∀ (x : Enc.α (Enc.mk (Z) (dZ) (encZ))), (10 : Nat) = (10 : Nat) ∧ allOne (Enc.enc (Enc.mk
  (Z) (dZ) (encZ)) x) = true) ∧ (∃ (g_2 : Nat), g_2 ≤ List.length (GP.l g) ∧ (((0 : Nat) = (0 : Nat) ∧ g_2 = (0 : Nat)) ∧ (0 : Int) = (↑g_2 : Int)) ∧ ((bareTo (GP.l g) g_2 = [] ∧ ∀
  (x : Z), (10 : Nat) = (10 : Nat) ∧ allOne (encZ x) = true) ∧ True) ∧ LB.cells [SV.val (Value.int IntKind.i64 (Po.kind (GP.p g))), SV.val (Value.int IntKind.i64 (Po.nodes (GP.p
  g))), SV.val (Value.int IntKind.i64 (Po.turn (GP.p g)))] = LB.cells [SV.val (Value.int IntKind.i64 (Po.kind (GP.p g))), SV.val (Value.int IntKind.i64 (Po.nodes (GP.p g))), SV.val
  (Value.int IntKind.i64 (Po.turn (GP.p g)))] ∧ LB.cells [SV.val (Value.int IntKind.i64 (GP.node g)), SV.val (Value.bool (GP.kernel g))] = LB.cells [SV.val (Value.int IntKind.i64
  (GP.node g)), SV.val (Value.bool (GP.kernel g))] ∧ LB.cells [] = LB.cells [] ∧ LB.arr (Enc.α (Enc.mk (Z) (dZ) (encZ))) (Enc.d (Enc.mk (Z) (dZ) (encZ))) (Enc.enc (Enc.mk (Z) (dZ)
  (encZ))) ys = LB.arr (Enc.α (Enc.mk (Z) (dZ) (encZ))) (Enc.d (Enc.mk (Z) (dZ) (encZ))) (Enc.enc (Enc.mk (Z) (dZ) (encZ))) ys ∧ True) ∧ ∀ (g_2 : Nat), g_2 ≤ List.length (GP.l g) →
  (decide ((↑g_2 : Int) < (↑(List.length (GP.l g)) : Int)) = true → (((0 : Int) ≤ (↑g_2 : Int) ∧ (↑g_2 : Int) < (↑(List.length (GP.l g)) : Int)) ∧ (Int.toNat (↑g_2 : Int) <
  List.length (GP.l g) ∧ ((0 : Int) ≤ (↑g_2 : Int) ∧ (↑g_2 : Int) < (↑(List.length (GP.l g)) : Int)) ∧ Int.toNat (↑g_2 : Int) < List.length (GP.l g) ∧ (0 : Nat) + g_2 ≤ List.length
  (bareTo (GP.l g) g_2) ∧ ∃ (ys_1 : List Z), [[SV.val (Value.int IntKind.i64 (Z.node (List.getD (GP.l g) (Int.toNat (↑g_2 : Int)) dZ))), SV.val (Value.int IntKind.i64 (Z.kind
  (List.getD (GP.l g) (Int.toNat (↑g_2 : Int)) dZ))), SV.val (Value.int IntKind.i64 (7 : Int)), SV.val (Value.int IntKind.i64 (-1 : Int)), SV.val (Value.int IntKind.i64 (↑g_2 :
  Int)), SV.one, SV.one, SV.one, SV.one, SV.one]] = List.map encZ ys_1 ∧ (g_2 + List.length ys_1) * (160 : Nat) ≤ (140737488355328 : Nat) ∧ inK IntKind.i64 ((↑g_2 : Int) + (1 : Int))
  ∧ ∃ (g' : Nat), g' ≤ List.length (GP.l g) ∧ List.length (GP.l g) - g' < List.length (GP.l g) - g_2 ∧ (((10 : Nat) = (10 : Nat) ∧ (0 : Nat) = (0 : Nat) ∧ g_2 + List.length ys_1 =
  g') ∧ (↑g_2 : Int) + (1 : Int) = (↑g' : Int)) ∧ (LB.arr Z dZ encZ (List.take g_2 (List.drop (0 : Nat) (bareTo (GP.l g) g_2)) ++ ys_1) = LB.arr Z dZ encZ (bareTo (GP.l g) g') ∧
  True) ∧ LB.cells [SV.val (Value.int IntKind.i64 (Po.kind (GP.p g))), SV.val (Value.int IntKind.i64 (Po.nodes (GP.p g))), SV.val (Value.int IntKind.i64 (Po.turn (GP.p g)))] =
  LB.cells [SV.val (Value.int IntKind.i64 (Po.kind (GP.p g))), SV.val (Value.int IntKind.i64 (Po.nodes (GP.p g))), SV.val (Value.int IntKind.i64 (Po.turn (GP.p g)))] ∧ LB.cells
  [SV.val (Value.int IntKind.i64 (GP.node g)), SV.val (Value.bool (GP.kernel g))] = LB.cells [SV.val (Value.int IntKind.i64 (GP.node g)), SV.val (Value.bool (GP.kernel g))] ∧
  LB.cells [] = LB.cells [] ∧ LB.arr (Enc.α (Enc.mk (Z) (dZ) (encZ))) (Enc.d (Enc.mk (Z) (dZ) (encZ))) (Enc.enc (Enc.mk (Z) (dZ) (encZ))) ys = LB.arr (Enc.α (Enc.mk (Z) (dZ) (encZ)))
  (Enc.d (Enc.mk (Z) (dZ) (encZ))) (Enc.enc (Enc.mk (Z) (dZ) (encZ))) ys ∧ True) ∧ ((0 : Int) ≤ (↑g_2 : Int) ∧ (↑g_2 : Int) < (↑(List.length (GP.l g)) : Int)) ∧ (Int.toNat (↑g_2 :
  Int) < List.length (GP.l g) ∧ Int.toNat (↑g_2 : Int) < List.length (GP.l g) ∧ (0 : Nat) + g_2 ≤ List.length (bareTo (GP.l g) g_2) ∧ ∃ (ys_1 : List Z), [[SV.val (Value.int
  IntKind.i64 (Z.node (List.getD (GP.l g) (Int.toNat (↑g_2 : Int)) dZ))), SV.val (Value.int IntKind.i64 (Z.kind (List.getD (GP.l g) (Int.toNat (↑g_2 : Int)) dZ))), SV.val (Value.int
  IntKind.i64 (7 : Int)), SV.val (Value.int IntKind.i64 (-1 : Int)), SV.val (Value.int IntKind.i64 (↑g_2 : Int)), SV.one, SV.one, SV.one, SV.one, SV.one]] = List.map encZ ys_1 ∧ (g_2
  + List.length ys_1) * (160 : Nat) ≤ (140737488355328 : Nat) ∧ inK IntKind.i64 ((↑g_2 : Int) + (1 : Int)) ∧ ∃ (g' : Nat), g' ≤ List.length (GP.l g) ∧ List.length (GP.l g) - g' <
  List.length (GP.l g) - g_2 ∧ (((10 : Nat) = (10 : Nat) ∧ (0 : Nat) = (0 : Nat) ∧ g_2 + List.length ys_1 = g') ∧ (↑g_2 : Int) + (1 : Int) = (↑g' : Int)) ∧ (LB.arr Z dZ encZ
  (List.take g_2 (List.drop (0 : Nat) (bareTo (GP.l g) g_2)) ++ ys_1) = LB.arr Z dZ encZ (bareTo (GP.l g) g') ∧ True) ∧ LB.cells [SV.val (Value.int IntKind.i64 (Po.kind (GP.p g))),
  SV.val (Value.int IntKind.i64 (Po.nodes (GP.p g))), SV.val (Value.int IntKind.i64 (Po.turn (GP.p g)))] = LB.cells [SV.val (Value.int IntKind.i64 (Po.kind (GP.p g))), SV.val
  (Value.int IntKind.i64 (Po.nodes (GP.p g))), SV.val (Value.int IntKind.i64 (Po.turn (GP.p g)))] ∧ LB.cells [SV.val (Value.int IntKind.i64 (GP.node g)), SV.val (Value.bool
  (GP.kernel g))] = LB.cells [SV.val (Value.int IntKind.i64 (GP.node g)), SV.val (Value.bool (GP.kernel g))] ∧ LB.cells [] = LB.cells [] ∧ LB.arr (Enc.α (Enc.mk (Z) (dZ) (encZ)))
  (Enc.d (Enc.mk (Z) (dZ) (encZ))) (Enc.enc (Enc.mk (Z) (dZ) (encZ))) ys = LB.arr (Enc.α (Enc.mk (Z) (dZ) (encZ))) (Enc.d (Enc.mk (Z) (dZ) (encZ))) (Enc.enc (Enc.mk (Z) (dZ) (encZ)))
  ys ∧ True) ∧ Int.toNat (↑g_2 : Int) < List.length (GP.l g) ∧ Int.toNat (↑g_2 : Int) < List.length (GP.l g) ∧ (0 : Nat) + g_2 ≤ List.length (bareTo (GP.l g) g_2) ∧ ∃ (ys_1 : List
  Z), [[SV.val (Value.int IntKind.i64 (Z.node (List.getD (GP.l g) (Int.toNat (↑g_2 : Int)) dZ))), SV.val (Value.int IntKind.i64 (Z.kind (List.getD (GP.l g) (Int.toNat (↑g_2 : Int))
  dZ))), SV.val (Value.int IntKind.i64 (7 : Int)), SV.val (Value.int IntKind.i64 (-1 : Int)), SV.val (Value.int IntKind.i64 (↑g_2 : Int)), SV.one, SV.one, SV.one, SV.one, SV.one]] =
  List.map encZ ys_1 ∧ (g_2 + List.length ys_1) * (160 : Nat) ≤ (140737488355328 : Nat) ∧ inK IntKind.i64 ((↑g_2 : Int) + (1 : Int)) ∧ ∃ (g' : Nat), g' ≤ List.length (GP.l g) ∧
  List.length (GP.l g) - g' < List.length (GP.l g) - g_2 ∧ (((10 : Nat) = (10 : Nat) ∧ (0 : Nat) = (0 : Nat) ∧ g_2 + List.length ys_1 = g') ∧ (↑g_2 : Int) + (1 : Int) = (↑g' : Int))
  ∧ (LB.arr Z dZ encZ (List.take g_2 (List.drop (0 : Nat) (bareTo (GP.l g) g_2)) ++ ys_1) = LB.arr Z dZ encZ (bareTo (GP.l g) g') ∧ True) ∧ LB.cells [SV.val (Value.int IntKind.i64
  (Po.kind (GP.p g))), SV.val (Value.int IntKind.i64 (Po.nodes (GP.p g))), SV.val (Value.int IntKind.i64 (Po.turn (GP.p g)))] = LB.cells [SV.val (Value.int IntKind.i64 (Po.kind (GP.p
  g))), SV.val (Value.int IntKind.i64 (Po.nodes (GP.p g))), SV.val (Value.int IntKind.i64 (Po.turn (GP.p g)))] ∧ LB.cells [SV.val (Value.int IntKind.i64 (GP.node g)), SV.val
  (Value.bool (GP.kernel g))] = LB.cells [SV.val (Value.int IntKind.i64 (GP.node g)), SV.val (Value.bool (GP.kernel g))] ∧ LB.cells [] = LB.cells [] ∧ LB.arr (Enc.α (Enc.mk (Z) (dZ)
  (encZ))) (Enc.d (Enc.mk (Z) (dZ) (encZ))) (Enc.enc (Enc.mk (Z) (dZ) (encZ))) ys = LB.arr (Enc.α (Enc.mk (Z) (dZ) (encZ))) (Enc.d (Enc.mk (Z) (dZ) (encZ))) (Enc.enc (Enc.mk (Z) (dZ)
  (encZ))) ys ∧ True) ∧ ((0 : Int) ≤ (↑g_2 : Int) ∧ (↑g_2 : Int) < (↑(List.length (GP.l g)) : Int)) ∧ (((0 : Int) ≤ (↑g_2 : Int) ∧ (↑g_2 : Int) < (↑(List.length (GP.l g)) : Int)) ∧
  (Int.toNat (↑g_2 : Int) < List.length (GP.l g) ∧ Int.toNat (↑g_2 : Int) < List.length (GP.l g) ∧ (0 : Nat) + g_2 ≤ List.length (bareTo (GP.l g) g_2) ∧ ∃ (ys_1 : List Z), [[SV.val
  (Value.int IntKind.i64 (Z.node (List.getD (GP.l g) (Int.toNat (↑g_2 : Int)) dZ))), SV.val (Value.int IntKind.i64 (Z.kind (List.getD (GP.l g) (Int.toNat (↑g_2 : Int)) dZ))), SV.val
  (Value.int IntKind.i64 (7 : Int)), SV.val (Value.int IntKind.i64 (-1 : Int)), SV.val (Value.int IntKind.i64 (↑g_2 : Int)), SV.one, SV.one, SV.one, SV.one, SV.one]] = List.map encZ
  ys_1 ∧ (g_2 + List.length ys_1) * (160 : Nat) ≤ (140737488355328 : Nat) ∧ inK IntKind.i64 ((↑g_2 : Int) + (1 : Int)) ∧ ∃ (g' : Nat), g' ≤ List.length (GP.l g) ∧ List.length (GP.l
  g) - g' < List.length (GP.l g) - g_2 ∧ (((10 : Nat) = (10 : Nat) ∧ (0 : Nat) = (0 : Nat) ∧ g_2 + List.length ys_1 = g') ∧ (↑g_2 : Int) + (1 : Int) = (↑g' : Int)) ∧ (LB.arr Z dZ
  encZ (List.take g_2 (List.drop (0 : Nat) (bareTo (GP.l g) g_2)) ++ ys_1) = LB.arr Z dZ encZ (bareTo (GP.l g) g') ∧ True) ∧ LB.cells [SV.val (Value.int IntKind.i64 (Po.kind (GP.p
  g))), SV.val (Value.int IntKind.i64 (Po.nodes (GP.p g))), SV.val (Value.int IntKind.i64 (Po.turn (GP.p g)))] = LB.cells [SV.val (Value.int IntKind.i64 (Po.kind (GP.p g))), SV.val
  (Value.int IntKind.i64 (Po.nodes (GP.p g))), SV.val (Value.int IntKind.i64 (Po.turn (GP.p g)))] ∧ LB.cells [SV.val (Value.int IntKind.i64 (GP.node g)), SV.val (Value.bool
  (GP.kernel g))] = LB.cells [SV.val (Value.int IntKind.i64 (GP.node g)), SV.val (Value.bool (GP.kernel g))] ∧ LB.cells [] = LB.cells [] ∧ LB.arr (Enc.α (Enc.mk (Z) (dZ) (encZ)))
  (Enc.d (Enc.mk (Z) (dZ) (encZ))) (Enc.enc (Enc.mk (Z) (dZ) (encZ))) ys = LB.arr (Enc.α (Enc.mk (Z) (dZ) (encZ))) (Enc.d (Enc.mk (Z) (dZ) (encZ))) (Enc.enc (Enc.mk (Z) (dZ) (encZ)))
  ys ∧ True) ∧ Int.toNat (↑g_2 : Int) < List.length (GP.l g) ∧ Int.toNat (↑g_2 : Int) < List.length (GP.l g) ∧ (0 : Nat) + g_2 ≤ List.length (bareTo (GP.l g) g_2) ∧ ∃ (ys_1 : List
  Z), [[SV.val (Value.int IntKind.i64 (Z.node (List.getD (GP.l g) (Int.toNat (↑g_2 : Int)) dZ))), SV.val (Value.int IntKind.i64 (Z.kind (List.getD (GP.l g) (Int.toNat (↑g_2 : Int))
  dZ))), SV.val (Value.int IntKind.i64 (7 : Int)), SV.val (Value.int IntKind.i64 (-1 : Int)), SV.val (Value.int IntKind.i64 (↑g_2 : Int)), SV.one, SV.one, SV.one, SV.one, SV.one]] =
  List.map encZ ys_1 ∧ (g_2 + List.length ys_1) * (160 : Nat) ≤ (140737488355328 : Nat) ∧ inK IntKind.i64 ((↑g_2 : Int) + (1 : Int)) ∧ ∃ (g' : Nat), g' ≤ List.length (GP.l g) ∧
  List.length (GP.l g) - g' < List.length (GP.l g) - g_2 ∧ (((10 : Nat) = (10 : Nat) ∧ (0 : Nat) = (0 : Nat) ∧ g_2 + List.length ys_1 = g') ∧ (↑g_2 : Int) + (1 : Int) = (↑g' : Int))
  ∧ (LB.arr Z dZ encZ (List.take g_2 (List.drop (0 : Nat) (bareTo (GP.l g) g_2)) ++ ys_1) = LB.arr Z dZ encZ (bareTo (GP.l g) g') ∧ True) ∧ LB.cells [SV.val (Value.int IntKind.i64
  (Po.kind (GP.p g))), SV.val (Value.int IntKind.i64 (Po.nodes (GP.p g))), SV.val (Value.int IntKind.i64 (Po.turn (GP.p g)))] = LB.cells [SV.val (Value.int IntKind.i64 (Po.kind (GP.p
  g))), SV.val (Value.int IntKind.i64 (Po.nodes (GP.p g))), SV.val (Value.int IntKind.i64 (Po.turn (GP.p g)))] ∧ LB.cells [SV.val (Value.int IntKind.i64 (GP.node g)), SV.val
  (Value.bool (GP.kernel g))] = LB.cells [SV.val (Value.int IntKind.i64 (GP.node g)), SV.val (Value.bool (GP.kernel g))] ∧ LB.cells [] = LB.cells [] ∧ LB.arr (Enc.α (Enc.mk (Z) (dZ)
  (encZ))) (Enc.d (Enc.mk (Z) (dZ) (encZ))) (Enc.enc (Enc.mk (Z) (dZ) (encZ))) ys = LB.arr (Enc.α (Enc.mk (Z) (dZ) (encZ))) (Enc.d (Enc.mk (Z) (dZ) (encZ))) (Enc.enc (Enc.mk (Z) (dZ)
  (encZ))) ys ∧ True) ∧ Int.toNat (↑g_2 : Int) < List.length (GP.l g) ∧ ((0 : Int) ≤ (↑g_2 : Int) ∧ (↑g_2 : Int) < (↑(List.length (GP.l g)) : Int)) ∧ Int.toNat (↑g_2 : Int) <
  List.length (GP.l g) ∧ (0 : Nat) + g_2 ≤ List.length (bareTo (GP.l g) g_2) ∧ ∃ (ys_1 : List Z), [[SV.val (Value.int IntKind.i64 (Z.node (List.getD (GP.l g) (Int.toNat (↑g_2 : Int))
  dZ))), SV.val (Value.int IntKind.i64 (Z.kind (List.getD (GP.l g) (Int.toNat (↑g_2 : Int)) dZ))), SV.val (Value.int IntKind.i64 (7 : Int)), SV.val (Value.int IntKind.i64 (-1 :
  Int)), SV.val (Value.int IntKind.i64 (↑g_2 : Int)), SV.one, SV.one, SV.one, SV.one, SV.one]] = List.map encZ ys_1 ∧ (g_2 + List.length ys_1) * (160 : Nat) ≤ (140737488355328 : Nat)
  ∧ inK IntKind.i64 ((↑g_2 : Int) + (1 : Int)) ∧ ∃ (g' : Nat), g' ≤ List.length (GP.l g) ∧ List.length (GP.l g) - g' < List.length (GP.l g) - g_2 ∧ (((10 : Nat) = (10 : Nat) ∧ (0 :
  Nat) = (0 : Nat) ∧ g_2 + List.length ys_1 = g') ∧ (↑g_2 : Int) + (1 : Int) = (↑g' : Int)) ∧ (LB.arr Z dZ encZ (List.take g_2 (List.drop (0 : Nat) (bareTo (GP.l g) g_2)) ++ ys_1) =
  LB.arr Z dZ encZ (bareTo (GP.l g) g') ∧ True) ∧ LB.cells [SV.val (Value.int IntKind.i64 (Po.kind (GP.p g))), SV.val (Value.int IntKind.i64 (Po.nodes (GP.p g))), SV.val (Value.int
  IntKind.i64 (Po.turn (GP.p g)))] = LB.cells [SV.val (Value.int IntKind.i64 (Po.kind (GP.p g))), SV.val (Value.int IntKind.i64 (Po.nodes (GP.p g))), SV.val (Value.int IntKind.i64
  (Po.turn (GP.p g)))] ∧ LB.cells [SV.val (Value.int IntKind.i64 (GP.node g)), SV.val (Value.bool (GP.kernel g))] = LB.cells [SV.val (Value.int IntKind.i64 (GP.node g)), SV.val
  (Value.bool (GP.kernel g))] ∧ LB.cells [] = LB.cells [] ∧ LB.arr (Enc.α (Enc.mk (Z) (dZ) (encZ))) (Enc.d (Enc.mk (Z) (dZ) (encZ))) (Enc.enc (Enc.mk (Z) (dZ) (encZ))) ys = LB.arr
  (Enc.α (Enc.mk (Z) (dZ) (encZ))) (Enc.d (Enc.mk (Z) (dZ) (encZ))) (Enc.enc (Enc.mk (Z) (dZ) (encZ))) ys ∧ True) ∧ (decide ((↑g_2 : Int) < (↑(List.length (GP.l g)) : Int)) = false →
  ∃ (g_3 : GP), (((0 : Nat) + List.length ys ≤ List.length ys ∧ SV.ro (Enc.α (Enc.mk (Z) (dZ) (encZ))) (Enc.d (Enc.mk (Z) (dZ) (encZ))) (Enc.enc (Enc.mk (Z) (dZ) (encZ))) (List.take
  (List.length ys) (List.drop (0 : Nat) ys)) = SV.ro Z dZ encZ (GP.l g_3)) ∧ (SV.val (Value.int IntKind.i64 (Po.kind (GP.p g))) = SV.val (Value.int IntKind.i64 (Po.kind (GP.p g_3)))
  ∧ SV.val (Value.int IntKind.i64 (Po.nodes (GP.p g))) = SV.val (Value.int IntKind.i64 (Po.nodes (GP.p g_3))) ∧ SV.val (Value.int IntKind.i64 (Po.turn (GP.p g))) = SV.val (Value.int
  IntKind.i64 (Po.turn (GP.p g_3))) ∧ True) ∧ SV.val (Value.int IntKind.i64 (GP.node g)) = SV.val (Value.int IntKind.i64 (GP.node g_3)) ∧ SV.val (Value.bool (GP.kernel g)) = SV.val
  (Value.bool (GP.kernel g_3))) ∧ True ∧ List.length (GP.l g_3) ≤ (1000000000 : Nat) ∧ ∀ (b : Unit), True → ∃ (g_4 : GP), (((0 : Nat) + g_2 ≤ List.length (bareTo (GP.l g) g_2) ∧
  SV.ro Z dZ encZ (List.take g_2 (List.drop (0 : Nat) (bareTo (GP.l g) g_2))) = SV.ro Z dZ encZ (GP.l g_4)) ∧ (SV.val (Value.int IntKind.i64 (Po.kind (GP.p g))) = SV.val (Value.int
  IntKind.i64 (Po.kind (GP.p g_4))) ∧ SV.val (Value.int IntKind.i64 (Po.nodes (GP.p g))) = SV.val (Value.int IntKind.i64 (Po.nodes (GP.p g_4))) ∧ SV.val (Value.int IntKind.i64
  (Po.turn (GP.p g))) = SV.val (Value.int IntKind.i64 (Po.turn (GP.p g_4))) ∧ True) ∧ SV.val (Value.int IntKind.i64 (GP.node g)) = SV.val (Value.int IntKind.i64 (GP.node g_4)) ∧
  SV.val (Value.bool (GP.kernel g)) = SV.val (Value.bool (GP.kernel g_4))) ∧ True ∧ List.length (GP.l g_4) ≤ (1000000000 : Nat) ∧ ∀ (b : Unit), True → ((pickE (GP.l g_3) (GP.p g_3)
  (GP.node g_3) != pickE (GP.l g_4) (GP.p g_4) (GP.node g_4)) = true → ∃ (b : Unit), True ∧ true = false ∧ (0 : Nat) = (0 : Nat) ∧ True) ∧ ((pickE (GP.l g_3) (GP.p g_3) (GP.node g_3)
  != pickE (GP.l g_4) (GP.p g_4) (GP.node g_4)) = false → ∃ (g_5 : List Int × List Int), (((0 : Nat) + List.length (pickO g_3) ≤ List.length (pickO g_3) ∧ SV.ro Int (0 : Int) encI
  (List.take (List.length (pickO g_3)) (List.drop (0 : Nat) (pickO g_3))) = SV.ro Int (0 : Int) encI (Prod.fst g_5)) ∧ (0 : Nat) + List.length (pickO g_4) ≤ List.length (pickO g_4) ∧
  SV.ro Int (0 : Int) encI (List.take (List.length (pickO g_4)) (List.drop (0 : Nat) (pickO g_4))) = SV.ro Int (0 : Int) encI (Prod.snd g_5)) ∧ True ∧ List.length (Prod.fst g_5) ≤
  (1000000000 : Nat) ∧ ∀ (b : Unit), True → ((!sameL (Prod.fst g_5) (Prod.snd g_5)) = true → ∃ (b : Unit), True ∧ true = false ∧ (0 : Nat) = (0 : Nat) ∧ True) ∧ ((!sameL (Prod.fst
  g_5) (Prod.snd g_5)) = false → (∃ (g_6 : Nat), g_6 ≤ List.length (pickO g) ∧ (0 : Int) = (↑g_6 : Int) ∧ (LB.arr Int (0 : Int) encI (pickO g_3) = LB.arr Int (0 : Int) encI (nines
  (pickO g) g_6) ∧ True) ∧ LB.cells [SV.val (Value.int IntKind.i64 (Po.kind (GP.p g))), SV.val (Value.int IntKind.i64 (Po.nodes (GP.p g))), SV.val (Value.int IntKind.i64 (Po.turn
  (GP.p g)))] = LB.cells [SV.val (Value.int IntKind.i64 (Po.kind (GP.p g))), SV.val (Value.int IntKind.i64 (Po.nodes (GP.p g))), SV.val (Value.int IntKind.i64 (Po.turn (GP.p g)))] ∧
  LB.cells [SV.val (Value.int IntKind.i64 (GP.node g)), SV.val (Value.bool (GP.kernel g))] = LB.cells [SV.val (Value.int IntKind.i64 (GP.node g)), SV.val (Value.bool (GP.kernel g))]
  ∧ LB.cells [] = LB.cells [] ∧ LB.arr (Enc.α (Enc.mk (Z) (dZ) (encZ))) (Enc.d (Enc.mk (Z) (dZ) (encZ))) (Enc.enc (Enc.mk (Z) (dZ) (encZ))) ys = LB.arr (Enc.α (Enc.mk (Z) (dZ)
  (encZ))) (Enc.d (Enc.mk (Z) (dZ) (encZ))) (Enc.enc (Enc.mk (Z) (dZ) (encZ))) ys ∧ LB.arr Z dZ encZ (bareTo (GP.l g) g_2) = LB.arr Z dZ encZ (bareTo (GP.l g) g_2) ∧ LB.arr Int (0 :
  Int) encI (pickO g_4) = LB.arr Int (0 : Int) encI (pickO g_4) ∧ True) ∧ ∀ (g_6 : Nat), g_6 ≤ List.length (pickO g) → (decide ((↑g_6 : Int) < (↑(List.length (pickO g_3)) : Int)) =
  true → ((0 : Int) ≤ (↑g_6 : Int) ∧ (↑g_6 : Int) < (↑(List.length (pickO g_3)) : Int)) ∧ (0 : Nat) + Int.toNat (↑g_6 : Int) < List.length (nines (pickO g) g_6) ∧ ∃ (x : Int),
  [SV.val (Value.int IntKind.i64 x)] = [SV.val (Value.int IntKind.i64 (-9 : Int))] ∧ inK IntKind.i64 ((↑g_6 : Int) + (1 : Int)) ∧ ∃ (g' : Nat), g' ≤ List.length (pickO g) ∧
  List.length (pickO g) - g' < List.length (pickO g) - g_6 ∧ (↑g_6 : Int) + (1 : Int) = (↑g' : Int) ∧ (LB.arr Int (0 : Int) encI (List.set (nines (pickO g) g_6) ((0 : Nat) +
  Int.toNat (↑g_6 : Int)) x) = LB.arr Int (0 : Int) encI (nines (pickO g) g') ∧ True) ∧ LB.cells [SV.val (Value.int IntKind.i64 (Po.kind (GP.p g))), SV.val (Value.int IntKind.i64
  (Po.nodes (GP.p g))), SV.val (Value.int IntKind.i64 (Po.turn (GP.p g)))] = LB.cells [SV.val (Value.int IntKind.i64 (Po.kind (GP.p g))), SV.val (Value.int IntKind.i64 (Po.nodes
  (GP.p g))), SV.val (Value.int IntKind.i64 (Po.turn (GP.p g)))] ∧ LB.cells [SV.val (Value.int IntKind.i64 (GP.node g)), SV.val (Value.bool (GP.kernel g))] = LB.cells [SV.val
  (Value.int IntKind.i64 (GP.node g)), SV.val (Value.bool (GP.kernel g))] ∧ LB.cells [] = LB.cells [] ∧ LB.arr (Enc.α (Enc.mk (Z) (dZ) (encZ))) (Enc.d (Enc.mk (Z) (dZ) (encZ)))
  (Enc.enc (Enc.mk (Z) (dZ) (encZ))) ys = LB.arr (Enc.α (Enc.mk (Z) (dZ) (encZ))) (Enc.d (Enc.mk (Z) (dZ) (encZ))) (Enc.enc (Enc.mk (Z) (dZ) (encZ))) ys ∧ LB.arr Z dZ encZ (bareTo
  (GP.l g) g_2) = LB.arr Z dZ encZ (bareTo (GP.l g) g_2) ∧ LB.arr Int (0 : Int) encI (pickO g_4) = LB.arr Int (0 : Int) encI (pickO g_4) ∧ True) ∧ (decide ((↑g_6 : Int) <
  (↑(List.length (pickO g_3)) : Int)) = false → ∃ (g_7 : GP), (((0 : Nat) + List.length ys ≤ List.length ys ∧ SV.ro (Enc.α (Enc.mk (Z) (dZ) (encZ))) (Enc.d (Enc.mk (Z) (dZ) (encZ)))
  (Enc.enc (Enc.mk (Z) (dZ) (encZ))) (List.take (List.length ys) (List.drop (0 : Nat) ys)) = SV.ro Z dZ encZ (GP.l g_7)) ∧ (SV.val (Value.int IntKind.i64 (Po.kind (GP.p g))) = SV.val
  (Value.int IntKind.i64 (Po.kind (GP.p g_7))) ∧ SV.val (Value.int IntKind.i64 (Po.nodes (GP.p g))) = SV.val (Value.int IntKind.i64 (Po.nodes (GP.p g_7))) ∧ SV.val (Value.int
  IntKind.i64 (Po.turn (GP.p g))) = SV.val (Value.int IntKind.i64 (Po.turn (GP.p g_7))) ∧ True) ∧ SV.val (Value.int IntKind.i64 (GP.node g)) = SV.val (Value.int IntKind.i64 (GP.node
  g_7)) ∧ SV.val (Value.bool (GP.kernel g)) = SV.val (Value.bool (GP.kernel g_7))) ∧ True ∧ List.length (GP.l g_7) ≤ (1000000000 : Nat) ∧ ∀ (b : Unit), True → (∃ (g_8 : Nat), g_8 ≤
  List.length (GP.l g) ∧ (0 : Int) = (↑g_8 : Int) ∧ True ∧ LB.cells [SV.val (Value.int IntKind.i64 (Po.kind (GP.p g))), SV.val (Value.int IntKind.i64 (Po.nodes (GP.p g))), SV.val
  (Value.int IntKind.i64 (Po.turn (GP.p g)))] = LB.cells [SV.val (Value.int IntKind.i64 (Po.kind (GP.p g))), SV.val (Value.int IntKind.i64 (Po.nodes (GP.p g))), SV.val (Value.int
  IntKind.i64 (Po.turn (GP.p g)))] ∧ LB.cells [SV.val (Value.int IntKind.i64 (GP.node g)), SV.val (Value.bool (GP.kernel g))] = LB.cells [SV.val (Value.int IntKind.i64 (GP.node g)),
  SV.val (Value.bool (GP.kernel g))] ∧ LB.cells [] = LB.cells [] ∧ LB.arr (Enc.α (Enc.mk (Z) (dZ) (encZ))) (Enc.d (Enc.mk (Z) (dZ) (encZ))) (Enc.enc (Enc.mk (Z) (dZ) (encZ))) ys =
  LB.arr (Enc.α (Enc.mk (Z) (dZ) (encZ))) (Enc.d (Enc.mk (Z) (dZ) (encZ))) (Enc.enc (Enc.mk (Z) (dZ) (encZ))) ys ∧ LB.arr Z dZ encZ (bareTo (GP.l g) g_2) = LB.arr Z dZ encZ (bareTo
  (GP.l g) g_2) ∧ LB.arr Int (0 : Int) encI (nines (pickO g) g_6) = LB.arr Int (0 : Int) encI (nines (pickO g) g_6) ∧ LB.arr Int (0 : Int) encI (pickO g_4) = LB.arr Int (0 : Int)
  encI (pickO g_4) ∧ LB.arr Int (0 : Int) encI (pickO g_7) = LB.arr Int (0 : Int) encI (pickO g_7) ∧ True) ∧ ∀ (g_8 : Nat), g_8 ≤ List.length (GP.l g) → (decide ((↑g_8 : Int) <
  (↑(List.length ys) : Int)) = true → ((0 : Int) ≤ (↑g_8 : Int) ∧ (↑g_8 : Int) < (↑(List.length ys) : Int)) ∧ (0 : Nat) + Int.toNat (↑g_8 : Int) < List.length ys ∧ ((0 : Int) ≤ (↑g_8
  : Int) ∧ (↑g_8 : Int) < (↑(List.length (GP.l g)) : Int)) ∧ Int.toNat (↑g_8 : Int) < List.length (GP.l g) ∧ ((Z.node (List.getD ys ((0 : Nat) + Int.toNat (↑g_8 : Int)) (Enc.d
  (Enc.mk (Z) (dZ) (encZ)))) != Z.node (List.getD (GP.l g) (Int.toNat (↑g_8 : Int)) dZ)) = true → ∃ (b : Unit), True ∧ true = false ∧ (0 : Nat) = (0 : Nat) ∧ True) ∧ ((Z.node
  (List.getD ys ((0 : Nat) + Int.toNat (↑g_8 : Int)) (Enc.d (Enc.mk (Z) (dZ) (encZ)))) != Z.node (List.getD (GP.l g) (Int.toNat (↑g_8 : Int)) dZ)) = false → ((0 : Int) ≤ (↑g_8 : Int)
  ∧ (↑g_8 : Int) < (↑(List.length ys) : Int)) ∧ (0 : Nat) + Int.toNat (↑g_8 : Int) < List.length ys ∧ ((0 : Int) ≤ (↑g_8 : Int) ∧ (↑g_8 : Int) < (↑(List.length (GP.l g)) : Int)) ∧
  Int.toNat (↑g_8 : Int) < List.length (GP.l g) ∧ ((Z.kind (List.getD ys ((0 : Nat) + Int.toNat (↑g_8 : Int)) (Enc.d (Enc.mk (Z) (dZ) (encZ)))) != Z.kind (List.getD (GP.l g)
  (Int.toNat (↑g_8 : Int)) dZ)) = true → ∃ (b : Unit), True ∧ true = false ∧ (0 : Nat) = (0 : Nat) ∧ True) ∧ ((Z.kind (List.getD ys ((0 : Nat) + Int.toNat (↑g_8 : Int)) (Enc.d
  (Enc.mk (Z) (dZ) (encZ)))) != Z.kind (List.getD (GP.l g) (Int.toNat (↑g_8 : Int)) dZ)) = false → ((0 : Int) ≤ (↑g_8 : Int) ∧ (↑g_8 : Int) < (↑(List.length ys) : Int)) ∧ (0 : Nat) +
  Int.toNat (↑g_8 : Int) < List.length ys ∧ ((0 : Int) ≤ (↑g_8 : Int) ∧ (↑g_8 : Int) < (↑(List.length (GP.l g)) : Int)) ∧ Int.toNat (↑g_8 : Int) < List.length (GP.l g) ∧ ((Z.start
  (List.getD ys ((0 : Nat) + Int.toNat (↑g_8 : Int)) (Enc.d (Enc.mk (Z) (dZ) (encZ)))) != Z.start (List.getD (GP.l g) (Int.toNat (↑g_8 : Int)) dZ)) = true → ∃ (b : Unit), True ∧ true
  = false ∧ (0 : Nat) = (0 : Nat) ∧ True) ∧ ((Z.start (List.getD ys ((0 : Nat) + Int.toNat (↑g_8 : Int)) (Enc.d (Enc.mk (Z) (dZ) (encZ)))) != Z.start (List.getD (GP.l g) (Int.toNat
  (↑g_8 : Int)) dZ)) = false → ((0 : Int) ≤ (↑g_8 : Int) ∧ (↑g_8 : Int) < (↑(List.length ys) : Int)) ∧ (0 : Nat) + Int.toNat (↑g_8 : Int) < List.length ys ∧ ((0 : Int) ≤ (↑g_8 : Int)
  ∧ (↑g_8 : Int) < (↑(List.length (GP.l g)) : Int)) ∧ Int.toNat (↑g_8 : Int) < List.length (GP.l g) ∧ ((Z.count (List.getD ys ((0 : Nat) + Int.toNat (↑g_8 : Int)) (Enc.d (Enc.mk (Z)
  (dZ) (encZ)))) != Z.count (List.getD (GP.l g) (Int.toNat (↑g_8 : Int)) dZ)) = true → ∃ (b : Unit), True ∧ true = false ∧ (0 : Nat) = (0 : Nat) ∧ True) ∧ ((Z.count (List.getD ys ((0
  : Nat) + Int.toNat (↑g_8 : Int)) (Enc.d (Enc.mk (Z) (dZ) (encZ)))) != Z.count (List.getD (GP.l g) (Int.toNat (↑g_8 : Int)) dZ)) = false → ((0 : Int) ≤ (↑g_8 : Int) ∧ (↑g_8 : Int) <
  (↑(List.length ys) : Int)) ∧ (0 : Nat) + Int.toNat (↑g_8 : Int) < List.length ys ∧ ((0 : Int) ≤ (↑g_8 : Int) ∧ (↑g_8 : Int) < (↑(List.length (GP.l g)) : Int)) ∧ Int.toNat (↑g_8 :
  Int) < List.length (GP.l g) ∧ ((Z.min (List.getD ys ((0 : Nat) + Int.toNat (↑g_8 : Int)) (Enc.d (Enc.mk (Z) (dZ) (encZ)))) != Z.min (List.getD (GP.l g) (Int.toNat (↑g_8 : Int))
  dZ)) = true → ∃ (b : Unit), True ∧ true = false ∧ (0 : Nat) = (0 : Nat) ∧ True) ∧ ((Z.min (List.getD ys ((0 : Nat) + Int.toNat (↑g_8 : Int)) (Enc.d (Enc.mk (Z) (dZ) (encZ)))) !=
  Z.min (List.getD (GP.l g) (Int.toNat (↑g_8 : Int)) dZ)) = false → inK IntKind.i64 ((↑g_8 : Int) + (1 : Int)) ∧ ∃ (g' : Nat), g' ≤ List.length (GP.l g) ∧ List.length (GP.l g) - g' <
  List.length (GP.l g) - g_8 ∧ (↑g_8 : Int) + (1 : Int) = (↑g' : Int) ∧ True ∧ LB.cells [SV.val (Value.int IntKind.i64 (Po.kind (GP.p g))), SV.val (Value.int IntKind.i64 (Po.nodes
  (GP.p g))), SV.val (Value.int IntKind.i64 (Po.turn (GP.p g)))] = LB.cells [SV.val (Value.int IntKind.i64 (Po.kind (GP.p g))), SV.val (Value.int IntKind.i64 (Po.nodes (GP.p g))),
  SV.val (Value.int IntKind.i64 (Po.turn (GP.p g)))] ∧ LB.cells [SV.val (Value.int IntKind.i64 (GP.node g)), SV.val (Value.bool (GP.kernel g))] = LB.cells [SV.val (Value.int
  IntKind.i64 (GP.node g)), SV.val (Value.bool (GP.kernel g))] ∧ LB.cells [] = LB.cells [] ∧ LB.arr (Enc.α (Enc.mk (Z) (dZ) (encZ))) (Enc.d (Enc.mk (Z) (dZ) (encZ))) (Enc.enc (Enc.mk
  (Z) (dZ) (encZ))) ys = LB.arr (Enc.α (Enc.mk (Z) (dZ) (encZ))) (Enc.d (Enc.mk (Z) (dZ) (encZ))) (Enc.enc (Enc.mk (Z) (dZ) (encZ))) ys ∧ LB.arr Z dZ encZ (bareTo (GP.l g) g_2) =
  LB.arr Z dZ encZ (bareTo (GP.l g) g_2) ∧ LB.arr Int (0 : Int) encI (nines (pickO g) g_6) = LB.arr Int (0 : Int) encI (nines (pickO g) g_6) ∧ LB.arr Int (0 : Int) encI (pickO g_4) =
  LB.arr Int (0 : Int) encI (pickO g_4) ∧ LB.arr Int (0 : Int) encI (pickO g_7) = LB.arr Int (0 : Int) encI (pickO g_7) ∧ True)))))) ∧ (decide ((↑g_8 : Int) < (↑(List.length ys) :
  Int)) = false → ∃ (g : List Int × List Int), (((0 : Nat) + List.length (pickO g_7) ≤ List.length (pickO g_7) ∧ SV.ro Int (0 : Int) encI (List.take (List.length (pickO g_7))
  (List.drop (0 : Nat) (pickO g_7))) = SV.ro Int (0 : Int) encI (Prod.fst g)) ∧ (0 : Nat) + List.length (pickO g_4) ≤ List.length (pickO g_4) ∧ SV.ro Int (0 : Int) encI (List.take
  (List.length (pickO g_4)) (List.drop (0 : Nat) (pickO g_4))) = SV.ro Int (0 : Int) encI (Prod.snd g)) ∧ True ∧ List.length (Prod.fst g) ≤ (1000000000 : Nat) ∧ ∀ (b : Unit), True →
  (sameL (Prod.fst g) (Prod.snd g) = true → ∃ (g : Unit), True ∧ True ∧ True ∧ ∀ (b : Unit), True → ∃ (b : Unit), True ∧ SV.val (Value.bool true) = SV.val (Value.bool true) ∧ (0 :
  Nat) = (0 : Nat) ∧ True) ∧ (sameL (Prod.fst g) (Prod.snd g) = false → ∃ (b : Unit), True ∧ true = false ∧ (0 : Nat) = (0 : Nat) ∧ True)))))))) := by kernel_rfl

/-! what the order depends on -/
def strip (z : Z) : Z := ⟨z.node, z.kind, 0, 0, 0⟩
def S (l : List Z) : List Z := l.map strip
theorem S_len (l : List Z) : (S l).length = l.length := List.length_map ..
theorem S_getD (l : List Z) (i : Nat) : (S l).getD i dZ = strip (l.getD i dZ) := by
  unfold S
  rw [List.getD_eq_getElem?_getD, List.getD_eq_getElem?_getD, List.getElem?_map]
  cases l[i]? <;> rfl
theorem chkL_S : ∀ l : List Z, chkL (S l) = chkL l
  | [] => rfl
  | z :: r => by
    have : S (z :: r) = strip z :: S r := rfl
    rw [this, chkL, chkL, chkL_S r]; rfl
theorem chk_S (l : List Z) : chk (S l) = chk l := by unfold chk; rw [S_len, chkL_S]
theorem hasZ_S (l : List Z) (n : Int) : hasZ (S l) n = hasZ l n := by
  unfold hasZ S
  rw [List.any_map]; rfl
theorem nodesTo_S (l : List Z) (n : Int) : ∀ d, nodesTo (S l) n d = nodesTo l n d
  | 0 => rfl
  | d + 1 => by rw [nodesTo, nodesTo, nodesTo_S l n d]; unfold stepN; rw [hasZ_S, hasZ_S]
theorem checkN_S (l : List Z) (n : Int) : checkN (S l) n = checkN l n := by unfold checkN; rw [chk_S]
theorem nodesO_S (l : List Z) (n : Int) : nodesO (S l) n = nodesO l n := by unfold nodesO; rw [checkN_S, nodesTo_S]
theorem idxs_S {f : Z → Bool} (hf : ∀ z, f (strip z) = f z) (l : List Z) : ∀ i, idxs f (S l) i = idxs f l i
  | 0 => rfl
  | i + 1 => by rw [idxs, idxs, idxs_S hf l i, S_getD, hf]
theorem seg_S (l : List Z) (k : Bool) (nd : Int) : seg (S l) k nd = seg l k nd := by
  unfold seg lim
  rw [idxs_S (fun _ => rfl), idxs_S (fun _ => rfl), S_len]
theorem ordTo_S (l : List Z) (k : Bool) (L : List Int) : ∀ n, ordTo (S l) k L n = ordTo l k L n
  | 0 => rfl
  | n + 1 => by rw [ordTo, ordTo, ordTo_S l k L n, seg_S]
theorem ordO_S (l : List Z) (n : Int) (k : Bool) : ordO (S l) n k = ordO l n k := by unfold ordO; rw [checkN_S, nodesO_S, ordTo_S]
theorem pickE_S (l : List Z) (p : Po) (n : Int) : pickE (S l) p n = pickE l p n := by unfold pickE; rw [chk_S]
theorem pickO_S (l : List Z) (p : Po) (n : Int) (k : Bool) : pickO ⟨S l, p, n, k⟩ = pickO ⟨l, p, n, k⟩ := by
  unfold pickO
  dsimp only
  rw [pickE_S, ordO_S, show sel (S l) p = sel l p from funext fun x => by unfold sel; rw [S_getD]; rfl]
theorem bare_len (l : List Z) : ∀ i, (bareTo l i).length = i
  | 0 => rfl
  | i + 1 => by rw [bareTo, List.length_append, bare_len l i]; rfl
theorem bare_S (l : List Z) : ∀ i, i ≤ l.length → S (bareTo l i) = S (l.take i)
  | 0, _ => by rw [List.take_zero]; rfl
  | i + 1, h => by
    have e := bare_S l i (by omega)
    unfold S at e ⊢
    rw [bareTo, take_next l dZ (by omega), List.map_append, List.map_append, e]; rfl
theorem bare_pick {l : List Z} {p : Po} {n : Int} {k : Bool} : pickE (bareTo l l.length) p n = pickE l p n ∧ pickO ⟨bareTo l l.length, p, n, k⟩ = pickO ⟨l, p, n, k⟩ := by
  have e : S (bareTo l l.length) = S l := by rw [bare_S l _ (Nat.le_refl _), List.take_length]
  exact ⟨by rw [← pickE_S, e, pickE_S], by rw [← pickO_S, e, pickO_S]⟩
theorem nines_len {L : List Int} {i : Nat} (h : i ≤ L.length) : (nines L i).length = L.length := by
  unfold nines; rw [List.length_append, List.length_replicate, List.length_drop]; omega
theorem nines_next {L : List Int} {i : Nat} (h : i < L.length) : (nines L i).set i (-9) = nines L (i + 1) := by
  unfold nines
  rw [List.set_append_right _ _ (by simp), List.length_replicate, Nat.sub_self, drop_getD 0 h, List.set_cons_zero, List.replicate_succ', List.append_assoc]; rfl
theorem relaxZ (l : List Z) : relaxL (encZ dZ) (l.map encZ) = l.map encZ := by
  show (l.map encZ).map (relax (encZ dZ)) = l.map encZ
  rw [List.map_map]
  exact List.map_congr_left fun z _ => rfl
theorem roTZ (l : List Z) : SV.ro Z dZ encZ (List.take l.length (List.drop 0 l)) = SV.ro Z dZ encZ l := by rw [List.drop_zero, List.take_length]
theorem vKeeps : cKeeps.body (fun g => env [(12, cAwake), (11, cFew), (20, cRPick), (19, cSame)] (lKeeps g)) Try.f10 := by
  rw [vKeeps_eq]
  rintro ⟨l, p, nd, kn⟩ _
  dsimp only
  have aw : ∃ (g : Unit), True ∧ True ∧ True ∧ ∀ (b : Unit), True → ∃ (b : Unit), True ∧ SV.val (Value.bool true) = SV.val (Value.bool true) ∧ (0 : Nat) = (0 : Nat) ∧ True := ⟨(), trivial, trivial, trivial, fun _ _ => ⟨(), trivial, rfl, rfl, trivial⟩⟩
  refine ⟨(l, 10), ⟨rfl, rfl⟩, trivial, trivial, fun _ _ => ⟨fun _ => aw, fun hf => ?_⟩⟩
  have h10 : (l.length : Int) ≤ 10 := by simpa using hf
  refine ⟨l, relaxZ l, ⟨by omega, fun _ => ⟨rfl, rfl⟩⟩, ⟨0, Nat.zero_le _, ⟨⟨rfl, rfl⟩, rfl⟩, ⟨⟨rfl, fun _ => ⟨rfl, rfl⟩⟩, trivial⟩, rfl, rfl, rfl, rfl, trivial⟩, fun i hi => ⟨fun hlt => ?_, fun hge => ?_⟩⟩
  · have hlt : (i : Int) < l.length := of_decide_eq_true hlt
    have hi' : i < l.length := by omega
    have hb := bare_len l i
    rw [Int.toNat_natCast]
    have hA : 0 ≤ (i : Int) ∧ (i : Int) < l.length := ⟨by omega, hlt⟩
    have hB : 0 + i ≤ (bareTo l i).length := by omega
    have hC : LB.arr Z dZ encZ (List.take i (List.drop 0 (bareTo l i)) ++ [⟨(l.getD i dZ).node, (l.getD i dZ).kind, 7, -1, i⟩]) = LB.arr Z dZ encZ (bareTo l (i + 1)) := by
      rw [List.drop_zero, List.take_of_length_le (by omega)]; rfl
    repeat' first | exact hA | exact hi' | exact hB | refine And.intro ?_ ?_
    all_goals exact ⟨[⟨(l.getD i dZ).node, (l.getD i dZ).kind, 7, -1, i⟩], rfl, by simp only [List.length_cons, List.length_nil]; omega, inI (by omega) (by omega), i + 1, hi', by omega, ⟨⟨rfl, rfl, rfl⟩, by omega⟩, ⟨hC, trivial⟩, rfl, rfl, rfl, rfl, trivial⟩
  · have hge := of_decide_eq_false hge
    have : i = l.length := by omega
    subst this
    have hb := bare_len l l.length
    obtain ⟨eE, eO⟩ := bare_pick (l := l) (p := p) (n := nd) (k := kn)
    have hroB : SV.ro Z dZ encZ (List.take l.length (List.drop 0 (bareTo l l.length))) = SV.ro Z dZ encZ (bareTo l l.length) := by
      rw [List.drop_zero, List.take_of_length_le (by omega)]
    refine ⟨⟨l, p, nd, kn⟩, ⟨⟨by omega, roTZ l⟩, ⟨rfl, rfl, rfl, trivial⟩, rfl, rfl⟩, trivial, by show l.length ≤ _; omega, fun _ _ => ⟨⟨bareTo l l.length, p, nd, kn⟩, ⟨⟨by omega, hroB⟩, ⟨rfl, rfl, rfl, trivial⟩, rfl, rfl⟩, trivial, by show (bareTo l l.length).length ≤ _; omega, fun _ _ => ⟨fun hn => ?_, fun _ => ?_⟩⟩⟩
    · have hn : ¬ pickE l p nd = pickE (bareTo l l.length) p nd := by simpa using hn
      exact absurd eE.symm hn
    · rw [eO]
      have H := Nat.le_of_eq (Nat.zero_add (pickO ⟨l, p, nd, kn⟩).length)
      have hS : sameL (pickO ⟨l, p, nd, kn⟩) (pickO ⟨l, p, nd, kn⟩) = true := decide_eq_true rfl
      have hlen := pickO_le ⟨l, p, nd, kn⟩
      refine ⟨(pickO ⟨l, p, nd, kn⟩, pickO ⟨l, p, nd, kn⟩), ⟨⟨H, roT _⟩, H, roT _⟩, trivial, hlen, fun _ _ => ⟨fun hn => absurd hn (by show ¬ (!sameL (pickO ⟨l, p, nd, kn⟩) (pickO ⟨l, p, nd, kn⟩)) = true; rw [hS]; decide), fun _ => ⟨⟨0, Nat.zero_le _, rfl, ⟨by rw [nines, List.drop_zero]; rfl, trivial⟩, rfl, rfl, rfl, rfl, rfl, rfl, trivial⟩, fun i hi => ⟨fun hlt => ?_, fun _ => ?_⟩⟩⟩⟩
      · have hlt : (i : Int) < (pickO ⟨l, p, nd, kn⟩).length := of_decide_eq_true hlt
        have hi' : i < (pickO ⟨l, p, nd, kn⟩).length := by omega
        have hnl := nines_len hi
        rw [Int.toNat_natCast, Nat.zero_add]
        exact ⟨⟨by omega, hlt⟩, by omega, -9, rfl, inI (by omega) (by omega), i + 1, hi', by omega, by omega, ⟨by rw [nines_next hi'], trivial⟩, rfl, rfl, rfl, rfl, rfl, rfl, trivial⟩
      · refine ⟨⟨l, p, nd, kn⟩, ⟨⟨by omega, roTZ l⟩, ⟨rfl, rfl, rfl, trivial⟩, rfl, rfl⟩, trivial, by show l.length ≤ _; omega, fun _ _ => ⟨⟨0, Nat.zero_le _, rfl, trivial, rfl, rfl, rfl, rfl, rfl, rfl, rfl, rfl, trivial⟩, fun k hk => ⟨fun hlt => ?_, fun _ => ?_⟩⟩⟩
        · have hlt : (k : Int) < l.length := of_decide_eq_true hlt
          have hk' : k < l.length := by omega
          rw [Int.toNat_natCast, Nat.zero_add]
          have hA : 0 ≤ (k : Int) ∧ (k : Int) < l.length := ⟨by omega, hlt⟩
          have no : ∀ {x : Int} {q : Prop}, (x != x) = true → q := fun h => by simp at h
          exact ⟨hA, hk', hA, hk', fun h => no h, fun _ => ⟨hA, hk', hA, hk', fun h => no h, fun _ => ⟨hA, hk', hA, hk', fun h => no h, fun _ => ⟨hA, hk', hA, hk', fun h => no h, fun _ => ⟨hA, hk', hA, hk', fun h => no h, fun _ =>
            ⟨inI (by omega) (by omega), k + 1, hk', by omega, by omega, trivial, rfl, rfl, rfl, rfl, rfl, rfl, rfl, rfl, trivial⟩⟩⟩⟩⟩⟩
        · exact ⟨(_, _), ⟨⟨H, roT _⟩, H, roT _⟩, trivial, hlen, fun _ _ => ⟨fun _ => aw, fun h => same_no h⟩⟩
theorem sKeeps : SpecOk P 10 cKeeps.spec := spec_of cKeeps (tab_cons sAwake (tab_cons sFew (tab_cons sPick (tab_cons sSame (tab_nil P))))) mixed (fn := Try.f10) (by kernel_rfl) (by kernel_rfl) (by kernel_rfl) (Nat.zero_le _) (noIns fun _ => rfl) vKeeps
end Go.Zn
