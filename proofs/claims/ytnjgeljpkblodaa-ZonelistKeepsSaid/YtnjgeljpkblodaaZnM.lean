/- A PART OF THE PROOF. NO CONDITION. -/
import Derived.Test.YtnjgeljpkblodaaZnK
import Derived.Test.YtnjgeljpkblodaaSxAD
noncomputable section
set_option linter.unusedVariables false
set_option linter.unusedVariables false
set_option linter.unusedSimpArgs false
namespace Go.Zn
open Go.Proofs Go.SX
set_option maxRecDepth 100000

/-! Interleaves -/
def cInter : Con := pureCon GP Unit (fun g => [roZ g.l, .agg (encPo g.p), Bo g.kernel]) (fun _ => True) (fun _ _ => True) (fun _ _ => Bo true)
def lInter (g : GP) : Loops := loop2
  0 { γ := Nat, slots := [7, 8], vals := fun b i => [.sl b 1 0 (maskTo g.p.nodes i).length, I i], rekey := [7], blks := fun b i => [(b, .arr Int 0 encI (maskTo g.p.nodes i))], inv := fun i => i ≤ 4, μ := fun i => 4 - i }
  2 { γ := Nat, slots := [9], vals := fun _ i => [I i], inv := fun i => i ≤ (maskL g.p.nodes).length, μ := fun i => (maskL g.p.nodes).length - i }
theorem vInter_eq : (cInter.body (fun g => env [(12, cAwake), (22, cValid), (17, cROrder), (20, cRPick), (19, cSame)] (lInter g)) Try.f9) = (∀ (g : GP), True → ∃ (g_1 : List Z × Int), (SV.ro Z dZ encZ (GP.l g) = SV.ro Z dZ encZ (Prod.fst g_1) ∧ SV.val (Value.int IntKind.i64 (0 : Int)) = SV.val (Value.int IntKind.i64
  (Prod.snd g_1))) ∧ True ∧ True ∧ ∀ (b : Unit), True → ((!validZ (Prod.fst g_1) (Prod.snd g_1)) = true → ∃ (g : Unit), True ∧ True ∧ True ∧ ∀ (b : Unit), True → ∃ (b : Unit), True ∧
  SV.val (Value.bool true) = SV.val (Value.bool true) ∧ (0 : Nat) = (0 : Nat) ∧ True) ∧ ((!validZ (Prod.fst g_1) (Prod.snd g_1)) = false → (decide (Po.nodes (GP.p g) < (1 : Int)) =
  true → ∃ (g : Unit), True ∧ True ∧ True ∧ ∀ (b : Unit), True → ∃ (b : Unit), True ∧ SV.val (Value.bool true) = SV.val (Value.bool true) ∧ (0 : Nat) = (0 : Nat) ∧ True) ∧ (decide
  (Po.nodes (GP.p g) < (1 : Int)) = false → (decide (Po.nodes (GP.p g) ≥ (16 : Int)) = true → ∃ (g : Unit), True ∧ True ∧ True ∧ ∀ (b : Unit), True → ∃ (b : Unit), True ∧ SV.val
  (Value.bool true) = SV.val (Value.bool true) ∧ (0 : Nat) = (0 : Nat) ∧ True) ∧ (decide (Po.nodes (GP.p g) ≥ (16 : Int)) = false → (decide (Po.turn (GP.p g) < (0 : Int)) = true → ∃
  (g : Unit), True ∧ True ∧ True ∧ ∀ (b : Unit), True → ∃ (b : Unit), True ∧ SV.val (Value.bool true) = SV.val (Value.bool true) ∧ (0 : Nat) = (0 : Nat) ∧ True) ∧ (decide (Po.turn
  (GP.p g) < (0 : Int)) = false → (decide (Po.turn (GP.p g) > (1099511627776 : Int)) = true → ∃ (g : Unit), True ∧ True ∧ True ∧ ∀ (b : Unit), True → ∃ (b : Unit), True ∧ SV.val
  (Value.bool true) = SV.val (Value.bool true) ∧ (0 : Nat) = (0 : Nat) ∧ True) ∧ (decide (Po.turn (GP.p g) > (1099511627776 : Int)) = false → (∃ (g_2 : Nat), g_2 ≤ (4 : Nat) ∧ (((0 :
  Nat) = (0 : Nat) ∧ List.length (maskTo (Po.nodes (GP.p g)) g_2) = (0 : Nat)) ∧ (0 : Int) = (↑g_2 : Int)) ∧ ((maskTo (Po.nodes (GP.p g)) g_2 = [] ∧ ∀ (x : Int), (1 : Nat) = (1 :
  Nat) ∧ allOne (encI x) = true) ∧ True) ∧ LB.cells [SV.val (Value.int IntKind.i64 (Po.kind (GP.p g))), SV.val (Value.int IntKind.i64 (Po.nodes (GP.p g))), SV.val (Value.int
  IntKind.i64 (Po.turn (GP.p g)))] = LB.cells [SV.val (Value.int IntKind.i64 (Po.kind (GP.p g))), SV.val (Value.int IntKind.i64 (Po.nodes (GP.p g))), SV.val (Value.int IntKind.i64
  (Po.turn (GP.p g)))] ∧ True) ∧ ∀ (g_2 : Nat), g_2 ≤ (4 : Nat) → (decide ((↑g_2 : Int) < (4 : Int)) = true → inK IntKind.u64 (↑g_2 : Int) ∧ (0 : Int) ≤ (↑g_2 : Int) ∧ (2 : Int) ≠ (0
  : Int) ∧ ((Int.tmod (Int.fdiv (Po.nodes (GP.p g)) ((2 : Int) ^ min (Int.toNat (↑g_2 : Int)) (64 : Nat))) (2 : Int) == (1 : Int)) = true → (0 : Nat) + List.length (maskTo (Po.nodes
  (GP.p g)) g_2) ≤ List.length (maskTo (Po.nodes (GP.p g)) g_2) ∧ ∃ (ys : List Int), [[SV.val (Value.int IntKind.i64 (↑g_2 : Int))]] = List.map encI ys ∧ (List.length (maskTo
  (Po.nodes (GP.p g)) g_2) + List.length ys) * (8 : Nat) ≤ (140737488355328 : Nat) ∧ inK IntKind.i64 ((↑g_2 : Int) + (1 : Int)) ∧ ∃ (g' : Nat), g' ≤ (4 : Nat) ∧ (4 : Nat) - g' < (4 :
  Nat) - g_2 ∧ (((1 : Nat) = (1 : Nat) ∧ (0 : Nat) = (0 : Nat) ∧ List.length (maskTo (Po.nodes (GP.p g)) g_2) + List.length ys = List.length (maskTo (Po.nodes (GP.p g)) g')) ∧ (↑g_2
  : Int) + (1 : Int) = (↑g' : Int)) ∧ (LB.arr Int (0 : Int) encI (List.take (List.length (maskTo (Po.nodes (GP.p g)) g_2)) (List.drop (0 : Nat) (maskTo (Po.nodes (GP.p g)) g_2)) ++
  ys) = LB.arr Int (0 : Int) encI (maskTo (Po.nodes (GP.p g)) g') ∧ True) ∧ LB.cells [SV.val (Value.int IntKind.i64 (Po.kind (GP.p g))), SV.val (Value.int IntKind.i64 (Po.nodes (GP.p
  g))), SV.val (Value.int IntKind.i64 (Po.turn (GP.p g)))] = LB.cells [SV.val (Value.int IntKind.i64 (Po.kind (GP.p g))), SV.val (Value.int IntKind.i64 (Po.nodes (GP.p g))), SV.val
  (Value.int IntKind.i64 (Po.turn (GP.p g)))] ∧ True) ∧ ((Int.tmod (Int.fdiv (Po.nodes (GP.p g)) ((2 : Int) ^ min (Int.toNat (↑g_2 : Int)) (64 : Nat))) (2 : Int) == (1 : Int)) =
  false → inK IntKind.i64 ((↑g_2 : Int) + (1 : Int)) ∧ ∃ (g' : Nat), g' ≤ (4 : Nat) ∧ (4 : Nat) - g' < (4 : Nat) - g_2 ∧ (((1 : Nat) = (1 : Nat) ∧ (0 : Nat) = (0 : Nat) ∧ List.length
  (maskTo (Po.nodes (GP.p g)) g_2) = List.length (maskTo (Po.nodes (GP.p g)) g')) ∧ (↑g_2 : Int) + (1 : Int) = (↑g' : Int)) ∧ (LB.arr Int (0 : Int) encI (maskTo (Po.nodes (GP.p g))
  g_2) = LB.arr Int (0 : Int) encI (maskTo (Po.nodes (GP.p g)) g') ∧ True) ∧ LB.cells [SV.val (Value.int IntKind.i64 (Po.kind (GP.p g))), SV.val (Value.int IntKind.i64 (Po.nodes
  (GP.p g))), SV.val (Value.int IntKind.i64 (Po.turn (GP.p g)))] = LB.cells [SV.val (Value.int IntKind.i64 (Po.kind (GP.p g))), SV.val (Value.int IntKind.i64 (Po.nodes (GP.p g))),
  SV.val (Value.int IntKind.i64 (Po.turn (GP.p g)))] ∧ True)) ∧ (decide ((↑g_2 : Int) < (4 : Int)) = false → (∃ (g_3 : Nat), g_3 ≤ List.length (maskL (Po.nodes (GP.p g))) ∧ (0 : Int)
  = (↑g_3 : Int) ∧ True ∧ LB.cells [SV.val (Value.int IntKind.i64 (Po.kind (GP.p g))), SV.val (Value.int IntKind.i64 (Po.nodes (GP.p g))), SV.val (Value.int IntKind.i64 (Po.turn
  (GP.p g)))] = LB.cells [SV.val (Value.int IntKind.i64 (Po.kind (GP.p g))), SV.val (Value.int IntKind.i64 (Po.nodes (GP.p g))), SV.val (Value.int IntKind.i64 (Po.turn (GP.p g)))] ∧
  LB.arr Int (0 : Int) encI (maskTo (Po.nodes (GP.p g)) g_2) = LB.arr Int (0 : Int) encI (maskTo (Po.nodes (GP.p g)) g_2) ∧ True) ∧ ∀ (g_3 : Nat), g_3 ≤ List.length (maskL (Po.nodes
  (GP.p g))) → (decide ((↑g_3 : Int) < (↑(List.length (maskTo (Po.nodes (GP.p g)) g_2)) : Int)) = true → inK IntKind.i64 (Po.turn (GP.p g) + (↑g_3 : Int)) ∧ (↑(List.length (maskTo
  (Po.nodes (GP.p g)) g_2)) : Int) ≠ (0 : Int) ∧ ((0 : Int) ≤ Int.tmod (Po.turn (GP.p g) + (↑g_3 : Int)) (↑(List.length (maskTo (Po.nodes (GP.p g)) g_2)) : Int) ∧ Int.tmod (Po.turn
  (GP.p g) + (↑g_3 : Int)) (↑(List.length (maskTo (Po.nodes (GP.p g)) g_2)) : Int) < (↑(List.length (maskTo (Po.nodes (GP.p g)) g_2)) : Int)) ∧ (0 : Nat) + Int.toNat (Int.tmod
  (Po.turn (GP.p g) + (↑g_3 : Int)) (↑(List.length (maskTo (Po.nodes (GP.p g)) g_2)) : Int)) < List.length (maskTo (Po.nodes (GP.p g)) g_2) ∧ inK IntKind.i64 (Po.turn (GP.p g) +
  (↑g_3 : Int)) ∧ ∃ (g_4 : GP), (SV.ro Z dZ encZ (GP.l g) = SV.ro Z dZ encZ (GP.l g_4) ∧ (SV.val (Value.int IntKind.i64 (3 : Int)) = SV.val (Value.int IntKind.i64 (Po.kind (GP.p
  g_4))) ∧ SV.val (Value.int IntKind.i64 (Po.nodes (GP.p g))) = SV.val (Value.int IntKind.i64 (Po.nodes (GP.p g_4))) ∧ SV.val (Value.int IntKind.i64 (Po.turn (GP.p g) + (↑g_3 :
  Int))) = SV.val (Value.int IntKind.i64 (Po.turn (GP.p g_4))) ∧ True) ∧ SV.val (Value.int IntKind.i64 (0 : Int)) = SV.val (Value.int IntKind.i64 (GP.node g_4)) ∧ SV.val (Value.bool
  (GP.kernel g)) = SV.val (Value.bool (GP.kernel g_4))) ∧ True ∧ List.length (GP.l g_4) ≤ (1000000000 : Nat) ∧ ∀ (b : Unit), True → inK IntKind.u64 (List.getD (maskTo (Po.nodes (GP.p
  g)) g_2) ((0 : Nat) + Int.toNat (Int.tmod (Po.turn (GP.p g) + (↑g_3 : Int)) (↑(List.length (maskTo (Po.nodes (GP.p g)) g_2)) : Int))) (0 : Int)) ∧ (0 : Int) ≤ List.getD (maskTo
  (Po.nodes (GP.p g)) g_2) ((0 : Nat) + Int.toNat (Int.tmod (Po.turn (GP.p g) + (↑g_3 : Int)) (↑(List.length (maskTo (Po.nodes (GP.p g)) g_2)) : Int))) (0 : Int) ∧ ∃ (g_5 : GP),
  (SV.ro Z dZ encZ (GP.l g) = SV.ro Z dZ encZ (GP.l g_5) ∧ (SV.val (Value.int IntKind.i64 (1 : Int)) = SV.val (Value.int IntKind.i64 (Po.kind (GP.p g_5))) ∧ SV.val (Value.int
  IntKind.i64 (IntKind.wrap IntKind.i64 ((1 : Int) * (2 : Int) ^ min (Int.toNat (List.getD (maskTo (Po.nodes (GP.p g)) g_2) ((0 : Nat) + Int.toNat (Int.tmod (Po.turn (GP.p g) + (↑g_3
  : Int)) (↑(List.length (maskTo (Po.nodes (GP.p g)) g_2)) : Int))) (0 : Int))) (64 : Nat)))) = SV.val (Value.int IntKind.i64 (Po.nodes (GP.p g_5))) ∧ SV.val (Value.int IntKind.i64
  (0 : Int)) = SV.val (Value.int IntKind.i64 (Po.turn (GP.p g_5))) ∧ True) ∧ SV.val (Value.int IntKind.i64 (0 : Int)) = SV.val (Value.int IntKind.i64 (GP.node g_5)) ∧ SV.val
  (Value.bool (GP.kernel g)) = SV.val (Value.bool (GP.kernel g_5))) ∧ True ∧ List.length (GP.l g_5) ≤ (1000000000 : Nat) ∧ ∀ (b : Unit), True → ∃ (g_6 : GO), (SV.ro Z dZ encZ (GP.l
  g) = SV.ro Z dZ encZ (GO.l g_6) ∧ SV.val (Value.int IntKind.i64 (List.getD (maskTo (Po.nodes (GP.p g)) g_2) ((0 : Nat) + Int.toNat (Int.tmod (Po.turn (GP.p g) + (↑g_3 : Int))
  (↑(List.length (maskTo (Po.nodes (GP.p g)) g_2)) : Int))) (0 : Int))) = SV.val (Value.int IntKind.i64 (GO.node g_6)) ∧ SV.val (Value.bool (GP.kernel g)) = SV.val (Value.bool
  (GO.kernel g_6))) ∧ True ∧ List.length (GO.l g_6) ≤ (1000000000 : Nat) ∧ ∀ (b : Unit), True → ((pickE (GP.l g_4) (GP.p g_4) (GP.node g_4) != (0 : Int)) = true → ∃ (b : Unit), True
  ∧ true = false ∧ (0 : Nat) = (0 : Nat) ∧ True) ∧ ((pickE (GP.l g_4) (GP.p g_4) (GP.node g_4) != (0 : Int)) = false → ((pickE (GP.l g_5) (GP.p g_5) (GP.node g_5) != (0 : Int)) =
  true → ∃ (b : Unit), True ∧ true = false ∧ (0 : Nat) = (0 : Nat) ∧ True) ∧ ((pickE (GP.l g_5) (GP.p g_5) (GP.node g_5) != (0 : Int)) = false → ((checkN (GO.l g_6) (GO.node g_6) !=
  (0 : Int)) = true → ∃ (b : Unit), True ∧ true = false ∧ (0 : Nat) = (0 : Nat) ∧ True) ∧ ((checkN (GO.l g_6) (GO.node g_6) != (0 : Int)) = false → ∃ (g_7 : List Int × List Int),
  (((0 : Nat) + List.length (pickO g_4) ≤ List.length (pickO g_4) ∧ SV.ro Int (0 : Int) encI (List.take (List.length (pickO g_4)) (List.drop (0 : Nat) (pickO g_4))) = SV.ro Int (0 :
  Int) encI (Prod.fst g_7)) ∧ (0 : Nat) + List.length (pickO g_5) ≤ List.length (pickO g_5) ∧ SV.ro Int (0 : Int) encI (List.take (List.length (pickO g_5)) (List.drop (0 : Nat)
  (pickO g_5))) = SV.ro Int (0 : Int) encI (Prod.snd g_7)) ∧ True ∧ List.length (Prod.fst g_7) ≤ (1000000000 : Nat) ∧ ∀ (b : Unit), True → ((!sameL (Prod.fst g_7) (Prod.snd g_7)) =
  true → ∃ (b : Unit), True ∧ true = false ∧ (0 : Nat) = (0 : Nat) ∧ True) ∧ ((!sameL (Prod.fst g_7) (Prod.snd g_7)) = false → ∃ (g_8 : List Int × List Int), (((0 : Nat) +
  List.length (pickO g_5) ≤ List.length (pickO g_5) ∧ SV.ro Int (0 : Int) encI (List.take (List.length (pickO g_5)) (List.drop (0 : Nat) (pickO g_5))) = SV.ro Int (0 : Int) encI
  (Prod.fst g_8)) ∧ (0 : Nat) + List.length (ordO (GO.l g_6) (GO.node g_6) (GO.kernel g_6)) ≤ List.length (ordO (GO.l g_6) (GO.node g_6) (GO.kernel g_6)) ∧ SV.ro Int (0 : Int) encI
  (List.take (List.length (ordO (GO.l g_6) (GO.node g_6) (GO.kernel g_6))) (List.drop (0 : Nat) (ordO (GO.l g_6) (GO.node g_6) (GO.kernel g_6)))) = SV.ro Int (0 : Int) encI (Prod.snd
  g_8)) ∧ True ∧ List.length (Prod.fst g_8) ≤ (1000000000 : Nat) ∧ ∀ (b : Unit), True → ((!sameL (Prod.fst g_8) (Prod.snd g_8)) = true → ∃ (b : Unit), True ∧ true = false ∧ (0 : Nat)
  = (0 : Nat) ∧ True) ∧ ((!sameL (Prod.fst g_8) (Prod.snd g_8)) = false → inK IntKind.i64 ((↑g_3 : Int) + (1 : Int)) ∧ ∃ (g' : Nat), g' ≤ List.length (maskL (Po.nodes (GP.p g))) ∧
  List.length (maskL (Po.nodes (GP.p g))) - g' < List.length (maskL (Po.nodes (GP.p g))) - g_3 ∧ (↑g_3 : Int) + (1 : Int) = (↑g' : Int) ∧ True ∧ LB.cells [SV.val (Value.int
  IntKind.i64 (Po.kind (GP.p g))), SV.val (Value.int IntKind.i64 (Po.nodes (GP.p g))), SV.val (Value.int IntKind.i64 (Po.turn (GP.p g)))] = LB.cells [SV.val (Value.int IntKind.i64
  (Po.kind (GP.p g))), SV.val (Value.int IntKind.i64 (Po.nodes (GP.p g))), SV.val (Value.int IntKind.i64 (Po.turn (GP.p g)))] ∧ LB.arr Int (0 : Int) encI (maskTo (Po.nodes (GP.p g))
  g_2) = LB.arr Int (0 : Int) encI (maskTo (Po.nodes (GP.p g)) g_2) ∧ True)))))) ∧ (decide ((↑g_3 : Int) < (↑(List.length (maskTo (Po.nodes (GP.p g)) g_2)) : Int)) = false → ∃ (g :
  Unit), True ∧ True ∧ True ∧ ∀ (b : Unit), True → ∃ (b : Unit), True ∧ SV.val (Value.bool true) = SV.val (Value.bool true) ∧ (0 : Nat) = (0 : Nat) ∧ True)))))))) := by kernel_rfl

theorem bits1_all : ∀ m : Fin 16, ∀ i : Fin 4, (Int.tmod (Int.fdiv (m.val : Int) (2 ^ min (Int.toNat (i.val : Int)) 64)) 2 == 1) = inM (m.val : Int) (i.val : Int) := by decide +kernel
theorem bit1_eq {m : Int} (h1 : 0 ≤ m) (h2 : m ≤ 15) {i : Nat} (h4 : i < 4) : (Int.tmod (Int.fdiv m (2 ^ min (Int.toNat (i : Int)) 64)) 2 == 1) = inM m i := by
  have := bits1_all ⟨m.toNat, by omega⟩ ⟨i, h4⟩
  simp only [Int.toNat_of_nonneg h1] at this
  exact this
theorem one_all : ∀ i : Fin 4, (IntKind.wrap IntKind.i64 (1 * 2 ^ min (Int.toNat (i.val : Int)) 64) = 2 ^ i.val) ∧ (maskL (2 ^ i.val)).getD 0 0 = (i.val : Int) ∧ (1 : Int) ≤ 2 ^ i.val ∧ (2 : Int) ^ i.val ≤ 15 := by decide +kernel
theorem one_eq {x : Int} (h1 : 0 ≤ x) (h2 : x < 4) : ∃ w, IntKind.wrap IntKind.i64 (1 * 2 ^ min (Int.toNat x) 64) = w ∧ (maskL w).getD 0 0 = x ∧ 1 ≤ w ∧ w ≤ 15 := by
  have := one_all ⟨x.toNat, by omega⟩
  simp only [Int.toNat_of_nonneg h1] at this
  exact ⟨_, this.1, this.2⟩
theorem pick_at {l : List Z} {p : Po} {n : Int} {k : Bool} (h0 : chk l = 0) (hk : p.kind = 1 ∨ p.kind = 3) (h1 : 1 ≤ p.nodes) (h2 : p.nodes ≤ 15) (ht : 0 ≤ p.turn) (hn : firstI p 0 = n) :
    pickE l p 0 = 0 ∧ pickO ⟨l, p, 0, k⟩ = ordO l n k := by
  have hp : polE p = 0 := by unfold polE; grind
  have he : pickE l p 0 = 0 := by rw [pickE, if_neg (by rw [h0]; decide), if_neg (by rw [hp]; decide), if_neg (by decide)]
  refine ⟨he, ?_⟩
  unfold pickO
  dsimp only
  rw [if_neg (by rw [he]; decide), hn]
  refine List.filter_eq_self.2 fun x _ => ?_
  unfold sel
  rcases hk with h | h <;> rw [h] <;> rfl
theorem vInter : cInter.body (fun g => env [(12, cAwake), (22, cValid), (17, cROrder), (20, cRPick), (19, cSame)] (lInter g)) Try.f9 := by
  rw [vInter_eq]
  rintro ⟨l, ⟨kd, m, tr⟩, nd, kn⟩ _
  dsimp only
  have aw : ∃ (g : Unit), True ∧ True ∧ True ∧ ∀ (b : Unit), True → ∃ (b : Unit), True ∧ SV.val (Value.bool true) = SV.val (Value.bool true) ∧ (0 : Nat) = (0 : Nat) ∧ True := ⟨(), trivial, trivial, trivial, fun _ _ => ⟨(), trivial, rfl, rfl, trivial⟩⟩
  refine ⟨(l, 0), ⟨rfl, rfl⟩, trivial, trivial, fun _ _ => ⟨fun _ => aw, fun hv => ⟨fun _ => aw, fun hm1 => ⟨fun _ => aw, fun hm2 => ⟨fun _ => aw, fun ht1 => ⟨fun _ => aw, fun ht2 => ?_⟩⟩⟩⟩⟩⟩
  have hc := valid_ok hv
  obtain ⟨h0, h1, h2, h6⟩ := checkN_zero hc
  dsimp only at h0 h1 h2 h6
  have hm1 := of_decide_eq_false hm1
  have hm2 := of_decide_eq_false hm2
  have ht1 := of_decide_eq_false ht1
  have ht2 := of_decide_eq_false ht2
  refine ⟨⟨0, by omega, ⟨⟨rfl, rfl⟩, rfl⟩, ⟨⟨rfl, okI'⟩, trivial⟩, rfl, trivial⟩, fun i hi => ⟨fun hlt => ?_, fun hge => ?_⟩⟩
  · have hlt : (i : Int) < 4 := of_decide_eq_true hlt
    have hi' : i < 4 := by omega
    have hl := maskTo_len m i
    rw [bit1_eq (by omega) (by omega) hi']
    refine ⟨⟨by show (0 : Int) ≤ _; omega, by show _ ≤ (18446744073709551615 : Int); omega⟩, by omega, by decide, fun h => ⟨Nat.le_of_eq (Nat.zero_add _), [(i : Int)], rfl, by simp only [List.length_cons, List.length_nil]; omega, inI (by omega) (by omega), i + 1, hi', by omega, ⟨⟨rfl, rfl, ?_⟩, by omega⟩, ⟨?_, trivial⟩, rfl, trivial⟩, fun h => ⟨inI (by omega) (by omega), i + 1, hi', by omega, ⟨⟨rfl, rfl, ?_⟩, by omega⟩, ⟨?_, trivial⟩, rfl, trivial⟩⟩
    · rw [maskTo_hit h, List.length_append]
    · rw [maskTo_hit h, List.drop_zero, List.take_length]
    · rw [maskTo_miss h]
    · rw [maskTo_miss h]
  · have hge := of_decide_eq_false hge
    have : i = 4 := by omega
    subst this
    rw [show maskTo m 4 = maskL m from rfl]
    obtain ⟨q1, q2, q3⟩ := mask_pos (m := m) (by omega) (by omega)
    refine ⟨⟨0, Nat.zero_le _, rfl, trivial, rfl, rfl, trivial⟩, fun i hi => ⟨fun hlt => ?_, fun _ => aw⟩⟩
    have hlt : (i : Int) < (maskL m).length := of_decide_eq_true hlt
    have t1 := Int.tmod_nonneg (a := tr + i) ((maskL m).length : Int) (by omega)
    have t2 := Int.tmod_lt_of_pos (tr + i) (b := ((maskL m).length : Int)) (by omega)
    rw [Nat.zero_add]
    have hn := q3 (Int.toNat (Int.tmod (tr + i) ((maskL m).length : Int))) (by omega)
    have hf : firstI ⟨3, m, tr + i⟩ 0 = (maskL m).getD (Int.toNat (Int.tmod (tr + i) ((maskL m).length : Int))) 0 := by
      unfold firstI; rw [if_neg (by dsimp only; omega), if_neg (by dsimp only; omega)]
    generalize hN : (maskL m).getD (Int.toNat (Int.tmod (tr + i) ((maskL m).length : Int))) 0 = n at hn hf ⊢
    obtain ⟨w, hw, hw1, hw2, hw3⟩ := one_eq hn.1 hn.2
    rw [hw]
    have hf2 : firstI ⟨1, w, 0⟩ 0 = n := by
      unfold firstI; rw [if_neg (by dsimp only; omega), if_pos rfl]; exact hw1
    obtain ⟨e1, o1⟩ := pick_at (k := kn) (n := n) (p := ⟨3, m, tr + i⟩) h0 (.inr rfl) (by dsimp only; omega) (by dsimp only; omega) (by dsimp only; omega) hf
    obtain ⟨e2, o2⟩ := pick_at (k := kn) (n := n) (p := ⟨1, w, 0⟩) h0 (.inl rfl) hw2 hw3 (Int.le_refl 0) hf2
    have e3 : checkN l n = 0 := by rw [checkN, if_neg (by rw [h0]; decide), if_neg (by omega)]
    refine ⟨inI (by omega) (by omega), by omega, ⟨t1, t2⟩, by omega, inI (by omega) (by omega), ⟨l, ⟨3, m, tr + i⟩, 0, kn⟩, ⟨rfl, ⟨rfl, rfl, rfl, trivial⟩, rfl, rfl⟩, trivial, by show l.length ≤ _; omega, fun _ _ => ⟨⟨by show (0 : Int) ≤ _; omega, by show _ ≤ (18446744073709551615 : Int); omega⟩, hn.1, ⟨l, ⟨1, w, 0⟩, 0, kn⟩, ⟨rfl, ⟨rfl, rfl, rfl, trivial⟩, rfl, rfl⟩, trivial, by show l.length ≤ _; omega, fun _ _ =>
      ⟨⟨l, n, kn⟩, ⟨rfl, rfl, rfl⟩, trivial, by show l.length ≤ _; omega, fun _ _ => ⟨fun hb => absurd e1 (by simpa using hb), fun _ => ⟨fun hb => absurd e2 (by simpa using hb), fun _ => ⟨fun hb => absurd e3 (by simpa using hb), fun _ => ?_⟩⟩⟩⟩⟩⟩
    rw [o1, o2]
    have H := Nat.le_of_eq (Nat.zero_add (ordO l n kn).length)
    have hS : sameL (ordO l n kn) (ordO l n kn) = true := decide_eq_true rfl
    exact ⟨(ordO l n kn, ordO l n kn), ⟨⟨H, roT _⟩, H, roT _⟩, trivial, ordO_le _ _ _, fun _ _ => ⟨fun hb => absurd hS (by simpa using hb), fun _ => ⟨(ordO l n kn, ordO l n kn), ⟨⟨H, roT _⟩, H, roT _⟩, trivial, ordO_le _ _ _, fun _ _ => ⟨fun hb => absurd hS (by simpa using hb), fun _ => ⟨inI (by omega) (by omega), i + 1, by omega, by omega, by omega, trivial, rfl, rfl, trivial⟩⟩⟩⟩⟩
theorem sInter : SpecOk P 9 cInter.spec := spec_of cInter (tab_cons sAwake (tab_cons sValid (tab_cons sOrder (tab_cons sPick (tab_cons sSame (tab_nil P)))))) mixed (fn := Try.f9) (by kernel_rfl) (by kernel_rfl) (by kernel_rfl) (Nat.zero_le _) (noIns fun _ => rfl) vInter
end Go.Zn
