/- A PART OF THE PROOF. NO CONDITION. -/
import Derived.Test.YtnjgeljpkblodaaZnJ
import Derived.Test.YtnjgeljpkblodaaSxAD
noncomputable section
set_option linter.unusedVariables false
set_option linter.unusedVariables false
set_option linter.unusedSimpArgs false
namespace Go.Zn
open Go.Proofs Go.SX
set_option maxRecDepth 100000

/-! Binds -/
structure GB where
  g : GO
  m : Int
def bp (g : GB) : GP := ⟨g.g.l, ⟨2, g.m, 0⟩, g.g.node, g.g.kernel⟩
def ordB (g : GB) : List Int := ordO g.g.l g.g.node g.g.kernel
def cntB (g : GB) (k : Nat) : Nat := (((ordB g).take k).filter (sel g.g.l ⟨2, g.m, 0⟩)).length
def cBinds : Con := pureCon GB Unit (fun g => [roZ g.g.l, I g.m, .agg [I g.g.node, Bo g.g.kernel]]) (fun _ => True) (fun _ _ => True) (fun _ _ => Bo true)
def lBinds (g : GB) : Loops := loop1 0 { γ := Nat, slots := [11, 12], vals := fun _ k => [I (cntB g k), I k], inv := fun k => k ≤ (ordB g).length, μ := fun k => (ordB g).length - k }
theorem vBinds_eq : (cBinds.body (fun g => env [(12, cAwake), (22, cValid), (17, cROrder), (20, cRPick)] (lBinds g)) Try.f8) = (∀ (g : GB), True → ∃ (g_1 : List Z × Int), (SV.ro Z dZ encZ (GO.l (GB.g g)) = SV.ro Z dZ encZ (Prod.fst g_1) ∧ SV.val (Value.int IntKind.i64 (GO.node (GB.g g))) = SV.val (Value.int
  IntKind.i64 (Prod.snd g_1))) ∧ True ∧ True ∧ ∀ (b : Unit), True → ((!validZ (Prod.fst g_1) (Prod.snd g_1)) = true → ∃ (g : Unit), True ∧ True ∧ True ∧ ∀ (b : Unit), True → ∃ (b :
  Unit), True ∧ SV.val (Value.bool true) = SV.val (Value.bool true) ∧ (0 : Nat) = (0 : Nat) ∧ True) ∧ ((!validZ (Prod.fst g_1) (Prod.snd g_1)) = false → (decide (GB.m g < (1 : Int))
  = true → ∃ (g : Unit), True ∧ True ∧ True ∧ ∀ (b : Unit), True → ∃ (b : Unit), True ∧ SV.val (Value.bool true) = SV.val (Value.bool true) ∧ (0 : Nat) = (0 : Nat) ∧ True) ∧ (decide
  (GB.m g < (1 : Int)) = false → (decide (GB.m g ≥ (16 : Int)) = true → ∃ (g : Unit), True ∧ True ∧ True ∧ ∀ (b : Unit), True → ∃ (b : Unit), True ∧ SV.val (Value.bool true) = SV.val
  (Value.bool true) ∧ (0 : Nat) = (0 : Nat) ∧ True) ∧ (decide (GB.m g ≥ (16 : Int)) = false → ∃ (g_2 : GP), (SV.ro Z dZ encZ (GO.l (GB.g g)) = SV.ro Z dZ encZ (GP.l g_2) ∧ (SV.val
  (Value.int IntKind.i64 (2 : Int)) = SV.val (Value.int IntKind.i64 (Po.kind (GP.p g_2))) ∧ SV.val (Value.int IntKind.i64 (GB.m g)) = SV.val (Value.int IntKind.i64 (Po.nodes (GP.p
  g_2))) ∧ SV.val (Value.int IntKind.i64 (0 : Int)) = SV.val (Value.int IntKind.i64 (Po.turn (GP.p g_2))) ∧ True) ∧ SV.val (Value.int IntKind.i64 (GO.node (GB.g g))) = SV.val
  (Value.int IntKind.i64 (GP.node g_2)) ∧ SV.val (Value.bool (GO.kernel (GB.g g))) = SV.val (Value.bool (GP.kernel g_2))) ∧ True ∧ List.length (GP.l g_2) ≤ (1000000000 : Nat) ∧ ∀ (b
  : Unit), True → ∃ (g_3 : GO), (SV.ro Z dZ encZ (GO.l (GB.g g)) = SV.ro Z dZ encZ (GO.l g_3) ∧ SV.val (Value.int IntKind.i64 (GO.node (GB.g g))) = SV.val (Value.int IntKind.i64
  (GO.node g_3)) ∧ SV.val (Value.bool (GO.kernel (GB.g g))) = SV.val (Value.bool (GO.kernel g_3))) ∧ True ∧ List.length (GO.l g_3) ≤ (1000000000 : Nat) ∧ ∀ (b : Unit), True → ((pickE
  (GP.l g_2) (GP.p g_2) (GP.node g_2) != (0 : Int)) = true → ∃ (b : Unit), True ∧ true = false ∧ (0 : Nat) = (0 : Nat) ∧ True) ∧ ((pickE (GP.l g_2) (GP.p g_2) (GP.node g_2) != (0 :
  Int)) = false → ((checkN (GO.l g_3) (GO.node g_3) != (0 : Int)) = true → ∃ (b : Unit), True ∧ true = false ∧ (0 : Nat) = (0 : Nat) ∧ True) ∧ ((checkN (GO.l g_3) (GO.node g_3) != (0
  : Int)) = false → (∃ (g_4 : Nat), g_4 ≤ List.length (ordB g) ∧ ((0 : Int) = (↑(cntB g g_4) : Int) ∧ (0 : Int) = (↑g_4 : Int)) ∧ True ∧ LB.cells [SV.val (Value.int IntKind.i64
  (GO.node (GB.g g))), SV.val (Value.bool (GO.kernel (GB.g g)))] = LB.cells [SV.val (Value.int IntKind.i64 (GO.node (GB.g g))), SV.val (Value.bool (GO.kernel (GB.g g)))] ∧ LB.arr Int
  (0 : Int) encI (pickO g_2) = LB.arr Int (0 : Int) encI (pickO g_2) ∧ LB.arr Int (0 : Int) encI (ordO (GO.l g_3) (GO.node g_3) (GO.kernel g_3)) = LB.arr Int (0 : Int) encI (ordO
  (GO.l g_3) (GO.node g_3) (GO.kernel g_3)) ∧ True) ∧ ∀ (g_4 : Nat), g_4 ≤ List.length (ordB g) → (decide ((↑g_4 : Int) < (↑(List.length (ordO (GO.l g_3) (GO.node g_3) (GO.kernel
  g_3))) : Int)) = true → ((0 : Int) ≤ (↑g_4 : Int) ∧ (↑g_4 : Int) < (↑(List.length (ordO (GO.l g_3) (GO.node g_3) (GO.kernel g_3))) : Int)) ∧ (0 : Nat) + Int.toNat (↑g_4 : Int) <
  List.length (ordO (GO.l g_3) (GO.node g_3) (GO.kernel g_3)) ∧ (decide (List.getD (ordO (GO.l g_3) (GO.node g_3) (GO.kernel g_3)) ((0 : Nat) + Int.toNat (↑g_4 : Int)) (0 : Int) < (0
  : Int)) = true → ∃ (b : Unit), True ∧ true = false ∧ (0 : Nat) = (0 : Nat) ∧ True) ∧ (decide (List.getD (ordO (GO.l g_3) (GO.node g_3) (GO.kernel g_3)) ((0 : Nat) + Int.toNat (↑g_4
  : Int)) (0 : Int) < (0 : Int)) = false → ((0 : Int) ≤ (↑g_4 : Int) ∧ (↑g_4 : Int) < (↑(List.length (ordO (GO.l g_3) (GO.node g_3) (GO.kernel g_3))) : Int)) ∧ (0 : Nat) + Int.toNat
  (↑g_4 : Int) < List.length (ordO (GO.l g_3) (GO.node g_3) (GO.kernel g_3)) ∧ (decide (List.getD (ordO (GO.l g_3) (GO.node g_3) (GO.kernel g_3)) ((0 : Nat) + Int.toNat (↑g_4 : Int))
  (0 : Int) ≥ (↑(List.length (GO.l (GB.g g))) : Int)) = true → ∃ (b : Unit), True ∧ true = false ∧ (0 : Nat) = (0 : Nat) ∧ True) ∧ (decide (List.getD (ordO (GO.l g_3) (GO.node g_3)
  (GO.kernel g_3)) ((0 : Nat) + Int.toNat (↑g_4 : Int)) (0 : Int) ≥ (↑(List.length (GO.l (GB.g g))) : Int)) = false → ((0 : Int) ≤ (↑g_4 : Int) ∧ (↑g_4 : Int) < (↑(List.length (ordO
  (GO.l g_3) (GO.node g_3) (GO.kernel g_3))) : Int)) ∧ (0 : Nat) + Int.toNat (↑g_4 : Int) < List.length (ordO (GO.l g_3) (GO.node g_3) (GO.kernel g_3)) ∧ ((0 : Int) ≤ List.getD (ordO
  (GO.l g_3) (GO.node g_3) (GO.kernel g_3)) ((0 : Nat) + Int.toNat (↑g_4 : Int)) (0 : Int) ∧ List.getD (ordO (GO.l g_3) (GO.node g_3) (GO.kernel g_3)) ((0 : Nat) + Int.toNat (↑g_4 :
  Int)) (0 : Int) < (↑(List.length (GO.l (GB.g g))) : Int)) ∧ Int.toNat (List.getD (ordO (GO.l g_3) (GO.node g_3) (GO.kernel g_3)) ((0 : Nat) + Int.toNat (↑g_4 : Int)) (0 : Int)) <
  List.length (GO.l (GB.g g)) ∧ inK IntKind.u64 (Z.node (List.getD (GO.l (GB.g g)) (Int.toNat (List.getD (ordO (GO.l g_3) (GO.node g_3) (GO.kernel g_3)) ((0 : Nat) + Int.toNat (↑g_4
  : Int)) (0 : Int))) dZ)) ∧ (0 : Int) ≤ Z.node (List.getD (GO.l (GB.g g)) (Int.toNat (List.getD (ordO (GO.l g_3) (GO.node g_3) (GO.kernel g_3)) ((0 : Nat) + Int.toNat (↑g_4 : Int))
  (0 : Int))) dZ) ∧ (2 : Int) ≠ (0 : Int) ∧ ((Int.tmod (Int.fdiv (GB.m g) ((2 : Int) ^ min (Int.toNat (Z.node (List.getD (GO.l (GB.g g)) (Int.toNat (List.getD (ordO (GO.l g_3)
  (GO.node g_3) (GO.kernel g_3)) ((0 : Nat) + Int.toNat (↑g_4 : Int)) (0 : Int))) dZ))) (64 : Nat))) (2 : Int) == (0 : Int)) = true → inK IntKind.i64 ((↑g_4 : Int) + (1 : Int)) ∧ ∃
  (g' : Nat), g' ≤ List.length (ordB g) ∧ List.length (ordB g) - g' < List.length (ordB g) - g_4 ∧ ((↑(cntB g g_4) : Int) = (↑(cntB g g') : Int) ∧ (↑g_4 : Int) + (1 : Int) = (↑g' :
  Int)) ∧ True ∧ LB.cells [SV.val (Value.int IntKind.i64 (GO.node (GB.g g))), SV.val (Value.bool (GO.kernel (GB.g g)))] = LB.cells [SV.val (Value.int IntKind.i64 (GO.node (GB.g g))),
  SV.val (Value.bool (GO.kernel (GB.g g)))] ∧ LB.arr Int (0 : Int) encI (pickO g_2) = LB.arr Int (0 : Int) encI (pickO g_2) ∧ LB.arr Int (0 : Int) encI (ordO (GO.l g_3) (GO.node g_3)
  (GO.kernel g_3)) = LB.arr Int (0 : Int) encI (ordO (GO.l g_3) (GO.node g_3) (GO.kernel g_3)) ∧ True) ∧ ((Int.tmod (Int.fdiv (GB.m g) ((2 : Int) ^ min (Int.toNat (Z.node (List.getD
  (GO.l (GB.g g)) (Int.toNat (List.getD (ordO (GO.l g_3) (GO.node g_3) (GO.kernel g_3)) ((0 : Nat) + Int.toNat (↑g_4 : Int)) (0 : Int))) dZ))) (64 : Nat))) (2 : Int) == (0 : Int)) =
  false → (decide ((↑(cntB g g_4) : Int) ≥ (↑(List.length (pickO g_2)) : Int)) = true → ∃ (b : Unit), True ∧ true = false ∧ (0 : Nat) = (0 : Nat) ∧ True) ∧ (decide ((↑(cntB g g_4) :
  Int) ≥ (↑(List.length (pickO g_2)) : Int)) = false → ((0 : Int) ≤ (↑(cntB g g_4) : Int) ∧ (↑(cntB g g_4) : Int) < (↑(List.length (pickO g_2)) : Int)) ∧ (0 : Nat) + Int.toNat
  (↑(cntB g g_4) : Int) < List.length (pickO g_2) ∧ ((0 : Int) ≤ (↑g_4 : Int) ∧ (↑g_4 : Int) < (↑(List.length (ordO (GO.l g_3) (GO.node g_3) (GO.kernel g_3))) : Int)) ∧ (0 : Nat) +
  Int.toNat (↑g_4 : Int) < List.length (ordO (GO.l g_3) (GO.node g_3) (GO.kernel g_3)) ∧ ((List.getD (pickO g_2) ((0 : Nat) + Int.toNat (↑(cntB g g_4) : Int)) (0 : Int) != List.getD
  (ordO (GO.l g_3) (GO.node g_3) (GO.kernel g_3)) ((0 : Nat) + Int.toNat (↑g_4 : Int)) (0 : Int)) = true → ∃ (b : Unit), True ∧ true = false ∧ (0 : Nat) = (0 : Nat) ∧ True) ∧
  ((List.getD (pickO g_2) ((0 : Nat) + Int.toNat (↑(cntB g g_4) : Int)) (0 : Int) != List.getD (ordO (GO.l g_3) (GO.node g_3) (GO.kernel g_3)) ((0 : Nat) + Int.toNat (↑g_4 : Int)) (0
  : Int)) = false → inK IntKind.i64 ((↑(cntB g g_4) : Int) + (1 : Int)) ∧ inK IntKind.i64 ((↑g_4 : Int) + (1 : Int)) ∧ ∃ (g' : Nat), g' ≤ List.length (ordB g) ∧ List.length (ordB g)
  - g' < List.length (ordB g) - g_4 ∧ ((↑(cntB g g_4) : Int) + (1 : Int) = (↑(cntB g g') : Int) ∧ (↑g_4 : Int) + (1 : Int) = (↑g' : Int)) ∧ True ∧ LB.cells [SV.val (Value.int
  IntKind.i64 (GO.node (GB.g g))), SV.val (Value.bool (GO.kernel (GB.g g)))] = LB.cells [SV.val (Value.int IntKind.i64 (GO.node (GB.g g))), SV.val (Value.bool (GO.kernel (GB.g g)))]
  ∧ LB.arr Int (0 : Int) encI (pickO g_2) = LB.arr Int (0 : Int) encI (pickO g_2) ∧ LB.arr Int (0 : Int) encI (ordO (GO.l g_3) (GO.node g_3) (GO.kernel g_3)) = LB.arr Int (0 : Int)
  encI (ordO (GO.l g_3) (GO.node g_3) (GO.kernel g_3)) ∧ True)))))) ∧ (decide ((↑g_4 : Int) < (↑(List.length (ordO (GO.l g_3) (GO.node g_3) (GO.kernel g_3))) : Int)) = false →
  (((↑(cntB g g_4) : Int) == (↑(List.length (pickO g_2)) : Int)) = true → ∃ (g : Unit), True ∧ True ∧ True ∧ ∀ (b : Unit), True → ∃ (b : Unit), True ∧ SV.val (Value.bool true) =
  SV.val (Value.bool true) ∧ (0 : Nat) = (0 : Nat) ∧ True) ∧ (((↑(cntB g g_4) : Int) == (↑(List.length (pickO g_2)) : Int)) = false → ∃ (b : Unit), True ∧ true = false ∧ (0 : Nat) =
  (0 : Nat) ∧ True)))))))) := by kernel_rfl

theorem bits0_all : ∀ m : Fin 16, ∀ i : Fin 4, (Int.tmod (Int.fdiv (m.val : Int) (2 ^ min (Int.toNat (i.val : Int)) 64)) 2 == 0) = !inM (m.val : Int) (i.val : Int) := by decide +kernel
theorem bit0_eq {m x : Int} (h1 : 0 ≤ m) (h2 : m ≤ 15) (h3 : 0 ≤ x) (h4 : x < 4) : (Int.tmod (Int.fdiv m (2 ^ min (Int.toNat x) 64)) 2 == 0) = !inM m x := by
  have := bits0_all ⟨m.toNat, by omega⟩ ⟨x.toNat, by omega⟩
  simp only [Int.toNat_of_nonneg h1, Int.toNat_of_nonneg h3] at this
  exact this
theorem filter_at {α : Type} (f : α → Bool) (d : α) {L : List α} {k : Nat} (h : k < L.length) (hf : f (L.getD k d) = true) :
    ((L.take k).filter f).length < (L.filter f).length ∧ (L.filter f).getD ((L.take k).filter f).length d = L.getD k d := by
  have e : L.filter f = (L.take k).filter f ++ L.getD k d :: (L.drop (k + 1)).filter f := by
    conv => lhs; rw [← List.take_append_drop k L]
    rw [List.filter_append, drop_getD d h, List.filter_cons, if_pos hf]
  constructor
  · rw [e, List.length_append]; simp
  · conv => lhs; rw [e]
    rw [List.getD_eq_getElem?_getD, List.getElem?_append_right (Nat.le_refl _), Nat.sub_self]; rfl
theorem pickE_bind {g : GB} (hc : checkN g.g.l g.g.node = 0) (h1 : 1 ≤ g.m) (h2 : g.m ≤ 15) : pickE g.g.l ⟨2, g.m, 0⟩ g.g.node = 0 := by
  obtain ⟨h0, h3, h4, h6⟩ := checkN_zero hc
  have hp : polE ⟨2, g.m, 0⟩ = 0 := by unfold polE; dsimp only; grind
  rw [pickE, if_neg (by rw [h0]; decide), if_neg (by rw [hp]; decide), if_neg (by omega)]
theorem pickO_bind {g : GB} (h : pickE g.g.l ⟨2, g.m, 0⟩ g.g.node = 0) : pickO (bp g) = (ordB g).filter (sel g.g.l ⟨2, g.m, 0⟩) := by
  unfold pickO bp
  dsimp only
  rw [if_neg (by rw [h]; decide)]
  rfl
theorem sel_b2 {l : List Z} {m x : Int} : sel l ⟨2, m, 0⟩ x = inM m (l.getD x.toNat dZ).node := rfl
theorem vBinds : cBinds.body (fun g => env [(12, cAwake), (22, cValid), (17, cROrder), (20, cRPick)] (lBinds g)) Try.f8 := by
  rw [vBinds_eq]
  intro g _
  have aw : ∃ (g : Unit), True ∧ True ∧ True ∧ ∀ (b : Unit), True → ∃ (b : Unit), True ∧ SV.val (Value.bool true) = SV.val (Value.bool true) ∧ (0 : Nat) = (0 : Nat) ∧ True := ⟨(), trivial, trivial, trivial, fun _ _ => ⟨(), trivial, rfl, rfl, trivial⟩⟩
  refine ⟨(g.g.l, g.g.node), ⟨rfl, rfl⟩, trivial, trivial, fun _ _ => ⟨fun _ => aw, fun hv => ⟨fun _ => aw, fun hm1 => ⟨fun _ => aw, fun hm2 => ?_⟩⟩⟩⟩
  have hc := valid_ok hv
  obtain ⟨h0, h1, h2, h6⟩ := checkN_zero hc
  dsimp only at h0 h1 h2 h6
  have hm1 := of_decide_eq_false hm1
  have hm2 := of_decide_eq_false hm2
  have hpe := pickE_bind (g := g) hc (by omega) (by omega)
  have hpo := pickO_bind hpe
  refine ⟨bp g, ⟨rfl, ⟨rfl, rfl, rfl, trivial⟩, rfl, rfl⟩, trivial, by show g.g.l.length ≤ _; omega, fun _ _ => ⟨g.g, ⟨rfl, rfl, rfl⟩, trivial, by omega, fun _ _ => ⟨fun hb => absurd (show pickE (bp g).l (bp g).p (bp g).node = 0 from hpe) (by simpa using hb), fun _ => ⟨fun hb => absurd hc (by simpa using hb), fun _ => ⟨⟨0, Nat.zero_le _, ⟨rfl, rfl⟩, trivial, rfl, rfl, rfl, trivial⟩, fun k hk => ⟨fun hlt => ?_, fun hge => ?_⟩⟩⟩⟩⟩⟩
  · have hlt : (k : Int) < (ordB g).length := of_decide_eq_true hlt
    have hk' : k < (ordB g).length := by omega
    have hl : (ordB g).length ≤ 96 := ordO_len
    have hmem := ordO_mem (getD_mem (d := 0) hk')
    obtain ⟨hx0, hx1⟩ : 0 ≤ (ordB g).getD k 0 ∧ (ordB g).getD k 0 < g.g.l.length := hmem
    have hz := (chk_zero h0 _ (getD_mem (d := dZ) (l := g.g.l) (i := Int.toNat ((ordB g).getD k 0)) (by omega))).1
    have hnx := filter_next (sel g.g.l ⟨2, g.m, 0⟩) 0 hk'
    have hcl : cntB g k ≤ k := by unfold cntB; exact Nat.le_trans (List.length_filter_le _ _) (by rw [List.length_take]; omega)
    rw [Int.toNat_natCast, Nat.zero_add, show ordO g.g.l g.g.node g.g.kernel = ordB g from rfl, bit0_eq (by omega) (by omega) hz.1 hz.2, ← sel_b2 (l := g.g.l) (m := g.m) (x := (ordB g).getD k 0)]
    refine ⟨⟨by omega, hlt⟩, hk', fun hb => absurd (of_decide_eq_true hb) (by omega), fun _ => ⟨⟨by omega, hlt⟩, hk', fun hb => absurd (of_decide_eq_true hb) (by omega), fun _ => ⟨⟨by omega, hlt⟩, hk', ⟨hx0, hx1⟩, by omega, ⟨by show (0 : Int) ≤ _; omega, by show _ ≤ (18446744073709551615 : Int); omega⟩, hz.1, by decide, fun hs => ?_, fun hs => ?_⟩⟩⟩
    · have hs : sel g.g.l ⟨2, g.m, 0⟩ ((ordB g).getD k 0) = false := by simpa using hs
      refine ⟨inI (by omega) (by omega), k + 1, hk', by omega, ⟨?_, by omega⟩, trivial, rfl, rfl, rfl, trivial⟩
      unfold cntB
      rw [hnx, hs]; simp
    · have hs : sel g.g.l ⟨2, g.m, 0⟩ ((ordB g).getD k 0) = true := by simpa using hs
      obtain ⟨a1, a2⟩ := filter_at (sel g.g.l ⟨2, g.m, 0⟩) 0 hk' hs
      rw [← hpo] at a1 a2
      have a1 : cntB g k < (pickO (bp g)).length := a1
      have a2 : (pickO (bp g)).getD (cntB g k) 0 = (ordB g).getD k 0 := a2
      rw [Int.toNat_natCast, Nat.zero_add, a2]
      refine ⟨fun hb => absurd (of_decide_eq_true hb) (by omega), fun _ => ⟨⟨by omega, by omega⟩, a1, ⟨by omega, hlt⟩, hk', fun hb => absurd hb (by simp), fun _ => ⟨inI (by omega) (by omega), inI (by omega) (by omega), k + 1, hk', by omega, ⟨?_, by omega⟩, trivial, rfl, rfl, rfl, trivial⟩⟩⟩
      unfold cntB
      rw [hnx, hs]; simp
  · have hge : ¬ (k : Int) < (ordB g).length := of_decide_eq_false hge
    have : k = (ordB g).length := by omega
    subst this
    have e : cntB g (ordB g).length = (pickO (bp g)).length := by rw [hpo]; unfold cntB; rw [List.take_length]
    rw [e]
    exact ⟨fun _ => aw, fun hb => absurd hb (by simp)⟩
theorem sBinds : SpecOk P 8 cBinds.spec := spec_of cBinds (tab_cons sAwake (tab_cons sValid (tab_cons sOrder (tab_cons sPick (tab_nil P))))) mixed (fn := Try.f8) (by kernel_rfl) (by kernel_rfl) (by kernel_rfl) (Nat.zero_le _) (noIns fun _ => rfl) vBinds
end Go.Zn
