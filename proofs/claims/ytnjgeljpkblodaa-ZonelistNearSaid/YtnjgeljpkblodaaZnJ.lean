/- A PART OF THE PROOF. NO CONDITION. -/
import Derived.Test.YtnjgeljpkblodaaZnI
import Derived.Test.YtnjgeljpkblodaaSxAD
noncomputable section
set_option linter.unusedVariables false
set_option linter.unusedVariables false
set_option linter.unusedSimpArgs false
namespace Go.Zn
open Go.Proofs Go.SX
set_option maxRecDepth 100000

/-! Complete -/
def cnt (g : GO) (i k : Nat) : Nat := ((ordO g.l g.node g.kernel).take k).count (i : Int)
def cComplete : Con := pureCon GO Unit (fun g => [roZ g.l, I g.node, Bo g.kernel]) (fun _ => True) (fun _ _ => True) (fun _ _ => Bo true)
def lComplete (g : GO) : Loops := fun id st => match Nat.beq id 0, Nat.beq id 2, Nat.beq id 4 with
  | true, _, _ => some { γ := Nat, slots := [9], vals := fun _ i => [I i], inv := fun i => i ≤ g.l.length, μ := fun i => g.l.length - i }
  | _, true, _ => withInt st 9 fun n => some { γ := Nat, slots := [10, 11], vals := fun _ k => [I (cnt g n.toNat k), I k], inv := fun k => k ≤ (ordO g.l g.node g.kernel).length, μ := fun k => (ordO g.l g.node g.kernel).length - k }
  | _, _, true => some { γ := Nat, slots := [13], vals := fun _ i => [I i], inv := fun i => i ≤ (ordO g.l g.node g.kernel).length, μ := fun i => (ordO g.l g.node g.kernel).length - i }
  | _, _, _ => none
theorem vComplete_eq : (cComplete.body (fun g => env [(12, cAwake), (22, cValid), (17, cROrder)] (lComplete g)) Try.f6) = (∀ (g : GO), True → ∃ (g_1 : List Z × Int), (SV.ro Z dZ encZ (GO.l g) = SV.ro Z dZ encZ (Prod.fst g_1) ∧ SV.val (Value.int IntKind.i64 (GO.node g)) = SV.val (Value.int IntKind.i64
  (Prod.snd g_1))) ∧ True ∧ True ∧ ∀ (b : Unit), True → ((!validZ (Prod.fst g_1) (Prod.snd g_1)) = true → ∃ (g : Unit), True ∧ True ∧ True ∧ ∀ (b : Unit), True → ∃ (b : Unit), True ∧
  SV.val (Value.bool true) = SV.val (Value.bool true) ∧ (0 : Nat) = (0 : Nat) ∧ True) ∧ ((!validZ (Prod.fst g_1) (Prod.snd g_1)) = false → ∃ (g_2 : GO), (SV.ro Z dZ encZ (GO.l g) =
  SV.ro Z dZ encZ (GO.l g_2) ∧ SV.val (Value.int IntKind.i64 (GO.node g)) = SV.val (Value.int IntKind.i64 (GO.node g_2)) ∧ SV.val (Value.bool (GO.kernel g)) = SV.val (Value.bool
  (GO.kernel g_2))) ∧ True ∧ List.length (GO.l g_2) ≤ (1000000000 : Nat) ∧ ∀ (b : Unit), True → ((checkN (GO.l g_2) (GO.node g_2) != (0 : Int)) = true → ∃ (b : Unit), True ∧ true =
  false ∧ (0 : Nat) = (0 : Nat) ∧ True) ∧ ((checkN (GO.l g_2) (GO.node g_2) != (0 : Int)) = false → (∃ (g_3 : Nat), g_3 ≤ List.length (GO.l g) ∧ (0 : Int) = (↑g_3 : Int) ∧ True ∧
  LB.arr Int (0 : Int) encI (ordO (GO.l g_2) (GO.node g_2) (GO.kernel g_2)) = LB.arr Int (0 : Int) encI (ordO (GO.l g_2) (GO.node g_2) (GO.kernel g_2)) ∧ True) ∧ ∀ (g_3 : Nat), g_3 ≤
  List.length (GO.l g) → (decide ((↑g_3 : Int) < (↑(List.length (GO.l g)) : Int)) = true → (∃ (g_4 : Nat), g_4 ≤ List.length (ordO (GO.l g) (GO.node g) (GO.kernel g)) ∧ ((0 : Int) =
  (↑(cnt g (Int.toNat (↑g_3 : Int)) g_4) : Int) ∧ (0 : Int) = (↑g_4 : Int)) ∧ True ∧ LB.arr Int (0 : Int) encI (ordO (GO.l g_2) (GO.node g_2) (GO.kernel g_2)) = LB.arr Int (0 : Int)
  encI (ordO (GO.l g_2) (GO.node g_2) (GO.kernel g_2)) ∧ True) ∧ ∀ (g_4 : Nat), g_4 ≤ List.length (ordO (GO.l g) (GO.node g) (GO.kernel g)) → (decide ((↑g_4 : Int) < (↑(List.length
  (ordO (GO.l g_2) (GO.node g_2) (GO.kernel g_2))) : Int)) = true → ((0 : Int) ≤ (↑g_4 : Int) ∧ (↑g_4 : Int) < (↑(List.length (ordO (GO.l g_2) (GO.node g_2) (GO.kernel g_2))) : Int))
  ∧ (0 : Nat) + Int.toNat (↑g_4 : Int) < List.length (ordO (GO.l g_2) (GO.node g_2) (GO.kernel g_2)) ∧ ((List.getD (ordO (GO.l g_2) (GO.node g_2) (GO.kernel g_2)) ((0 : Nat) +
  Int.toNat (↑g_4 : Int)) (0 : Int) == (↑g_3 : Int)) = true → inK IntKind.i64 ((↑(cnt g (Int.toNat (↑g_3 : Int)) g_4) : Int) + (1 : Int)) ∧ inK IntKind.i64 ((↑g_4 : Int) + (1 : Int))
  ∧ ∃ (g' : Nat), g' ≤ List.length (ordO (GO.l g) (GO.node g) (GO.kernel g)) ∧ List.length (ordO (GO.l g) (GO.node g) (GO.kernel g)) - g' < List.length (ordO (GO.l g) (GO.node g)
  (GO.kernel g)) - g_4 ∧ ((↑(cnt g (Int.toNat (↑g_3 : Int)) g_4) : Int) + (1 : Int) = (↑(cnt g (Int.toNat (↑g_3 : Int)) g') : Int) ∧ (↑g_4 : Int) + (1 : Int) = (↑g' : Int)) ∧ True ∧
  LB.arr Int (0 : Int) encI (ordO (GO.l g_2) (GO.node g_2) (GO.kernel g_2)) = LB.arr Int (0 : Int) encI (ordO (GO.l g_2) (GO.node g_2) (GO.kernel g_2)) ∧ True) ∧ ((List.getD (ordO
  (GO.l g_2) (GO.node g_2) (GO.kernel g_2)) ((0 : Nat) + Int.toNat (↑g_4 : Int)) (0 : Int) == (↑g_3 : Int)) = false → inK IntKind.i64 ((↑g_4 : Int) + (1 : Int)) ∧ ∃ (g' : Nat), g' ≤
  List.length (ordO (GO.l g) (GO.node g) (GO.kernel g)) ∧ List.length (ordO (GO.l g) (GO.node g) (GO.kernel g)) - g' < List.length (ordO (GO.l g) (GO.node g) (GO.kernel g)) - g_4 ∧
  ((↑(cnt g (Int.toNat (↑g_3 : Int)) g_4) : Int) = (↑(cnt g (Int.toNat (↑g_3 : Int)) g') : Int) ∧ (↑g_4 : Int) + (1 : Int) = (↑g' : Int)) ∧ True ∧ LB.arr Int (0 : Int) encI (ordO
  (GO.l g_2) (GO.node g_2) (GO.kernel g_2)) = LB.arr Int (0 : Int) encI (ordO (GO.l g_2) (GO.node g_2) (GO.kernel g_2)) ∧ True)) ∧ (decide ((↑g_4 : Int) < (↑(List.length (ordO (GO.l
  g_2) (GO.node g_2) (GO.kernel g_2))) : Int)) = false → (GO.kernel g = true → ((0 : Int) ≤ (↑g_3 : Int) ∧ (↑g_3 : Int) < (↑(List.length (GO.l g)) : Int)) ∧ Int.toNat (↑g_3 : Int) <
  List.length (GO.l g) ∧ ((Z.kind (List.getD (GO.l g) (Int.toNat (↑g_3 : Int)) dZ) != (0 : Int)) = true → (((↑(cnt g (Int.toNat (↑g_3 : Int)) g_4) : Int) != (0 : Int)) = true → ∃ (b
  : Unit), True ∧ true = false ∧ (0 : Nat) = (0 : Nat) ∧ True) ∧ (((↑(cnt g (Int.toNat (↑g_3 : Int)) g_4) : Int) != (0 : Int)) = false → inK IntKind.i64 ((↑g_3 : Int) + (1 : Int)) ∧
  ∃ (g' : Nat), g' ≤ List.length (GO.l g) ∧ List.length (GO.l g) - g' < List.length (GO.l g) - g_3 ∧ (↑g_3 : Int) + (1 : Int) = (↑g' : Int) ∧ True ∧ LB.arr Int (0 : Int) encI (ordO
  (GO.l g_2) (GO.node g_2) (GO.kernel g_2)) = LB.arr Int (0 : Int) encI (ordO (GO.l g_2) (GO.node g_2) (GO.kernel g_2)) ∧ True)) ∧ ((Z.kind (List.getD (GO.l g) (Int.toNat (↑g_3 :
  Int)) dZ) != (0 : Int)) = false → (((↑(cnt g (Int.toNat (↑g_3 : Int)) g_4) : Int) != (1 : Int)) = true → ∃ (b : Unit), True ∧ true = false ∧ (0 : Nat) = (0 : Nat) ∧ True) ∧
  (((↑(cnt g (Int.toNat (↑g_3 : Int)) g_4) : Int) != (1 : Int)) = false → inK IntKind.i64 ((↑g_3 : Int) + (1 : Int)) ∧ ∃ (g' : Nat), g' ≤ List.length (GO.l g) ∧ List.length (GO.l g)
  - g' < List.length (GO.l g) - g_3 ∧ (↑g_3 : Int) + (1 : Int) = (↑g' : Int) ∧ True ∧ LB.arr Int (0 : Int) encI (ordO (GO.l g_2) (GO.node g_2) (GO.kernel g_2)) = LB.arr Int (0 : Int)
  encI (ordO (GO.l g_2) (GO.node g_2) (GO.kernel g_2)) ∧ True))) ∧ (GO.kernel g = false → (((↑(cnt g (Int.toNat (↑g_3 : Int)) g_4) : Int) != (1 : Int)) = true → ∃ (b : Unit), True ∧
  true = false ∧ (0 : Nat) = (0 : Nat) ∧ True) ∧ (((↑(cnt g (Int.toNat (↑g_3 : Int)) g_4) : Int) != (1 : Int)) = false → inK IntKind.i64 ((↑g_3 : Int) + (1 : Int)) ∧ ∃ (g' : Nat), g'
  ≤ List.length (GO.l g) ∧ List.length (GO.l g) - g' < List.length (GO.l g) - g_3 ∧ (↑g_3 : Int) + (1 : Int) = (↑g' : Int) ∧ True ∧ LB.arr Int (0 : Int) encI (ordO (GO.l g_2)
  (GO.node g_2) (GO.kernel g_2)) = LB.arr Int (0 : Int) encI (ordO (GO.l g_2) (GO.node g_2) (GO.kernel g_2)) ∧ True)))) ∧ (decide ((↑g_3 : Int) < (↑(List.length (GO.l g)) : Int)) =
  false → (∃ (g_4 : Nat), g_4 ≤ List.length (ordO (GO.l g) (GO.node g) (GO.kernel g)) ∧ (0 : Int) = (↑g_4 : Int) ∧ True ∧ LB.arr Int (0 : Int) encI (ordO (GO.l g_2) (GO.node g_2)
  (GO.kernel g_2)) = LB.arr Int (0 : Int) encI (ordO (GO.l g_2) (GO.node g_2) (GO.kernel g_2)) ∧ True) ∧ ∀ (g_4 : Nat), g_4 ≤ List.length (ordO (GO.l g) (GO.node g) (GO.kernel g)) →
  (decide ((↑g_4 : Int) < (↑(List.length (ordO (GO.l g_2) (GO.node g_2) (GO.kernel g_2))) : Int)) = true → ((0 : Int) ≤ (↑g_4 : Int) ∧ (↑g_4 : Int) < (↑(List.length (ordO (GO.l g_2)
  (GO.node g_2) (GO.kernel g_2))) : Int)) ∧ (0 : Nat) + Int.toNat (↑g_4 : Int) < List.length (ordO (GO.l g_2) (GO.node g_2) (GO.kernel g_2)) ∧ (decide (List.getD (ordO (GO.l g_2)
  (GO.node g_2) (GO.kernel g_2)) ((0 : Nat) + Int.toNat (↑g_4 : Int)) (0 : Int) < (0 : Int)) = true → ∃ (b : Unit), True ∧ true = false ∧ (0 : Nat) = (0 : Nat) ∧ True) ∧ (decide
  (List.getD (ordO (GO.l g_2) (GO.node g_2) (GO.kernel g_2)) ((0 : Nat) + Int.toNat (↑g_4 : Int)) (0 : Int) < (0 : Int)) = false → ((0 : Int) ≤ (↑g_4 : Int) ∧ (↑g_4 : Int) <
  (↑(List.length (ordO (GO.l g_2) (GO.node g_2) (GO.kernel g_2))) : Int)) ∧ (0 : Nat) + Int.toNat (↑g_4 : Int) < List.length (ordO (GO.l g_2) (GO.node g_2) (GO.kernel g_2)) ∧ (decide
  (List.getD (ordO (GO.l g_2) (GO.node g_2) (GO.kernel g_2)) ((0 : Nat) + Int.toNat (↑g_4 : Int)) (0 : Int) ≥ (↑(List.length (GO.l g)) : Int)) = true → ∃ (b : Unit), True ∧ true =
  false ∧ (0 : Nat) = (0 : Nat) ∧ True) ∧ (decide (List.getD (ordO (GO.l g_2) (GO.node g_2) (GO.kernel g_2)) ((0 : Nat) + Int.toNat (↑g_4 : Int)) (0 : Int) ≥ (↑(List.length (GO.l g))
  : Int)) = false → inK IntKind.i64 ((↑g_4 : Int) + (1 : Int)) ∧ ∃ (g' : Nat), g' ≤ List.length (ordO (GO.l g) (GO.node g) (GO.kernel g)) ∧ List.length (ordO (GO.l g) (GO.node g)
  (GO.kernel g)) - g' < List.length (ordO (GO.l g) (GO.node g) (GO.kernel g)) - g_4 ∧ (↑g_4 : Int) + (1 : Int) = (↑g' : Int) ∧ True ∧ LB.arr Int (0 : Int) encI (ordO (GO.l g_2)
  (GO.node g_2) (GO.kernel g_2)) = LB.arr Int (0 : Int) encI (ordO (GO.l g_2) (GO.node g_2) (GO.kernel g_2)) ∧ True))) ∧ (decide ((↑g_4 : Int) < (↑(List.length (ordO (GO.l g_2)
  (GO.node g_2) (GO.kernel g_2))) : Int)) = false → ∃ (g : Unit), True ∧ True ∧ True ∧ ∀ (b : Unit), True → ∃ (b : Unit), True ∧ SV.val (Value.bool true) = SV.val (Value.bool true) ∧
  (0 : Nat) = (0 : Nat) ∧ True))))) := by kernel_rfl
/-! Near -/
def cNear : Con := pureCon GO Unit (fun g => [roZ g.l, I g.node, Bo g.kernel]) (fun _ => True) (fun _ _ => True) (fun _ _ => Bo true)
def lNear (s : Nat) (g : GO) : Loops := loop1 0 { γ := Nat, slots := [s], vals := fun _ i => [I i], inv := fun i => i ≤ (ordO g.l g.node g.kernel).length, μ := fun i => (ordO g.l g.node g.kernel).length - i }


theorem valid_ok {l : List Z} {n : Int} (h : (!validZ l n) = false) : checkN l n = 0 := by
  have h : validZ l n = true := by simpa using h
  unfold validZ at h
  simp only [Bool.and_eq_true, Bool.not_eq_true', Bool.or_eq_false_iff, decide_eq_false_iff_not] at h
  obtain ⟨⟨h6, h0, h4⟩, hz⟩ := h
  have hc : chk l = 0 := by
    rw [chk, if_neg (by omega)]
    clear h6 h
    induction l with
    | nil => rfl
    | cons z r ih =>
      simp only [List.all_cons, Bool.and_eq_true] at hz
      have h1 := hz.1
      unfold okZn at h1
      simp only [Bool.not_eq_true', Bool.or_eq_false_iff, decide_eq_false_iff_not] at h1
      have : chk1 z = 0 := by rw [chk1, if_neg (by omega), if_neg (by omega)]
      rw [chkL, if_pos this]
      exact ih hz.2
  rw [checkN, if_neg (by rw [hc]; decide), if_neg (by omega)]
theorem ordO_sorted {l : List Z} {n : Int} {k : Bool} : (ordO l n k).Pairwise (rL ⟨l, n⟩) := by
  unfold ordO
  split
  · exact List.Pairwise.nil
  · exact ordTo_sorted (nodesO_sorted l n) _ (Nat.le_refl _)
theorem ordO_nodup {l : List Z} {n : Int} {k : Bool} : (ordO l n k).Nodup :=
  ordO_sorted.imp fun {a b} h e => by subst e; exact rL_asymm _ _ h h
theorem ordO_iff {l : List Z} {n : Int} {k : Bool} (h : checkN l n = 0) {x : Int} : x ∈ ordO l n k ↔ ∃ j : Nat, j < l.length ∧ x = j ∧ selK k (l.getD j dZ) = true := by
  rw [← law_O h, (isR_perm _ _).mem_iff, idxs_mem]
theorem cnt_all {g : GO} (h : checkN g.l g.node = 0) {i : Nat} (hi : i < g.l.length) : cnt g i (ordO g.l g.node g.kernel).length = if g.kernel = true ∧ (g.l.getD i dZ).kind ≠ 0 then 0 else 1 := by
  unfold cnt
  rw [List.take_length]
  have hk : selK g.kernel (g.l.getD i dZ) = true ↔ ¬ (g.kernel = true ∧ (g.l.getD i dZ).kind ≠ 0) := by unfold selK; grind
  split
  · rename_i hn
    refine List.count_eq_zero_of_not_mem fun hm => ?_
    obtain ⟨j, _, e, hs⟩ := (ordO_iff h).1 hm
    have : i = j := by omega
    subst this
    exact hk.1 hs hn
  · rename_i hn
    rw [ordO_nodup.count, if_pos ((ordO_iff h).2 ⟨i, hi, rfl, hk.2 hn⟩)]
theorem cnt_next {g : GO} {i k : Nat} (hk : k < (ordO g.l g.node g.kernel).length) : cnt g i (k + 1) = cnt g i k + if (ordO g.l g.node g.kernel).getD k 0 = (i : Int) then 1 else 0 := by
  unfold cnt
  rw [take_next _ 0 hk, List.count_append, List.count_singleton]
  simp only [beq_iff_eq]
theorem vComplete : cComplete.body (fun g => env [(12, cAwake), (22, cValid), (17, cROrder)] (lComplete g)) Try.f6 := by
  rw [vComplete_eq]
  intro g _
  have aw : ∃ (g : Unit), True ∧ True ∧ True ∧ ∀ (b : Unit), True → ∃ (b : Unit), True ∧ SV.val (Value.bool true) = SV.val (Value.bool true) ∧ (0 : Nat) = (0 : Nat) ∧ True := ⟨(), trivial, trivial, trivial, fun _ _ => ⟨(), trivial, rfl, rfl, trivial⟩⟩
  refine ⟨(g.l, g.node), ⟨rfl, rfl⟩, trivial, trivial, fun _ _ => ⟨fun _ => aw, fun hv => ?_⟩⟩
  have hc := valid_ok hv
  obtain ⟨h0, h1, h2, h6⟩ := checkN_zero hc
  dsimp only at h0 h1 h2 h6
  refine ⟨g, ⟨rfl, rfl, rfl⟩, trivial, by omega, fun _ _ => ⟨fun hb => absurd hc (by simpa using hb), fun _ => ⟨⟨0, Nat.zero_le _, rfl, trivial, rfl, trivial⟩, fun i hi => ⟨fun hlt => ?_, fun _ => ?_⟩⟩⟩⟩
  · have hlt : (i : Int) < g.l.length := of_decide_eq_true hlt
    have hi' : i < g.l.length := by omega
    rw [Int.toNat_natCast]
    have hall := cnt_all hc hi'
    refine ⟨⟨0, Nat.zero_le _, ⟨rfl, rfl⟩, trivial, rfl, trivial⟩, fun k hk => ⟨fun hkl => ?_, fun hge => ?_⟩⟩
    · have hkl : (k : Int) < (ordO g.l g.node g.kernel).length := of_decide_eq_true hkl
      have hk' : k < (ordO g.l g.node g.kernel).length := by omega
      have hl := ordO_len (l := g.l) (node := g.node) (k := g.kernel)
      have hn := cnt_next (i := i) hk'
      have hcl : cnt g i k ≤ k := by unfold cnt; exact Nat.le_trans List.count_le_length (by rw [List.length_take]; omega)
      rw [Nat.zero_add]
      refine ⟨⟨by omega, hkl⟩, hk', fun he => ⟨inI (by omega) (by omega), inI (by omega) (by omega), k + 1, hk', by omega, ⟨?_, by omega⟩, trivial, rfl, trivial⟩, fun he => ⟨inI (by omega) (by omega), k + 1, hk', by omega, ⟨?_, by omega⟩, trivial, rfl, trivial⟩⟩
      · rw [hn, if_pos (by simpa using he)]; omega
      · rw [hn, if_neg (by simpa using he)]; omega
    · have hge := of_decide_eq_false hge
      have : k = (ordO g.l g.node g.kernel).length := by omega
      subst this
      rw [hall]
      have nx : inK IntKind.i64 ((i : Int) + 1) ∧ ∃ (g' : Nat), g' ≤ g.l.length ∧ g.l.length - g' < g.l.length - i ∧ (i : Int) + 1 = (g' : Int) ∧ True ∧ LB.arr Int 0 encI (ordO g.l g.node g.kernel) = LB.arr Int 0 encI (ordO g.l g.node g.kernel) ∧ True := ⟨inI (by omega) (by omega), i + 1, hi', by omega, by omega, trivial, rfl, trivial⟩
      refine ⟨fun hk1 => ⟨⟨by omega, hlt⟩, hi', fun hz => ⟨fun hb => ?_, fun _ => nx⟩, fun hz => ⟨fun hb => ?_, fun _ => nx⟩⟩, fun hk0 => ⟨fun hb => ?_, fun _ => nx⟩⟩
      · rw [if_pos ⟨hk1, by simpa using hz⟩] at hb; cases hb
      · rw [if_neg (by simp at hz; simp [hz])] at hb; cases hb
      · rw [if_neg (by rw [hk0]; simp)] at hb; cases hb
  · refine ⟨⟨0, Nat.zero_le _, rfl, trivial, rfl, trivial⟩, fun k hk => ⟨fun hkl => ?_, fun _ => aw⟩⟩
    have hkl : (k : Int) < (ordO g.l g.node g.kernel).length := of_decide_eq_true hkl
    have hk' : k < (ordO g.l g.node g.kernel).length := by omega
    have hl := ordO_len (l := g.l) (node := g.node) (k := g.kernel)
    have hm := ordO_mem (getD_mem (d := 0) hk')
    rw [Int.toNat_natCast, Nat.zero_add]
    refine ⟨⟨by omega, hkl⟩, hk', fun hb => absurd (of_decide_eq_true hb) (by omega), fun _ => ⟨⟨by omega, hkl⟩, hk', fun hb => absurd (of_decide_eq_true hb) (by omega), fun _ => ⟨inI (by omega) (by omega), k + 1, hk', by omega, by omega, trivial, rfl, trivial⟩⟩⟩
theorem sComplete : SpecOk P 6 cComplete.spec := spec_of cComplete (tab_cons sAwake (tab_cons sValid (tab_cons sOrder (tab_nil P)))) mixed (fn := Try.f6) (by kernel_rfl) (by kernel_rfl) (by kernel_rfl) (Nat.zero_le _) (noIns fun _ => rfl) vComplete
end Go.Zn
