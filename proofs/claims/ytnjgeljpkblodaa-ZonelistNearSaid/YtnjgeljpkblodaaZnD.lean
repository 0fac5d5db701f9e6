/- A PART OF THE PROOF. NO CONDITION. -/
import Derived.Test.YtnjgeljpkblodaaZnC
import Derived.Test.YtnjgeljpkblodaaSxAD
noncomputable section
set_option linter.unusedVariables false
set_option linter.unusedVariables false
set_option linter.unusedSimpArgs false
namespace Go.Zn
open Go.Proofs Go.SX
set_option maxRecDepth 100000

def maskTo (m : Int) : Nat → List Int
  | 0 => []
  | i + 1 => maskTo m i ++ if inM m i = true then [(i : Int)] else []
def maskL (m : Int) : List Int := maskTo m 4
def cMasked : Con := newCon Int Unit (fun m => [I m]) (fun m => 1 ≤ m ∧ m ≤ 15) (fun _ _ => True) (fun m _ => .sl 0 1 0 (maskL m).length) (fun m _ => .arr Int 0 encI (maskL m))
def lMasked (m : Int) : Loops := loop1 0 { γ := Nat, slots := [3, 5], vals := fun b i => [.sl b 1 0 (maskTo m i).length, I i], rekey := [3], blks := fun b i => [(b, .arr Int 0 encI (maskTo m i))], inv := fun i => i ≤ 4, μ := fun i => 4 - i }
theorem vMasked_eq : (cMasked.body (fun g => env [] (lMasked g)) Try.f34) = (∀ (g : Int), (1 : Int) ≤ g ∧ g ≤ (15 : Int) → (∃ (g_1 : Nat), g_1 ≤ (4 : Nat) ∧ (((0 : Nat) = (0 : Nat) ∧ List.length (maskTo g g_1) = (0 : Nat)) ∧ (0 : Int) = (↑g_1 : Int)) ∧
  ((maskTo g g_1 = [] ∧ ∀ (x : Int), (1 : Nat) = (1 : Nat) ∧ allOne (encI x) = true) ∧ True) ∧ True) ∧ ∀ (g_1 : Nat), g_1 ≤ (4 : Nat) → (decide ((↑g_1 : Int) < (4 : Int)) = true → (0
  : Int) ≤ (↑g_1 : Int) ∧ ((IntKind.wrap IntKind.i64 (↑(BitVec.toNat (BitVec.ofInt (64 : Nat) (Int.fdiv g ((2 : Int) ^ min (Int.toNat (↑g_1 : Int)) (64 : Nat))) &&& BitVec.ofInt (64
  : Nat) (1 : Int))) : Int) == (1 : Int)) = true → (0 : Nat) + List.length (maskTo g g_1) ≤ List.length (maskTo g g_1) ∧ ∃ (ys : List Int), [[SV.val (Value.int IntKind.i64 (↑g_1 :
  Int))]] = List.map encI ys ∧ (List.length (maskTo g g_1) + List.length ys) * (8 : Nat) ≤ (140737488355328 : Nat) ∧ inK IntKind.i64 ((↑g_1 : Int) + (1 : Int)) ∧ ∃ (g' : Nat), g' ≤
  (4 : Nat) ∧ (4 : Nat) - g' < (4 : Nat) - g_1 ∧ (((1 : Nat) = (1 : Nat) ∧ (0 : Nat) = (0 : Nat) ∧ List.length (maskTo g g_1) + List.length ys = List.length (maskTo g g')) ∧ (↑g_1 :
  Int) + (1 : Int) = (↑g' : Int)) ∧ (LB.arr Int (0 : Int) encI (List.take (List.length (maskTo g g_1)) (List.drop (0 : Nat) (maskTo g g_1)) ++ ys) = LB.arr Int (0 : Int) encI (maskTo
  g g') ∧ True) ∧ True) ∧ ((IntKind.wrap IntKind.i64 (↑(BitVec.toNat (BitVec.ofInt (64 : Nat) (Int.fdiv g ((2 : Int) ^ min (Int.toNat (↑g_1 : Int)) (64 : Nat))) &&& BitVec.ofInt (64
  : Nat) (1 : Int))) : Int) == (1 : Int)) = false → inK IntKind.i64 ((↑g_1 : Int) + (1 : Int)) ∧ ∃ (g' : Nat), g' ≤ (4 : Nat) ∧ (4 : Nat) - g' < (4 : Nat) - g_1 ∧ (((1 : Nat) = (1 :
  Nat) ∧ (0 : Nat) = (0 : Nat) ∧ List.length (maskTo g g_1) = List.length (maskTo g g')) ∧ (↑g_1 : Int) + (1 : Int) = (↑g' : Int)) ∧ (LB.arr Int (0 : Int) encI (maskTo g g_1) =
  LB.arr Int (0 : Int) encI (maskTo g g') ∧ True) ∧ True)) ∧ (decide ((↑g_1 : Int) < (4 : Int)) = false → ∃ (b : Unit), True ∧ ((SV.sl (32 : Nat) (1 : Nat) (0 : Nat) (List.length
  (maskTo g g_1)) = SV.sl (32 : Nat) (1 : Nat) (0 : Nat) (List.length (maskTo g g_1)) ∧ (0 : Nat) = (0 : Nat) ∧ (1 : Nat) = (1 : Nat) ∧ List.length (maskTo g g_1) = List.length
  (maskL g)) ∧ (∀ (x : Int), allFlat (encI x) = true) ∧ (0 : Nat) + List.length (maskTo g g_1) ≤ List.length (maskTo g g_1) ∧ LB.arr Int (0 : Int) encI (List.take (List.length
  (maskTo g g_1)) (List.drop (0 : Nat) (maskTo g g_1))) = LB.arr Int (0 : Int) encI (maskL g)) ∧ (0 : Nat) = (0 : Nat) ∧ True)) := by kernel_rfl

structure GF where
  p : Po
  node : Int
def firstI (p : Po) (node : Int) : Int := if p.kind = 0 ∨ p.kind = 2 then node else if p.kind = 1 then (maskL p.nodes).getD 0 0 else (maskL p.nodes).getD (Int.tmod p.turn (maskL p.nodes).length).toNat 0
def cFirst : Con := pureCon GF Unit (fun g => [.agg (encPo g.p), I g.node]) (fun g => polE g.p = 0) (fun _ _ => True) (fun g _ => I (firstI g.p g.node))
def lFirst (g : GF) : Loops := loop1 0 { γ := Nat, slots := [5, 6], vals := fun b i => [.sl b 1 0 (maskTo g.p.nodes i).length, I i], rekey := [5], blks := fun b i => [(b, .arr Int 0 encI (maskTo g.p.nodes i))], inv := fun i => i ≤ 4, μ := fun i => 4 - i }
theorem vFirst_eq : (cFirst.body (fun g => env [(39, cIn)] (lFirst g)) Try.f38) = (∀ (g : GF), polE (GF.p g) = (0 : Int) → ((Po.kind (GF.p g) == (0 : Int)) = true → ∃ (b : Unit), True ∧ SV.val (Value.int IntKind.i64 (GF.node g)) = SV.val (Value.int IntKind.i64
  (firstI (GF.p g) (GF.node g))) ∧ (0 : Nat) = (0 : Nat) ∧ True) ∧ ((Po.kind (GF.p g) == (0 : Int)) = false → ((Po.kind (GF.p g) == (2 : Int)) = true → ∃ (b : Unit), True ∧ SV.val
  (Value.int IntKind.i64 (GF.node g)) = SV.val (Value.int IntKind.i64 (firstI (GF.p g) (GF.node g))) ∧ (0 : Nat) = (0 : Nat) ∧ True) ∧ ((Po.kind (GF.p g) == (2 : Int)) = false → (∃
  (g_1 : Nat), g_1 ≤ (4 : Nat) ∧ (((0 : Nat) = (0 : Nat) ∧ List.length (maskTo (Po.nodes (GF.p g)) g_1) = (0 : Nat)) ∧ (0 : Int) = (↑g_1 : Int)) ∧ ((maskTo (Po.nodes (GF.p g)) g_1 =
  [] ∧ ∀ (x : Int), (1 : Nat) = (1 : Nat) ∧ allOne (encI x) = true) ∧ True) ∧ LB.cells [SV.val (Value.int IntKind.i64 (Po.kind (GF.p g))), SV.val (Value.int IntKind.i64 (Po.nodes
  (GF.p g))), SV.val (Value.int IntKind.i64 (Po.turn (GF.p g)))] = LB.cells [SV.val (Value.int IntKind.i64 (Po.kind (GF.p g))), SV.val (Value.int IntKind.i64 (Po.nodes (GF.p g))),
  SV.val (Value.int IntKind.i64 (Po.turn (GF.p g)))] ∧ True) ∧ ∀ (g_1 : Nat), g_1 ≤ (4 : Nat) → (decide ((↑g_1 : Int) < (4 : Int)) = true → ∃ (g_2 : Int × Int), (SV.val (Value.int
  IntKind.i64 (Po.nodes (GF.p g))) = SV.val (Value.int IntKind.i64 (Prod.fst g_2)) ∧ SV.val (Value.int IntKind.i64 (↑g_1 : Int)) = SV.val (Value.int IntKind.i64 (Prod.snd g_2))) ∧
  True ∧ True ∧ ∀ (b : Unit), True → (inM (Prod.fst g_2) (Prod.snd g_2) = true → (0 : Nat) + List.length (maskTo (Po.nodes (GF.p g)) g_1) ≤ List.length (maskTo (Po.nodes (GF.p g))
  g_1) ∧ ∃ (ys : List Int), [[SV.val (Value.int IntKind.i64 (↑g_1 : Int))]] = List.map encI ys ∧ (List.length (maskTo (Po.nodes (GF.p g)) g_1) + List.length ys) * (8 : Nat) ≤
  (140737488355328 : Nat) ∧ inK IntKind.i64 ((↑g_1 : Int) + (1 : Int)) ∧ ∃ (g' : Nat), g' ≤ (4 : Nat) ∧ (4 : Nat) - g' < (4 : Nat) - g_1 ∧ (((1 : Nat) = (1 : Nat) ∧ (0 : Nat) = (0 :
  Nat) ∧ List.length (maskTo (Po.nodes (GF.p g)) g_1) + List.length ys = List.length (maskTo (Po.nodes (GF.p g)) g')) ∧ (↑g_1 : Int) + (1 : Int) = (↑g' : Int)) ∧ (LB.arr Int (0 :
  Int) encI (List.take (List.length (maskTo (Po.nodes (GF.p g)) g_1)) (List.drop (0 : Nat) (maskTo (Po.nodes (GF.p g)) g_1)) ++ ys) = LB.arr Int (0 : Int) encI (maskTo (Po.nodes
  (GF.p g)) g') ∧ True) ∧ LB.cells [SV.val (Value.int IntKind.i64 (Po.kind (GF.p g))), SV.val (Value.int IntKind.i64 (Po.nodes (GF.p g))), SV.val (Value.int IntKind.i64 (Po.turn
  (GF.p g)))] = LB.cells [SV.val (Value.int IntKind.i64 (Po.kind (GF.p g))), SV.val (Value.int IntKind.i64 (Po.nodes (GF.p g))), SV.val (Value.int IntKind.i64 (Po.turn (GF.p g)))] ∧
  True) ∧ (inM (Prod.fst g_2) (Prod.snd g_2) = false → inK IntKind.i64 ((↑g_1 : Int) + (1 : Int)) ∧ ∃ (g' : Nat), g' ≤ (4 : Nat) ∧ (4 : Nat) - g' < (4 : Nat) - g_1 ∧ (((1 : Nat) = (1
  : Nat) ∧ (0 : Nat) = (0 : Nat) ∧ List.length (maskTo (Po.nodes (GF.p g)) g_1) = List.length (maskTo (Po.nodes (GF.p g)) g')) ∧ (↑g_1 : Int) + (1 : Int) = (↑g' : Int)) ∧ (LB.arr Int
  (0 : Int) encI (maskTo (Po.nodes (GF.p g)) g_1) = LB.arr Int (0 : Int) encI (maskTo (Po.nodes (GF.p g)) g') ∧ True) ∧ LB.cells [SV.val (Value.int IntKind.i64 (Po.kind (GF.p g))),
  SV.val (Value.int IntKind.i64 (Po.nodes (GF.p g))), SV.val (Value.int IntKind.i64 (Po.turn (GF.p g)))] = LB.cells [SV.val (Value.int IntKind.i64 (Po.kind (GF.p g))), SV.val
  (Value.int IntKind.i64 (Po.nodes (GF.p g))), SV.val (Value.int IntKind.i64 (Po.turn (GF.p g)))] ∧ True)) ∧ (decide ((↑g_1 : Int) < (4 : Int)) = false → ((Po.kind (GF.p g) == (1 :
  Int)) = true → ((0 : Int) ≤ (0 : Int) ∧ (0 : Int) < (↑(List.length (maskTo (Po.nodes (GF.p g)) g_1)) : Int)) ∧ (0 : Nat) < List.length (maskTo (Po.nodes (GF.p g)) g_1) ∧ ∃ (b :
  Unit), True ∧ SV.val (Value.int IntKind.i64 (List.getD (maskTo (Po.nodes (GF.p g)) g_1) (0 : Nat) (0 : Int))) = SV.val (Value.int IntKind.i64 (firstI (GF.p g) (GF.node g))) ∧ (0 :
  Nat) = (0 : Nat) ∧ True) ∧ ((Po.kind (GF.p g) == (1 : Int)) = false → (↑(List.length (maskTo (Po.nodes (GF.p g)) g_1)) : Int) ≠ (0 : Int) ∧ ((0 : Int) ≤ Int.tmod (Po.turn (GF.p g))
  (↑(List.length (maskTo (Po.nodes (GF.p g)) g_1)) : Int) ∧ Int.tmod (Po.turn (GF.p g)) (↑(List.length (maskTo (Po.nodes (GF.p g)) g_1)) : Int) < (↑(List.length (maskTo (Po.nodes
  (GF.p g)) g_1)) : Int)) ∧ (0 : Nat) + Int.toNat (Int.tmod (Po.turn (GF.p g)) (↑(List.length (maskTo (Po.nodes (GF.p g)) g_1)) : Int)) < List.length (maskTo (Po.nodes (GF.p g)) g_1)
  ∧ ∃ (b : Unit), True ∧ SV.val (Value.int IntKind.i64 (List.getD (maskTo (Po.nodes (GF.p g)) g_1) ((0 : Nat) + Int.toNat (Int.tmod (Po.turn (GF.p g)) (↑(List.length (maskTo
  (Po.nodes (GF.p g)) g_1)) : Int))) (0 : Int))) = SV.val (Value.int IntKind.i64 (firstI (GF.p g) (GF.node g))) ∧ (0 : Nat) = (0 : Nat) ∧ True))))) := by kernel_rfl

theorem bits_all : ∀ m : Fin 16, ∀ i : Fin 4, (IntKind.wrap IntKind.i64 (↑(BitVec.toNat (BitVec.ofInt 64 (Int.fdiv (m.val : Int) (2 ^ min i.val 64)) &&& BitVec.ofInt 64 1)) : Int) == 1) = inM (m.val : Int) (i.val : Int) := by decide +kernel
theorem bit_eq {m : Int} (h1 : 0 ≤ m) (h2 : m ≤ 15) {i : Nat} (hi : i < 4) : (IntKind.wrap IntKind.i64 (↑(BitVec.toNat (BitVec.ofInt 64 (Int.fdiv m (2 ^ min i 64)) &&& BitVec.ofInt 64 1)) : Int) == 1) = inM m i := by
  have := bits_all ⟨m.toNat, by omega⟩ ⟨i, hi⟩
  simp only [Int.toNat_of_nonneg h1] at this
  exact this
theorem maskTo_len (m : Int) : ∀ i, (maskTo m i).length ≤ i
  | 0 => Nat.le_refl _
  | i + 1 => by
    have := maskTo_len m i
    rw [maskTo, List.length_append]; split <;> simp <;> omega
theorem maskTo_hit {m : Int} {i : Nat} (h : inM m i = true) : maskTo m (i + 1) = maskTo m i ++ [(i : Int)] := by rw [maskTo, if_pos h]
theorem maskTo_miss {m : Int} {i : Nat} (h : inM m i = false) : maskTo m (i + 1) = maskTo m i := by rw [maskTo, if_neg (by rw [h]; decide), List.append_nil]
theorem vMasked : cMasked.body (fun g => env [] (lMasked g)) Try.f34 := by
  rw [vMasked_eq]
  rintro m ⟨h1, h2⟩
  refine ⟨⟨0, by omega, ⟨⟨rfl, rfl⟩, rfl⟩, ⟨⟨rfl, okI'⟩, trivial⟩, trivial⟩, fun i hi => ⟨fun hlt => ?_, fun hge => ?_⟩⟩
  · have hlt : (i : Int) < 4 := of_decide_eq_true hlt
    have hi' : i < 4 := by omega
    have hl := maskTo_len m i
    rw [Int.toNat_natCast, bit_eq (by omega) h2 hi']
    refine ⟨by omega, fun h => ⟨Nat.le_of_eq (Nat.zero_add _), [(i : Int)], rfl, by simp only [List.length_cons, List.length_nil]; omega, inI (by omega) (by omega), i + 1, hi', by omega, ⟨⟨rfl, rfl, ?_⟩, by omega⟩, ⟨?_, trivial⟩, trivial⟩, fun h => ⟨inI (by omega) (by omega), i + 1, hi', by omega, ⟨⟨rfl, rfl, ?_⟩, by omega⟩, ⟨?_, trivial⟩, trivial⟩⟩
    · rw [maskTo_hit h, List.length_append]
    · rw [maskTo_hit h, List.drop_zero, List.take_length]
    · rw [maskTo_miss h]
    · rw [maskTo_miss h]
  · have hge := of_decide_eq_false hge
    have : i = 4 := by omega
    subst this
    refine ⟨(), trivial, ⟨⟨rfl, rfl, rfl, rfl⟩, flI, Nat.le_of_eq (Nat.zero_add _), ?_⟩, rfl, trivial⟩
    rw [List.drop_zero, List.take_length]; rfl
theorem sMasked : SpecOk P 34 cMasked.spec := spec_of cMasked (tab_nil P) mixed (fn := Try.f34) (by kernel_rfl) (by kernel_rfl) (by kernel_rfl) (Nat.zero_le _) (noIns fun _ => rfl) vMasked
theorem mask_pos_all : ∀ m : Fin 16, m.val ≠ 0 → 0 < (maskL (m.val : Int)).length ∧ ∀ i : Fin 4, i.val < (maskL (m.val : Int)).length → 0 ≤ (maskL (m.val : Int)).getD i.val 0 ∧ (maskL (m.val : Int)).getD i.val 0 < 4 := by decide +kernel
theorem mask_pos {m : Int} (h1 : 1 ≤ m) (h2 : m ≤ 15) : 0 < (maskL m).length ∧ (maskL m).length ≤ 4 ∧ ∀ i, i < (maskL m).length → 0 ≤ (maskL m).getD i 0 ∧ (maskL m).getD i 0 < 4 := by
  have h3 := maskTo_len m 4
  have := mask_pos_all ⟨m.toNat, by omega⟩ (by dsimp only; omega)
  simp only [Int.toNat_of_nonneg (show (0 : Int) ≤ m by omega)] at this
  exact ⟨this.1, h3, fun i hi => this.2 ⟨i, by have : (maskL m).length = (maskTo m 4).length := rfl; omega⟩ hi⟩
theorem polE_zero {p : Po} (h : polE p = 0) : 0 ≤ p.kind ∧ p.kind ≤ 3 ∧ (p.kind ≠ 0 → 1 ≤ p.nodes ∧ p.nodes ≤ 15) ∧ (p.kind = 3 → 0 ≤ p.turn) := by
  unfold polE at h
  grind
theorem vFirst : cFirst.body (fun g => env [(39, cIn)] (lFirst g)) Try.f38 := by
  rw [vFirst_eq]
  rintro ⟨p, node⟩ hp
  dsimp only at hp ⊢
  refine ⟨fun h => ⟨(), trivial, by rw [firstI, if_pos (.inl (by simpa using h))], rfl, trivial⟩, fun h0 => ⟨fun h => ⟨(), trivial, by rw [firstI, if_pos (.inr (by simpa using h))], rfl, trivial⟩, fun h2 => ⟨⟨0, by omega, ⟨⟨rfl, rfl⟩, rfl⟩, ⟨⟨rfl, okI'⟩, trivial⟩, rfl, trivial⟩, fun i hi => ⟨fun hlt => ?_, fun hge => ?_⟩⟩⟩⟩
  · have hlt : (i : Int) < 4 := of_decide_eq_true hlt
    have hi' : i < 4 := by omega
    have hl := maskTo_len p.nodes i
    refine ⟨(p.nodes, (i : Int)), ⟨rfl, rfl⟩, trivial, trivial, fun _ _ => ⟨fun h => ⟨Nat.le_of_eq (Nat.zero_add _), [(i : Int)], rfl, by simp only [List.length_cons, List.length_nil]; omega, inI (by omega) (by omega), i + 1, hi', by omega, ⟨⟨rfl, rfl, ?_⟩, by omega⟩, ⟨?_, trivial⟩, rfl, trivial⟩, fun h => ⟨inI (by omega) (by omega), i + 1, hi', by omega, ⟨⟨rfl, rfl, ?_⟩, by omega⟩, ⟨?_, trivial⟩, rfl, trivial⟩⟩⟩
    · rw [maskTo_hit h, List.length_append]
    · rw [maskTo_hit h, List.drop_zero, List.take_length]
    · rw [maskTo_miss h]
    · rw [maskTo_miss h]
  · have hge := of_decide_eq_false hge
    have : i = 4 := by omega
    subst this
    have h0 : ¬ p.kind = 0 := by simpa using h0
    have h2 : ¬ p.kind = 2 := by simpa using h2
    obtain ⟨q1, q2, q3, q4⟩ := polE_zero hp
    obtain ⟨n1, n2⟩ := q3 h0
    obtain ⟨m1, m2, m3⟩ := mask_pos n1 n2
    rw [show maskTo p.nodes 4 = maskL p.nodes from rfl]
    refine ⟨fun h1 => ⟨⟨by omega, by omega⟩, m1, (), trivial, ?_, rfl, trivial⟩, fun h1 => ?_⟩
    · rw [firstI, if_neg (by omega), if_pos (by simpa using h1)]
    · have h1 : ¬ p.kind = 1 := by simpa using h1
      have ht := q4 (by omega)
      have t1 := Int.tmod_nonneg ((maskL p.nodes).length : Int) ht
      have t2 := Int.tmod_lt_of_pos p.turn (b := ((maskL p.nodes).length : Int)) (by omega)
      refine ⟨by omega, ⟨t1, t2⟩, by omega, (), trivial, ?_, rfl, trivial⟩
      rw [firstI, if_neg (by omega), if_neg h1, Nat.zero_add]
theorem sFirst : SpecOk P 38 cFirst.spec := spec_of cFirst (tab_cons sIn (tab_nil P)) mixed (fn := Try.f38) (by kernel_rfl) (by kernel_rfl) (by kernel_rfl) (Nat.zero_le _) (noIns fun _ => rfl) vFirst

theorem firstI_range {p : Po} {node : Int} (hp : polE p = 0) (h1 : 0 ≤ node) (h2 : node < 4) : 0 ≤ firstI p node ∧ firstI p node < 4 := by
  obtain ⟨q1, q2, q3, q4⟩ := polE_zero hp
  unfold firstI
  split
  · exact ⟨h1, h2⟩
  · rename_i h
    obtain ⟨n1, n2⟩ := q3 (by omega)
    obtain ⟨m1, m2, m3⟩ := mask_pos n1 n2
    split
    · exact m3 0 m1
    · refine m3 _ ?_
      have ht := q4 (by omega)
      have t1 := Int.tmod_nonneg ((maskL p.nodes).length : Int) ht
      have t2 := Int.tmod_lt_of_pos p.turn (b := ((maskL p.nodes).length : Int)) (by omega)
      omega
theorem idxs_mem {f : Z → Bool} {l : List Z} {x : Int} : ∀ {i : Nat}, x ∈ idxs f l i ↔ ∃ j : Nat, j < i ∧ x = j ∧ f (l.getD j dZ) = true
  | 0 => by simp [idxs]
  | i + 1 => by
    rw [idxs, List.mem_append, idxs_mem]
    constructor
    · rintro (⟨j, h1, h2, h3⟩ | h)
      · exact ⟨j, by omega, h2, h3⟩
      · split at h
        · rename_i hf; simp at h; exact ⟨i, by omega, h, hf⟩
        · cases h
    · rintro ⟨j, h1, h2, h3⟩
      by_cases hj : j = i
      · subst hj; right; rw [if_pos h3]; simp [h2]
      · left; exact ⟨j, by omega, h2, h3⟩
theorem ordTo_mem {l : List Z} {k : Bool} {L : List Int} {x : Int} : ∀ {n : Nat}, x ∈ ordTo l k L n → 0 ≤ x ∧ x < l.length
  | 0, h => by cases h
  | n + 1, h => by
    rw [ordTo, List.mem_append, seg, List.mem_append] at h
    rcases h with h | h | h
    · exact ordTo_mem h
    · obtain ⟨j, h1, h2, _⟩ := idxs_mem.1 h
      have := lim_le l k
      omega
    · obtain ⟨j, h1, h2, _⟩ := idxs_mem.1 h
      omega
theorem ordO_mem {l : List Z} {node : Int} {k : Bool} {x : Int} (h : x ∈ ordO l node k) : 0 ≤ x ∧ x < l.length := by
  unfold ordO at h
  split at h
  · cases h
  · exact ordTo_mem h
theorem ordO_len {l : List Z} {node : Int} {k : Bool} : (ordO l node k).length ≤ 96 := by
  unfold ordO
  split
  · simp
  · rename_i h
    have h : checkN l node = 0 := by simpa using h
    have := ordTo_length (checkN_zero h).2.2.2 k (nodesO l node) (nodesO l node).length
    have := nodesO_small l node
    omega

/-! ref Pick -/
structure GP where
  l : List Z
  p : Po
  node : Int
  kernel : Bool
def pickE (l : List Z) (p : Po) (node : Int) : Int := if chk l ≠ 0 then chk l else if polE p ≠ 0 then polE p else if node < 0 ∨ node ≥ 4 then 2 else 0
def sel (l : List Z) (p : Po) (x : Int) : Bool := p.kind != 2 || inM p.nodes (l.getD x.toNat dZ).node
def pickO (g : GP) : List Int := if pickE g.l g.p g.node ≠ 0 then [] else (ordO g.l (firstI g.p g.node) g.kernel).filter (sel g.l g.p)
def cRPick : Con := newCon GP Unit (fun g => [roZ g.l, .agg (encPo g.p), I g.node, Bo g.kernel]) (fun g => g.l.length ≤ 1000000000) (fun _ _ => True) (fun g _ => .tup [.sl 0 1 0 (pickO g).length, I (pickE g.l g.p g.node)]) (fun g _ => .arr Int 0 encI (pickO g))
def pickTo (g : GP) (i : Nat) : List Int := ((ordO g.l (firstI g.p g.node) g.kernel).take i).filter (sel g.l g.p)
def lRPick (g : GP) : Loops := loop1 0 { γ := Nat, slots := [14, 15], vals := fun b i => [.sl b 1 0 (pickTo g i).length, I i], rekey := [14], blks := fun b i => [(b, .arr Int 0 encI (pickTo g i))], inv := fun i => i ≤ (ordO g.l (firstI g.p g.node) g.kernel).length, μ := fun i => (ordO g.l (firstI g.p g.node) g.kernel).length - i }
theorem vRPick_eq : (cRPick.body (fun g => env [(14, cCheck), (37, cPol), (38, cFirst), (18, cROrder), (39, cIn)] (lRPick g)) Try.f21) = (∀ (g : GP), List.length (GP.l g) ≤ (1000000000 : Nat) → ∃ (g_1 : List Z), SV.ro Z dZ encZ (GP.l g) = SV.ro Z dZ encZ g_1 ∧ True ∧ List.length g_1 ≤ (1000000000 : Nat) ∧ ∀ (b :
  Unit), True → ((chk g_1 != (0 : Int)) = true → ∃ (b : Unit), True ∧ (((SV.val (Value.slice none (0 : Nat) (0 : Nat)) = SV.val (Value.slice none (0 : Nat) (0 : Nat)) ∧ (0 : Nat) =
  (0 : Nat) ∧ List.length (pickO g) = (0 : Nat)) ∧ SV.val (Value.int IntKind.i64 (chk g_1)) = SV.val (Value.int IntKind.i64 (pickE (GP.l g) (GP.p g) (GP.node g)))) ∧ (∀ (x : Int),
  allFlat (encI x) = true) ∧ pickO g = [] ∧ ∀ (x : Int), (1 : Nat) = (1 : Nat) ∧ allOne (encI x) = true) ∧ (0 : Nat) = (0 : Nat) ∧ True) ∧ ((chk g_1 != (0 : Int)) = false → ∃ (g_2 :
  Po), (SV.val (Value.int IntKind.i64 (Po.kind (GP.p g))) = SV.val (Value.int IntKind.i64 (Po.kind g_2)) ∧ SV.val (Value.int IntKind.i64 (Po.nodes (GP.p g))) = SV.val (Value.int
  IntKind.i64 (Po.nodes g_2)) ∧ SV.val (Value.int IntKind.i64 (Po.turn (GP.p g))) = SV.val (Value.int IntKind.i64 (Po.turn g_2)) ∧ True) ∧ True ∧ True ∧ ∀ (b : Unit), True → ((polE
  g_2 != (0 : Int)) = true → ∃ (b : Unit), True ∧ (((SV.val (Value.slice none (0 : Nat) (0 : Nat)) = SV.val (Value.slice none (0 : Nat) (0 : Nat)) ∧ (0 : Nat) = (0 : Nat) ∧
  List.length (pickO g) = (0 : Nat)) ∧ SV.val (Value.int IntKind.i64 (polE g_2)) = SV.val (Value.int IntKind.i64 (pickE (GP.l g) (GP.p g) (GP.node g)))) ∧ (∀ (x : Int), allFlat (encI
  x) = true) ∧ pickO g = [] ∧ ∀ (x : Int), (1 : Nat) = (1 : Nat) ∧ allOne (encI x) = true) ∧ (0 : Nat) = (0 : Nat) ∧ True) ∧ ((polE g_2 != (0 : Int)) = false → (decide (GP.node g <
  (0 : Int)) = true → ∃ (b : Unit), True ∧ (((SV.val (Value.slice none (0 : Nat) (0 : Nat)) = SV.val (Value.slice none (0 : Nat) (0 : Nat)) ∧ (0 : Nat) = (0 : Nat) ∧ List.length
  (pickO g) = (0 : Nat)) ∧ SV.val (Value.int IntKind.i64 (2 : Int)) = SV.val (Value.int IntKind.i64 (pickE (GP.l g) (GP.p g) (GP.node g)))) ∧ (∀ (x : Int), allFlat (encI x) = true) ∧
  pickO g = [] ∧ ∀ (x : Int), (1 : Nat) = (1 : Nat) ∧ allOne (encI x) = true) ∧ (0 : Nat) = (0 : Nat) ∧ True) ∧ (decide (GP.node g < (0 : Int)) = false → (decide (GP.node g ≥ (4 :
  Int)) = true → ∃ (b : Unit), True ∧ (((SV.val (Value.slice none (0 : Nat) (0 : Nat)) = SV.val (Value.slice none (0 : Nat) (0 : Nat)) ∧ (0 : Nat) = (0 : Nat) ∧ List.length (pickO g)
  = (0 : Nat)) ∧ SV.val (Value.int IntKind.i64 (2 : Int)) = SV.val (Value.int IntKind.i64 (pickE (GP.l g) (GP.p g) (GP.node g)))) ∧ (∀ (x : Int), allFlat (encI x) = true) ∧ pickO g =
  [] ∧ ∀ (x : Int), (1 : Nat) = (1 : Nat) ∧ allOne (encI x) = true) ∧ (0 : Nat) = (0 : Nat) ∧ True) ∧ (decide (GP.node g ≥ (4 : Int)) = false → ∃ (g_3 : GF), ((SV.val (Value.int
  IntKind.i64 (Po.kind (GP.p g))) = SV.val (Value.int IntKind.i64 (Po.kind (GF.p g_3))) ∧ SV.val (Value.int IntKind.i64 (Po.nodes (GP.p g))) = SV.val (Value.int IntKind.i64 (Po.nodes
  (GF.p g_3))) ∧ SV.val (Value.int IntKind.i64 (Po.turn (GP.p g))) = SV.val (Value.int IntKind.i64 (Po.turn (GF.p g_3))) ∧ True) ∧ SV.val (Value.int IntKind.i64 (GP.node g)) = SV.val
  (Value.int IntKind.i64 (GF.node g_3))) ∧ True ∧ polE (GF.p g_3) = (0 : Int) ∧ ∀ (b : Unit), True → ∃ (g_4 : GO), (SV.ro Z dZ encZ (GP.l g) = SV.ro Z dZ encZ (GO.l g_4) ∧ SV.val
  (Value.int IntKind.i64 (firstI (GF.p g_3) (GF.node g_3))) = SV.val (Value.int IntKind.i64 (GO.node g_4)) ∧ SV.val (Value.bool (GP.kernel g)) = SV.val (Value.bool (GO.kernel g_4)))
  ∧ True ∧ List.length (GO.l g_4) ≤ (1000000000 : Nat) ∧ ∀ (b : Unit), True → (∃ (g_5 : Nat), g_5 ≤ List.length (ordO (GP.l g) (firstI (GP.p g) (GP.node g)) (GP.kernel g)) ∧ (((0 :
  Nat) = (0 : Nat) ∧ List.length (pickTo g g_5) = (0 : Nat)) ∧ (0 : Int) = (↑g_5 : Int)) ∧ ((pickTo g g_5 = [] ∧ ∀ (x : Int), (1 : Nat) = (1 : Nat) ∧ allOne (encI x) = true) ∧ True)
  ∧ LB.cells [SV.val (Value.int IntKind.i64 (Po.kind (GP.p g))), SV.val (Value.int IntKind.i64 (Po.nodes (GP.p g))), SV.val (Value.int IntKind.i64 (Po.turn (GP.p g)))] = LB.cells
  [SV.val (Value.int IntKind.i64 (Po.kind (GP.p g))), SV.val (Value.int IntKind.i64 (Po.nodes (GP.p g))), SV.val (Value.int IntKind.i64 (Po.turn (GP.p g)))] ∧ LB.arr Int (0 : Int)
  encI (ordO (GO.l g_4) (GO.node g_4) (GO.kernel g_4)) = LB.arr Int (0 : Int) encI (ordO (GO.l g_4) (GO.node g_4) (GO.kernel g_4)) ∧ True) ∧ ∀ (g_5 : Nat), g_5 ≤ List.length (ordO
  (GP.l g) (firstI (GP.p g) (GP.node g)) (GP.kernel g)) → (decide ((↑g_5 : Int) < (↑(List.length (ordO (GO.l g_4) (GO.node g_4) (GO.kernel g_4))) : Int)) = true → ((Po.kind (GP.p g)
  != (2 : Int)) = true → ((0 : Int) ≤ (↑g_5 : Int) ∧ (↑g_5 : Int) < (↑(List.length (ordO (GO.l g_4) (GO.node g_4) (GO.kernel g_4))) : Int)) ∧ (0 : Nat) + Int.toNat (↑g_5 : Int) <
  List.length (ordO (GO.l g_4) (GO.node g_4) (GO.kernel g_4)) ∧ (0 : Nat) + List.length (pickTo g g_5) ≤ List.length (pickTo g g_5) ∧ ∃ (ys : List Int), [[SV.val (Value.int
  IntKind.i64 (List.getD (ordO (GO.l g_4) (GO.node g_4) (GO.kernel g_4)) ((0 : Nat) + Int.toNat (↑g_5 : Int)) (0 : Int)))]] = List.map encI ys ∧ (List.length (pickTo g g_5) +
  List.length ys) * (8 : Nat) ≤ (140737488355328 : Nat) ∧ inK IntKind.i64 ((↑g_5 : Int) + (1 : Int)) ∧ ∃ (g' : Nat), g' ≤ List.length (ordO (GP.l g) (firstI (GP.p g) (GP.node g))
  (GP.kernel g)) ∧ List.length (ordO (GP.l g) (firstI (GP.p g) (GP.node g)) (GP.kernel g)) - g' < List.length (ordO (GP.l g) (firstI (GP.p g) (GP.node g)) (GP.kernel g)) - g_5 ∧ (((1
  : Nat) = (1 : Nat) ∧ (0 : Nat) = (0 : Nat) ∧ List.length (pickTo g g_5) + List.length ys = List.length (pickTo g g')) ∧ (↑g_5 : Int) + (1 : Int) = (↑g' : Int)) ∧ (LB.arr Int (0 :
  Int) encI (List.take (List.length (pickTo g g_5)) (List.drop (0 : Nat) (pickTo g g_5)) ++ ys) = LB.arr Int (0 : Int) encI (pickTo g g') ∧ True) ∧ LB.cells [SV.val (Value.int
  IntKind.i64 (Po.kind (GP.p g))), SV.val (Value.int IntKind.i64 (Po.nodes (GP.p g))), SV.val (Value.int IntKind.i64 (Po.turn (GP.p g)))] = LB.cells [SV.val (Value.int IntKind.i64
  (Po.kind (GP.p g))), SV.val (Value.int IntKind.i64 (Po.nodes (GP.p g))), SV.val (Value.int IntKind.i64 (Po.turn (GP.p g)))] ∧ LB.arr Int (0 : Int) encI (ordO (GO.l g_4) (GO.node
  g_4) (GO.kernel g_4)) = LB.arr Int (0 : Int) encI (ordO (GO.l g_4) (GO.node g_4) (GO.kernel g_4)) ∧ True) ∧ ((Po.kind (GP.p g) != (2 : Int)) = false → ((0 : Int) ≤ (↑g_5 : Int) ∧
  (↑g_5 : Int) < (↑(List.length (ordO (GO.l g_4) (GO.node g_4) (GO.kernel g_4))) : Int)) ∧ (0 : Nat) + Int.toNat (↑g_5 : Int) < List.length (ordO (GO.l g_4) (GO.node g_4) (GO.kernel
  g_4)) ∧ ((0 : Int) ≤ List.getD (ordO (GO.l g_4) (GO.node g_4) (GO.kernel g_4)) ((0 : Nat) + Int.toNat (↑g_5 : Int)) (0 : Int) ∧ List.getD (ordO (GO.l g_4) (GO.node g_4) (GO.kernel
  g_4)) ((0 : Nat) + Int.toNat (↑g_5 : Int)) (0 : Int) < (↑(List.length (GP.l g)) : Int)) ∧ Int.toNat (List.getD (ordO (GO.l g_4) (GO.node g_4) (GO.kernel g_4)) ((0 : Nat) +
  Int.toNat (↑g_5 : Int)) (0 : Int)) < List.length (GP.l g) ∧ ∃ (g_6 : Int × Int), (SV.val (Value.int IntKind.i64 (Po.nodes (GP.p g))) = SV.val (Value.int IntKind.i64 (Prod.fst g_6))
  ∧ SV.val (Value.int IntKind.i64 (Z.node (List.getD (GP.l g) (Int.toNat (List.getD (ordO (GO.l g_4) (GO.node g_4) (GO.kernel g_4)) ((0 : Nat) + Int.toNat (↑g_5 : Int)) (0 : Int)))
  dZ))) = SV.val (Value.int IntKind.i64 (Prod.snd g_6))) ∧ True ∧ True ∧ ∀ (b : Unit), True → (inM (Prod.fst g_6) (Prod.snd g_6) = true → ((0 : Int) ≤ (↑g_5 : Int) ∧ (↑g_5 : Int) <
  (↑(List.length (ordO (GO.l g_4) (GO.node g_4) (GO.kernel g_4))) : Int)) ∧ (0 : Nat) + Int.toNat (↑g_5 : Int) < List.length (ordO (GO.l g_4) (GO.node g_4) (GO.kernel g_4)) ∧ (0 :
  Nat) + List.length (pickTo g g_5) ≤ List.length (pickTo g g_5) ∧ ∃ (ys : List Int), [[SV.val (Value.int IntKind.i64 (List.getD (ordO (GO.l g_4) (GO.node g_4) (GO.kernel g_4)) ((0 :
  Nat) + Int.toNat (↑g_5 : Int)) (0 : Int)))]] = List.map encI ys ∧ (List.length (pickTo g g_5) + List.length ys) * (8 : Nat) ≤ (140737488355328 : Nat) ∧ inK IntKind.i64 ((↑g_5 :
  Int) + (1 : Int)) ∧ ∃ (g' : Nat), g' ≤ List.length (ordO (GP.l g) (firstI (GP.p g) (GP.node g)) (GP.kernel g)) ∧ List.length (ordO (GP.l g) (firstI (GP.p g) (GP.node g)) (GP.kernel
  g)) - g' < List.length (ordO (GP.l g) (firstI (GP.p g) (GP.node g)) (GP.kernel g)) - g_5 ∧ (((1 : Nat) = (1 : Nat) ∧ (0 : Nat) = (0 : Nat) ∧ List.length (pickTo g g_5) +
  List.length ys = List.length (pickTo g g')) ∧ (↑g_5 : Int) + (1 : Int) = (↑g' : Int)) ∧ (LB.arr Int (0 : Int) encI (List.take (List.length (pickTo g g_5)) (List.drop (0 : Nat)
  (pickTo g g_5)) ++ ys) = LB.arr Int (0 : Int) encI (pickTo g g') ∧ True) ∧ LB.cells [SV.val (Value.int IntKind.i64 (Po.kind (GP.p g))), SV.val (Value.int IntKind.i64 (Po.nodes
  (GP.p g))), SV.val (Value.int IntKind.i64 (Po.turn (GP.p g)))] = LB.cells [SV.val (Value.int IntKind.i64 (Po.kind (GP.p g))), SV.val (Value.int IntKind.i64 (Po.nodes (GP.p g))),
  SV.val (Value.int IntKind.i64 (Po.turn (GP.p g)))] ∧ LB.arr Int (0 : Int) encI (ordO (GO.l g_4) (GO.node g_4) (GO.kernel g_4)) = LB.arr Int (0 : Int) encI (ordO (GO.l g_4) (GO.node
  g_4) (GO.kernel g_4)) ∧ True) ∧ (inM (Prod.fst g_6) (Prod.snd g_6) = false → inK IntKind.i64 ((↑g_5 : Int) + (1 : Int)) ∧ ∃ (g' : Nat), g' ≤ List.length (ordO (GP.l g) (firstI
  (GP.p g) (GP.node g)) (GP.kernel g)) ∧ List.length (ordO (GP.l g) (firstI (GP.p g) (GP.node g)) (GP.kernel g)) - g' < List.length (ordO (GP.l g) (firstI (GP.p g) (GP.node g))
  (GP.kernel g)) - g_5 ∧ (((1 : Nat) = (1 : Nat) ∧ (0 : Nat) = (0 : Nat) ∧ List.length (pickTo g g_5) = List.length (pickTo g g')) ∧ (↑g_5 : Int) + (1 : Int) = (↑g' : Int)) ∧ (LB.arr
  Int (0 : Int) encI (pickTo g g_5) = LB.arr Int (0 : Int) encI (pickTo g g') ∧ True) ∧ LB.cells [SV.val (Value.int IntKind.i64 (Po.kind (GP.p g))), SV.val (Value.int IntKind.i64
  (Po.nodes (GP.p g))), SV.val (Value.int IntKind.i64 (Po.turn (GP.p g)))] = LB.cells [SV.val (Value.int IntKind.i64 (Po.kind (GP.p g))), SV.val (Value.int IntKind.i64 (Po.nodes
  (GP.p g))), SV.val (Value.int IntKind.i64 (Po.turn (GP.p g)))] ∧ LB.arr Int (0 : Int) encI (ordO (GO.l g_4) (GO.node g_4) (GO.kernel g_4)) = LB.arr Int (0 : Int) encI (ordO (GO.l
  g_4) (GO.node g_4) (GO.kernel g_4)) ∧ True))) ∧ (decide ((↑g_5 : Int) < (↑(List.length (ordO (GO.l g_4) (GO.node g_4) (GO.kernel g_4))) : Int)) = false → ∃ (b : Unit), True ∧
  (((SV.sl (264 : Nat) (1 : Nat) (0 : Nat) (List.length (pickTo g g_5)) = SV.sl (264 : Nat) (1 : Nat) (0 : Nat) (List.length (pickTo g g_5)) ∧ (0 : Nat) = (0 : Nat) ∧ (1 : Nat) = (1
  : Nat) ∧ List.length (pickTo g g_5) = List.length (pickO g)) ∧ SV.val (Value.int IntKind.i64 (0 : Int)) = SV.val (Value.int IntKind.i64 (pickE (GP.l g) (GP.p g) (GP.node g)))) ∧ (∀
  (x : Int), allFlat (encI x) = true) ∧ (0 : Nat) + List.length (pickTo g g_5) ≤ List.length (pickTo g g_5) ∧ LB.arr Int (0 : Int) encI (List.take (List.length (pickTo g g_5))
  (List.drop (0 : Nat) (pickTo g g_5))) = LB.arr Int (0 : Int) encI (pickO g)) ∧ (0 : Nat) = (0 : Nat) ∧ True)))))) := by kernel_rfl

theorem filter_next {α : Type} (f : α → Bool) (d : α) {L : List α} {i : Nat} (h : i < L.length) : (L.take (i + 1)).filter f = (L.take i).filter f ++ if f (L.getD i d) = true then [L.getD i d] else [] := by
  rw [take_next L d h, List.filter_append]
  congr 1
  cases hf : f (L.getD i d) <;> simp [hf, -List.getD_eq_getElem?_getD]
theorem vRPick : cRPick.body (fun g => env [(14, cCheck), (37, cPol), (38, cFirst), (18, cROrder), (39, cIn)] (lRPick g)) Try.f21 := by
  rw [vRPick_eq]
  rintro ⟨l, p, node, k⟩ hlen
  dsimp only at hlen ⊢
  have bad : pickE l p node ≠ 0 → pickO ⟨l, p, node, k⟩ = [] := fun h => by rw [pickO, if_pos h]
  refine ⟨l, rfl, trivial, hlen, fun _ _ => ⟨fun h => ?_, fun h => ⟨p, ⟨rfl, rfl, rfl, trivial⟩, trivial, trivial, fun _ _ => ⟨fun hp => ?_, fun hp => ⟨fun h1 => ?_, fun h1 => ⟨fun h2 => ?_, fun h2 => ?_⟩⟩⟩⟩⟩⟩
  · have h : chk l ≠ 0 := by simpa using h
    have e : pickE l p node = chk l := by rw [pickE, if_pos h]
    rw [bad (by rw [e]; exact h), e]
    exact ⟨(), trivial, ⟨⟨⟨rfl, rfl, rfl⟩, rfl⟩, flI, rfl, okI'⟩, rfl, trivial⟩
  · have h : chk l = 0 := by simpa using h
    have hp : polE p ≠ 0 := by simpa using hp
    have e : pickE l p node = polE p := by rw [pickE, if_neg (by rw [h]; decide), if_pos hp]
    rw [bad (by rw [e]; exact hp), e]
    exact ⟨(), trivial, ⟨⟨⟨rfl, rfl, rfl⟩, rfl⟩, flI, rfl, okI'⟩, rfl, trivial⟩
  · have h : chk l = 0 := by simpa using h
    have hp : polE p = 0 := by simpa using hp
    have h1 := of_decide_eq_true h1
    have e : pickE l p node = 2 := by rw [pickE, if_neg (by rw [h]; decide), if_neg (by rw [hp]; decide), if_pos (.inl h1)]
    rw [bad (by rw [e]; decide), e]
    exact ⟨(), trivial, ⟨⟨⟨rfl, rfl, rfl⟩, rfl⟩, flI, rfl, okI'⟩, rfl, trivial⟩
  · have h : chk l = 0 := by simpa using h
    have hp : polE p = 0 := by simpa using hp
    have h2 := of_decide_eq_true h2
    have e : pickE l p node = 2 := by rw [pickE, if_neg (by rw [h]; decide), if_neg (by rw [hp]; decide), if_pos (.inr h2)]
    rw [bad (by rw [e]; decide), e]
    exact ⟨(), trivial, ⟨⟨⟨rfl, rfl, rfl⟩, rfl⟩, flI, rfl, okI'⟩, rfl, trivial⟩
  · have h : chk l = 0 := by simpa using h
    have hp : polE p = 0 := by simpa using hp
    have h1 := of_decide_eq_false h1
    have h2 := of_decide_eq_false h2
    have e : pickE l p node = 0 := by rw [pickE, if_neg (by rw [h]; decide), if_neg (by rw [hp]; decide), if_neg (by omega)]
    have e2 : pickO ⟨l, p, node, k⟩ = (ordO l (firstI p node) k).filter (sel l p) := by rw [pickO, if_neg (by rw [e]; decide)]
    refine ⟨⟨p, node⟩, ⟨⟨rfl, rfl, rfl, trivial⟩, rfl⟩, trivial, hp, fun _ _ => ⟨⟨l, firstI p node, k⟩, ⟨rfl, rfl, rfl⟩, trivial, hlen, fun _ _ => ?_⟩⟩
    have hmem := fun x => @ordO_mem l (firstI p node) k x
    have hL := @ordO_len l (firstI p node) k
    have ePT : ∀ i, pickTo ⟨l, p, node, k⟩ i = ((ordO l (firstI p node) k).take i).filter (sel l p) := fun i => rfl
    generalize ordO l (firstI p node) k = L at *
    have hlp : ∀ i, (pickTo ⟨l, p, node, k⟩ i).length ≤ 96 := fun i => by
      rw [ePT]
      have := List.length_filter_le (sel l p) (L.take i)
      have : (L.take i).length ≤ L.length := by simp; omega
      omega
    have hit : ∀ i, i < L.length → sel l p (L.getD i 0) = true → pickTo ⟨l, p, node, k⟩ (i + 1) = pickTo ⟨l, p, node, k⟩ i ++ [L.getD i 0] := fun i hi hs => by
      rw [ePT, ePT, filter_next (sel l p) 0 hi, if_pos hs]
    have miss : ∀ i, i < L.length → sel l p (L.getD i 0) = false → pickTo ⟨l, p, node, k⟩ (i + 1) = pickTo ⟨l, p, node, k⟩ i := fun i hi hs => by
      rw [ePT, ePT, filter_next (sel l p) 0 hi, if_neg (by rw [hs]; decide), List.append_nil]
    refine ⟨⟨0, Nat.zero_le _, ⟨⟨rfl, rfl⟩, rfl⟩, ⟨⟨rfl, okI'⟩, trivial⟩, rfl, rfl, trivial⟩, fun i hi => ⟨fun hlt => ?_, fun hge => ?_⟩⟩
    · have hlt : (i : Int) < L.length := of_decide_eq_true hlt
      have hi' : i < L.length := by omega
      have hx := hmem (L.getD i 0) (getD_mem hi')
      have hpl := hlp i
      rw [Int.toNat_natCast, Nat.zero_add]
      refine ⟨fun h3 => ⟨⟨by omega, hlt⟩, hi', Nat.le_of_eq (Nat.zero_add _), [L.getD i 0], rfl, by simp only [List.length_cons, List.length_nil]; omega, inI (by omega) (by omega), i + 1, hi', by omega, ⟨⟨rfl, rfl, ?_⟩, by omega⟩, ⟨?_, trivial⟩, rfl, rfl, trivial⟩, fun h3 => ⟨⟨by omega, hlt⟩, hi', hx, by omega, (p.nodes, (l.getD (L.getD i 0).toNat dZ).node), ⟨rfl, rfl⟩, trivial, trivial, fun _ _ => ⟨fun h4 => ⟨⟨by omega, hlt⟩, hi', Nat.le_of_eq (Nat.zero_add _), [L.getD i 0], rfl, by simp only [List.length_cons, List.length_nil]; omega, inI (by omega) (by omega), i + 1, hi', by omega, ⟨⟨rfl, rfl, ?_⟩, by omega⟩, ⟨?_, trivial⟩, rfl, rfl, trivial⟩, fun h4 => ⟨inI (by omega) (by omega), i + 1, hi', by omega, ⟨⟨rfl, rfl, ?_⟩, by omega⟩, ⟨?_, trivial⟩, rfl, rfl, trivial⟩⟩⟩⟩
      · rw [hit i hi' (by unfold sel; rw [h3]; rfl), List.length_append]
      · rw [hit i hi' (by unfold sel; rw [h3]; rfl), List.drop_zero, List.take_length]
      · rw [hit i hi' (by unfold sel; rw [h3]; exact h4), List.length_append]
      · rw [hit i hi' (by unfold sel; rw [h3]; exact h4), List.drop_zero, List.take_length]
      · rw [miss i hi' (by unfold sel; rw [h3]; exact h4)]
      · rw [miss i hi' (by unfold sel; rw [h3]; exact h4)]
    · have hge := of_decide_eq_false hge
      have : i = L.length := by omega
      subst this
      have e3 : pickTo ⟨l, p, node, k⟩ L.length = pickO ⟨l, p, node, k⟩ := by rw [ePT, List.take_length, e2]
      rw [e3, e]
      refine ⟨(), trivial, ⟨⟨⟨rfl, rfl, rfl, rfl⟩, rfl⟩, flI, Nat.le_of_eq (Nat.zero_add _), ?_⟩, rfl, trivial⟩
      rw [List.drop_zero, List.take_length]
theorem sRPick : SpecOk P 21 cRPick.spec := spec_of cRPick (tab_cons sRCheck (tab_cons sPol (tab_cons sFirst (tab_cons sROrder (tab_cons sIn (tab_nil P)))))) mixed (fn := Try.f21) (by kernel_rfl) (by kernel_rfl) (by kernel_rfl) (Nat.zero_le _) (noIns fun _ => rfl) vRPick
end Go.Zn
