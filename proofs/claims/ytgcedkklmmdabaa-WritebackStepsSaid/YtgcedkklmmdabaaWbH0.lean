/- A PART OF THE PROOF. NO CONDITION. -/
import Derived.Test.YtgcedkklmmdabaaWbF
import Derived.DeepKeys4
section
noncomputable section
set_option linter.unusedVariables false
set_option linter.unusedVariables false
set_option linter.unusedSimpArgs false
namespace Go.Wb
open Go.Proofs Go.SX
set_option maxRecDepth 100000

/-! Equal -/
def eqL : List DP → List DP → Bool
  | [], [] => true
  | p :: r, q :: s => eqDP p q && eqL r s
  | _, _ => false
def cEq : Con := pureCon (List DP × List DP) Unit (fun g => [roP g.1, roP g.2]) (fun g => g.1.length ≤ 1000000000 ∧ g.2.length ≤ 1000000000) (fun _ _ => True) (fun g _ => Bo (eqL g.1 g.2))
def lEq (g : List DP × List DP) : Loops := loop1 0 { γ := Nat, slots := [13], vals := fun _ i => [I i], inv := fun i => i ≤ g.1.length ∧ g.1.length = g.2.length ∧ eqL (g.1.drop i) (g.2.drop i) = eqL g.1 g.2, μ := fun i => g.1.length - i }
theorem vEq_eq : (cEq.body (fun g => env [] (lEq g)) Try.f18) = (∀ (g : List DP × List DP), List.length (Prod.fst g) ≤ (1000000000 : Nat) ∧ List.length (Prod.snd g) ≤ (1000000000 : Nat) → (((↑(List.length (Prod.fst g)) : Int) != (↑(List.length
  (Prod.snd g)) : Int)) = true → ∃ (b : Unit), True ∧ eqL (Prod.fst g) (Prod.snd g) = false ∧ (0 : Nat) = (0 : Nat) ∧ True) ∧ (((↑(List.length (Prod.fst g)) : Int) != (↑(List.length
  (Prod.snd g)) : Int)) = false → (∃ (g_1 : Nat), (g_1 ≤ List.length (Prod.fst g) ∧ List.length (Prod.fst g) = List.length (Prod.snd g) ∧ eqL (List.drop g_1 (Prod.fst g)) (List.drop
  g_1 (Prod.snd g)) = eqL (Prod.fst g) (Prod.snd g)) ∧ (0 : Int) = (↑g_1 : Int) ∧ True ∧ True) ∧ ∀ (g_1 : Nat), g_1 ≤ List.length (Prod.fst g) ∧ List.length (Prod.fst g) =
  List.length (Prod.snd g) ∧ eqL (List.drop g_1 (Prod.fst g)) (List.drop g_1 (Prod.snd g)) = eqL (Prod.fst g) (Prod.snd g) → (decide ((↑g_1 : Int) < (↑(List.length (Prod.fst g)) :
  Int)) = true → ((0 : Int) ≤ (↑g_1 : Int) ∧ (↑g_1 : Int) < (↑(List.length (Prod.fst g)) : Int)) ∧ Int.toNat (↑g_1 : Int) < List.length (Prod.fst g) ∧ ((0 : Int) ≤ (↑g_1 : Int) ∧
  (↑g_1 : Int) < (↑(List.length (Prod.snd g)) : Int)) ∧ Int.toNat (↑g_1 : Int) < List.length (Prod.snd g) ∧ ((!(DP.file (List.getD (Prod.fst g) (Int.toNat (↑g_1 : Int)) dDP) ==
  DP.file (List.getD (Prod.snd g) (Int.toNat (↑g_1 : Int)) dDP) && (DP.index (List.getD (Prod.fst g) (Int.toNat (↑g_1 : Int)) dDP) == DP.index (List.getD (Prod.snd g) (Int.toNat
  (↑g_1 : Int)) dDP) && (DP.since (List.getD (Prod.fst g) (Int.toNat (↑g_1 : Int)) dDP) == DP.since (List.getD (Prod.snd g) (Int.toNat (↑g_1 : Int)) dDP) && true)))) = true → ∃ (b :
  Unit), True ∧ eqL (Prod.fst g) (Prod.snd g) = false ∧ (0 : Nat) = (0 : Nat) ∧ True) ∧ ((!(DP.file (List.getD (Prod.fst g) (Int.toNat (↑g_1 : Int)) dDP) == DP.file (List.getD
  (Prod.snd g) (Int.toNat (↑g_1 : Int)) dDP) && (DP.index (List.getD (Prod.fst g) (Int.toNat (↑g_1 : Int)) dDP) == DP.index (List.getD (Prod.snd g) (Int.toNat (↑g_1 : Int)) dDP) &&
  (DP.since (List.getD (Prod.fst g) (Int.toNat (↑g_1 : Int)) dDP) == DP.since (List.getD (Prod.snd g) (Int.toNat (↑g_1 : Int)) dDP) && true)))) = false → inK IntKind.i64 ((↑g_1 :
  Int) + (1 : Int)) ∧ ∃ (g' : Nat), (g' ≤ List.length (Prod.fst g) ∧ List.length (Prod.fst g) = List.length (Prod.snd g) ∧ eqL (List.drop g' (Prod.fst g)) (List.drop g' (Prod.snd g))
  = eqL (Prod.fst g) (Prod.snd g)) ∧ List.length (Prod.fst g) - g' < List.length (Prod.fst g) - g_1 ∧ (↑g_1 : Int) + (1 : Int) = (↑g' : Int) ∧ True ∧ True)) ∧ (decide ((↑g_1 : Int) <
  (↑(List.length (Prod.fst g)) : Int)) = false → ∃ (b : Unit), True ∧ eqL (Prod.fst g) (Prod.snd g) = true ∧ (0 : Nat) = (0 : Nat) ∧ True))) := by kernel_rfl
theorem eqL_len : ∀ {a b : List DP}, a.length ≠ b.length → eqL a b = false
  | [], [], h => absurd rfl h
  | [], _ :: _, _ => rfl
  | _ :: _, [], _ => rfl
  | p :: r, q :: s, h => by rw [eqL, eqL_len (a := r) (b := s) (by simpa using h), Bool.and_false]
theorem vEq : cEq.body (fun g => env [] (lEq g)) Try.f18 := by
  rw [vEq_eq]
  rintro ⟨l, m⟩ ⟨h1, h2⟩
  dsimp only at h1 h2 ⊢
  refine ⟨fun hn => ⟨(), trivial, ?_, rfl, trivial⟩, fun hn => ⟨⟨0, ⟨Nat.zero_le _, ?_, rfl⟩, rfl, trivial, trivial⟩, fun i hinv => ⟨fun hlt => ?_, fun hge => ⟨(), trivial, ?_, rfl, trivial⟩⟩⟩⟩
  · have hn : (l.length : Int) ≠ m.length := by simpa only [bne_iff_ne, ne_eq] using hn
    exact eqL_len (by omega)
  · have hn : (l.length : Int) = m.length := by simpa only [bne_eq_false_iff_eq] using hn
    omega
  · obtain ⟨hi, hl, ho⟩ := hinv
    have hlt : (i : Int) < l.length := of_decide_eq_true hlt
    have hi' : i < l.length := by omega
    have hd : ∀ {l : List DP}, i < l.length → l.drop i = l.getD i dDP :: l.drop (i + 1) := fun {l} hi' => by
      rw [List.drop_eq_getElem_cons hi', List.getD_eq_getElem?_getD, List.getElem?_eq_getElem hi']; rfl
    rw [hd hi', hd (l := m) (by omega), eqL] at ho
    rw [Int.toNat_natCast]
    refine ⟨⟨by omega, hlt⟩, hi', ⟨by omega, by omega⟩, by omega, fun h => ⟨(), trivial, ?_, rfl, trivial⟩, fun h => ⟨inI (by omega) (by omega), i + 1, ⟨hi', hl, ?_⟩, by omega, by omega, trivial, trivial⟩⟩
    · have h : eqDP (l.getD i dDP) (m.getD i dDP) = false := (Bool.not_eq_true' _).mp h
      rw [h, Bool.false_and] at ho; exact ho.symm
    · have h : eqDP (l.getD i dDP) (m.getD i dDP) = true := (Bool.not_eq_false' _).mp h
      rw [h, Bool.true_and] at ho; exact ho
  · obtain ⟨hi, hl, ho⟩ := hinv
    have hge : ¬ (i : Int) < l.length := of_decide_eq_false hge
    rw [List.drop_eq_nil_of_le (by omega), List.drop_eq_nil_of_le (by omega)] at ho
    exact ho.symm
theorem sEq : SpecOk P 18 cEq.spec := spec_of cEq (tab_nil P) mixed (fn := Try.f18) (by kernel_rfl) (by kernel_rfl) (by kernel_rfl) (Nat.zero_le _) (noIns fun _ => rfl) vEq
end Go.Wb
end
end
section
noncomputable section
set_option linter.unusedVariables false
set_option linter.unusedSimpArgs false
namespace Go.Wb
open Go.Proofs Go.SX
set_option maxRecDepth 100000

theorem und55 : P.underlying 55 = some (.struct #[⟨"file", 3, 0, false, "", "estovers/writeback", 0⟩, ⟨"index", 3, 1, false, "", "estovers/writeback", 8⟩]) := by kernel_rfl
theorem und3 : P.underlying 3 = some (.int .i64) := by kernel_rfl
theorem cells55 : P.cellsOf 55 = 2 := by kernel_rfl
theorem cells3 : P.cellsOf 3 = 1 := by kernel_rfl
theorem laidOut : laidOutB P = true := by kernel_rfl
theorem row55 : (55 : TypeId) < P.types.size := of_decide_eq_true (by kernel_rfl)
theorem wide55 : (match P.underlying 55 with | some (.array _ _) | some (.struct _) => true | _ => false) = true := by rw [und55]
theorem law55 : WideMaps.KeyLaw P 55 := deep_law_laid laidOut (m := 2) (by omega) row55 (by kernel_rfl) wide55
theorem keyType55 : P.keyType 55 = true := by kernel_rfl
theorem typesSize : ∃ n, P.types.size = n + 1 := ⟨P.types.size - 1, by kernel_rfl⟩
theorem wf_of {x : Int} (h : inK .i64 x) : (Lit.int .i64 x).wf = true := by
  unfold inK lo hi at h
  simp only [Lit.wf, Bool.and_eq_true, decide_eq_true_eq]
  exact ⟨h.1, h.2⟩
theorem key55 : KeyOk P 55 true 2 where
  keyed := Maps.Keyed.of_law law55
  one := fun h => by cases h
  lit := fun xs hl hin => by
    match xs, hl, hin with
    | [a, b], _, hin =>
      obtain ⟨ha, hb⟩ := hin
      obtain ⟨n, hn⟩ := typesSize
      refine ⟨.string (keyBytes [.int .i64 a, .int .i64 b]), ?_⟩
      have w1 := wf_of ha
      have w2 := wf_of hb
      simp [keyOf, und55, keyType55, keyV, Value.formed, cells55, Value.cells, Program.keyLits, hn, cells3, und3, w1, w2]
end Go.Wb
end
end
