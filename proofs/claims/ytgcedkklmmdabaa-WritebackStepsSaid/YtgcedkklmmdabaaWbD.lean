/- A PART OF THE PROOF. NO CONDITION. -/
import Derived.Test.YtgcedkklmmdabaaWbC
noncomputable section
set_option linter.unusedVariables false
set_option linter.unusedVariables false
set_option linter.unusedSimpArgs false
namespace Go.Wb
open Go.Proofs Go.SX
set_option maxRecDepth 100000

theorem sExp : SpecOk P 20 cExp.spec := spec_of cExp tabS_ok mixed (fn := Try.f20) (by kernel_rfl) (by kernel_rfl) (by kernel_rfl) (Nat.zero_le _) (noIns fun _ => rfl) vExp
theorem sWr : SpecOk P 25 cWr.spec := spec_of cWr tabS_ok mixed (fn := Try.f25) (by kernel_rfl) (by kernel_rfl) (by kernel_rfl) (Nat.zero_le _) (noIns fun _ => rfl) vWr

/-! isPage, at, isNaN, Compare, Or, compare -/
def isPage (f i : Int) : Bool := decide (f ≥ 0) && decide (f < 4) && decide (i ≥ 0) && decide (i < 16)
def cPage : Con := pureCon (Int × Int) Unit (fun g => [I g.1, I g.2]) (fun _ => True) (fun _ _ => True) (fun g _ => Bo (isPage g.1 g.2))
theorem vPage_eq : (cPage.body (fun g => env [] (noLoops g)) Try.f33) = (∀ (g : Int × Int), True → (decide (Prod.fst g ≥ (0 : Int)) = true → (decide (Prod.fst g < (4 : Int)) = true → (decide (Prod.snd g ≥ (0 : Int)) = true → ∃ (b : Unit), True ∧ SV.val
  (Value.bool (decide (Prod.snd g < (16 : Int)))) = SV.val (Value.bool (isPage (Prod.fst g) (Prod.snd g))) ∧ (0 : Nat) = (0 : Nat) ∧ True) ∧ (decide (Prod.snd g ≥ (0 : Int)) = false
  → ∃ (b : Unit), True ∧ isPage (Prod.fst g) (Prod.snd g) = false ∧ (0 : Nat) = (0 : Nat) ∧ True)) ∧ (decide (Prod.fst g < (4 : Int)) = false → ∃ (b : Unit), True ∧ isPage (Prod.fst
  g) (Prod.snd g) = false ∧ (0 : Nat) = (0 : Nat) ∧ True)) ∧ (decide (Prod.fst g ≥ (0 : Int)) = false → ∃ (b : Unit), True ∧ isPage (Prod.fst g) (Prod.snd g) = false ∧ (0 : Nat) = (0
  : Nat) ∧ True)) := by kernel_rfl
theorem vPage : cPage.body (fun g => env [] (noLoops g)) Try.f33 := by
  rw [vPage_eq]
  rintro ⟨f, i⟩ _
  refine ⟨fun h1 => ⟨fun h2 => ⟨fun h3 => ⟨(), trivial, ?_, rfl, trivial⟩, fun h3 => ⟨(), trivial, ?_, rfl, trivial⟩⟩, fun h2 => ⟨(), trivial, ?_, rfl, trivial⟩⟩, fun h1 => ⟨(), trivial, ?_, rfl, trivial⟩⟩
  · unfold isPage; rw [h1, h2, h3]; rfl
  · unfold isPage; rw [h3, Bool.and_false]; rfl
  · unfold isPage; rw [h2, Bool.and_false]; rfl
  · unfold isPage; rw [h1]; rfl

def cAt : Con := pureCon DP Unit (fun p => [.agg (encDP p)]) (fun _ => True) (fun _ _ => True) (fun p _ => .agg [I p.file, I p.index])
theorem vAt_eq : (cAt.body (fun g => env [] (noLoops g)) Try.f34) = (∀ (g : DP), True → ∃ (b : Unit), True ∧ (SV.val (Value.int IntKind.i64 (DP.file g)) = SV.val (Value.int IntKind.i64 (DP.file g)) ∧ SV.val (Value.int IntKind.i64 (DP.index g)) =
  SV.val (Value.int IntKind.i64 (DP.index g))) ∧ (0 : Nat) = (0 : Nat) ∧ True) := by kernel_rfl
theorem vAt : cAt.body (fun g => env [] (noLoops g)) Try.f34 := by
  rw [vAt_eq]
  exact fun _ _ => ⟨(), trivial, ⟨rfl, rfl⟩, rfl, trivial⟩

def cNaN : Con := pureCon Int Unit (fun x => [I x]) (fun _ => True) (fun _ _ => True) (fun x _ => Bo false)
theorem vNaN_eq : (cNaN.body (fun g => env [] (noLoops g)) Try.f51) = (∀ (g : Int), True → ∃ (b : Unit), True ∧ SV.val (Value.bool (g != g)) = SV.val (Value.bool false) ∧ (0 : Nat) = (0 : Nat) ∧ True) := by kernel_rfl
theorem vNaN : cNaN.body (fun g => env [] (noLoops g)) Try.f51 := by
  rw [vNaN_eq]
  exact fun x _ => ⟨(), trivial, by simp, rfl, trivial⟩
theorem sNaN : SpecOk P 51 cNaN.spec := spec_of cNaN (tab_nil P) mixed (fn := Try.f51) (by kernel_rfl) (by kernel_rfl) (by kernel_rfl) (Nat.zero_le _) (noIns fun _ => rfl) vNaN

def cmpI (a b : Int) : Int := if a < b then -1 else if a > b then 1 else 0
def cCmp : Con := pureCon (Int × Int) Unit (fun g => [I g.1, I g.2]) (fun _ => True) (fun _ _ => True) (fun g _ => I (cmpI g.1 g.2))
theorem vCmp_eq : (cCmp.body (fun g => env [(51, cNaN)] (noLoops g)) Try.f42) = (∀ (g : Int × Int), True → ∃ (g_1 : Int), SV.val (Value.int IntKind.i64 (Prod.fst g)) = SV.val (Value.int IntKind.i64 g_1) ∧ True ∧ True ∧ ∀ (b : Unit), True → ∃ (g_2 : Int), SV.val
  (Value.int IntKind.i64 (Prod.snd g)) = SV.val (Value.int IntKind.i64 g_2) ∧ True ∧ True ∧ ∀ (b : Unit), True → (false = true → (false = true → ∃ (b : Unit), True ∧ SV.val
  (Value.int IntKind.i64 (0 : Int)) = SV.val (Value.int IntKind.i64 (cmpI (Prod.fst g) (Prod.snd g))) ∧ (0 : Nat) = (0 : Nat) ∧ True) ∧ (false = false → ∃ (b : Unit), True ∧ SV.val
  (Value.int IntKind.i64 (-1 : Int)) = SV.val (Value.int IntKind.i64 (cmpI (Prod.fst g) (Prod.snd g))) ∧ (0 : Nat) = (0 : Nat) ∧ True)) ∧ (false = false → (false = true → ∃ (b :
  Unit), True ∧ SV.val (Value.int IntKind.i64 (1 : Int)) = SV.val (Value.int IntKind.i64 (cmpI (Prod.fst g) (Prod.snd g))) ∧ (0 : Nat) = (0 : Nat) ∧ True) ∧ (false = false → (decide
  (Prod.fst g < Prod.snd g) = true → ∃ (b : Unit), True ∧ SV.val (Value.int IntKind.i64 (-1 : Int)) = SV.val (Value.int IntKind.i64 (cmpI (Prod.fst g) (Prod.snd g))) ∧ (0 : Nat) = (0
  : Nat) ∧ True) ∧ (decide (Prod.fst g < Prod.snd g) = false → (decide (Prod.fst g > Prod.snd g) = true → ∃ (b : Unit), True ∧ SV.val (Value.int IntKind.i64 (1 : Int)) = SV.val
  (Value.int IntKind.i64 (cmpI (Prod.fst g) (Prod.snd g))) ∧ (0 : Nat) = (0 : Nat) ∧ True) ∧ (decide (Prod.fst g > Prod.snd g) = false → ∃ (b : Unit), True ∧ SV.val (Value.int
  IntKind.i64 (0 : Int)) = SV.val (Value.int IntKind.i64 (cmpI (Prod.fst g) (Prod.snd g))) ∧ (0 : Nat) = (0 : Nat) ∧ True))))) := by kernel_rfl
theorem vCmp : cCmp.body (fun g => env [(51, cNaN)] (noLoops g)) Try.f42 := by
  rw [vCmp_eq]
  rintro ⟨a, b⟩ _
  refine ⟨a, rfl, trivial, trivial, fun _ _ => ⟨b, rfl, trivial, trivial, fun _ _ => ⟨fun h => (by cases h), fun _ => ⟨fun h => (by cases h), fun _ => ⟨fun h1 => ⟨(), trivial, ?_, rfl, trivial⟩, fun h1 => ⟨fun h2 => ⟨(), trivial, ?_, rfl, trivial⟩, fun h2 => ⟨(), trivial, ?_, rfl, trivial⟩⟩⟩⟩⟩⟩⟩
  · have h1 : a < b := of_decide_eq_true h1
    simp only [cmpI, if_pos h1]
  · have h1 : ¬ a < b := of_decide_eq_false h1
    have h2 : a > b := of_decide_eq_true h2
    simp only [cmpI, if_neg h1, if_pos h2]
  · have h1 : ¬ a < b := of_decide_eq_false h1
    have h2 : ¬ a > b := of_decide_eq_false h2
    simp only [cmpI, if_neg h1, if_neg h2]
theorem sCmp : SpecOk P 42 cCmp.spec := spec_of cCmp (tab_cons sNaN (tab_nil P)) mixed (fn := Try.f42) (by kernel_rfl) (by kernel_rfl) (by kernel_rfl) (Nat.zero_le _) (noIns fun _ => rfl) vCmp

def orI : List Int → Int
  | [] => 0
  | x :: r => if x = 0 then orI r else x
def cOr : Con := pureCon (List Int) Unit (fun l => [.ro Int 0 encI l]) (fun l => l.length ≤ 1000) (fun _ _ => True) (fun l _ => I (orI l))
def lOr (l : List Int) : Loops := loop1 0 { γ := Nat, slots := [8], vals := fun _ i => [I i], inv := fun i => i ≤ l.length ∧ orI (l.drop i) = orI l, μ := fun i => l.length - i }
theorem vOr_eq : (cOr.body (fun g => env [] (lOr g)) Try.f41) = (∀ (g : List Int), List.length g ≤ (1000 : Nat) → (∃ (g_1 : Nat), (g_1 ≤ List.length g ∧ orI (List.drop g_1 g) = orI g) ∧ (0 : Int) = (↑g_1 : Int) ∧ True ∧ True) ∧ ∀ (g_1 : Nat),
  g_1 ≤ List.length g ∧ orI (List.drop g_1 g) = orI g → (decide ((↑g_1 : Int) < (↑(List.length g) : Int)) = true → ((0 : Int) ≤ (↑g_1 : Int) ∧ (↑g_1 : Int) < (↑(List.length g) :
  Int)) ∧ Int.toNat (↑g_1 : Int) < List.length g ∧ ((List.getD g (Int.toNat (↑g_1 : Int)) (0 : Int) != (0 : Int)) = true → ∃ (b : Unit), True ∧ SV.val (Value.int IntKind.i64
  (List.getD g (Int.toNat (↑g_1 : Int)) (0 : Int))) = SV.val (Value.int IntKind.i64 (orI g)) ∧ (0 : Nat) = (0 : Nat) ∧ True) ∧ ((List.getD g (Int.toNat (↑g_1 : Int)) (0 : Int) != (0
  : Int)) = false → inK IntKind.i64 ((↑g_1 : Int) + (1 : Int)) ∧ ∃ (g' : Nat), (g' ≤ List.length g ∧ orI (List.drop g' g) = orI g) ∧ List.length g - g' < List.length g - g_1 ∧ (↑g_1
  : Int) + (1 : Int) = (↑g' : Int) ∧ True ∧ True)) ∧ (decide ((↑g_1 : Int) < (↑(List.length g) : Int)) = false → ∃ (b : Unit), True ∧ SV.val (Value.int IntKind.i64 (0 : Int)) =
  SV.val (Value.int IntKind.i64 (orI g)) ∧ (0 : Nat) = (0 : Nat) ∧ True)) := by kernel_rfl
theorem vOr : cOr.body (fun g => env [] (lOr g)) Try.f41 := by
  rw [vOr_eq]
  intro l hlen
  refine ⟨⟨0, ⟨Nat.zero_le _, rfl⟩, rfl, trivial, trivial⟩, fun i hinv => ⟨fun hlt => ?_, fun hge => ⟨(), trivial, ?_, rfl, trivial⟩⟩⟩
  · obtain ⟨hi, ho⟩ := hinv
    have hlt : (i : Int) < l.length := of_decide_eq_true hlt
    have hi' : i < l.length := by omega
    have hd : l.drop i = l.getD i 0 :: l.drop (i + 1) := by
      rw [List.drop_eq_getElem_cons hi', List.getD_eq_getElem?_getD, List.getElem?_eq_getElem hi']; rfl
    rw [hd, orI] at ho
    rw [Int.toNat_natCast]
    refine ⟨⟨by omega, hlt⟩, hi', fun h => ⟨(), trivial, ?_, rfl, trivial⟩, fun h => ⟨inI (by omega) (by omega), i + 1, ⟨hi', ?_⟩, by omega, by omega, trivial, trivial⟩⟩
    · have h : l.getD i 0 ≠ 0 := by simpa only [bne_iff_ne, ne_eq] using h
      rw [if_neg h] at ho; rw [ho]
    · have h : l.getD i 0 = 0 := by simpa only [bne_eq_false_iff_eq] using h
      rw [if_pos h] at ho; exact ho
  · obtain ⟨hi, ho⟩ := hinv
    have hge : ¬ (i : Int) < l.length := of_decide_eq_false hge
    rw [List.drop_eq_nil_of_le (by omega)] at ho
    rw [← ho]; rfl
theorem sOr : SpecOk P 41 cOr.spec := spec_of cOr (tab_nil P) mixed (fn := Try.f41) (by kernel_rfl) (by kernel_rfl) (by kernel_rfl) (Nat.zero_le _) (noIns fun _ => rfl) vOr

def compareI (a b : DP) : Int := orI [cmpI a.since b.since, cmpI a.file b.file, cmpI a.index b.index]
def cCompare : Con := pureCon (DP × DP) Unit (fun g => [.agg (encDP g.1), .agg (encDP g.2)]) (fun _ => True) (fun _ _ => True) (fun g _ => I (compareI g.1 g.2))
theorem vCompare_eq : (cCompare.body (fun g => env [(41, cOr), (42, cCmp)] (noLoops g)) Try.f31) = (∀ (g : DP × DP), True → ∃ (g_1 : Int × Int), (SV.val (Value.int IntKind.i64 (DP.since (Prod.fst g))) = SV.val (Value.int IntKind.i64 (Prod.fst g_1)) ∧ SV.val (Value.int IntKind.i64
  (DP.since (Prod.snd g))) = SV.val (Value.int IntKind.i64 (Prod.snd g_1))) ∧ True ∧ True ∧ ∀ (b : Unit), True → ∃ (g_2 : Int × Int), (SV.val (Value.int IntKind.i64 (DP.file
  (Prod.fst g))) = SV.val (Value.int IntKind.i64 (Prod.fst g_2)) ∧ SV.val (Value.int IntKind.i64 (DP.file (Prod.snd g))) = SV.val (Value.int IntKind.i64 (Prod.snd g_2))) ∧ True ∧
  True ∧ ∀ (b : Unit), True → ∃ (g_3 : Int × Int), (SV.val (Value.int IntKind.i64 (DP.index (Prod.fst g))) = SV.val (Value.int IntKind.i64 (Prod.fst g_3)) ∧ SV.val (Value.int
  IntKind.i64 (DP.index (Prod.snd g))) = SV.val (Value.int IntKind.i64 (Prod.snd g_3))) ∧ True ∧ True ∧ ∀ (b : Unit), True → ∃ (g_4 : List Int), ([[SV.val (Value.int IntKind.i64
  (cmpI (Prod.fst g_1) (Prod.snd g_1)))], [SV.val (Value.int IntKind.i64 (cmpI (Prod.fst g_2) (Prod.snd g_2)))], [SV.val (Value.int IntKind.i64 (cmpI (Prod.fst g_3) (Prod.snd
  g_3)))]] = List.map encI g_4 ∧ ∀ (x : Int), (1 : Nat) = (1 : Nat) ∧ allOne (encI x) = true) ∧ True ∧ List.length g_4 ≤ (1000 : Nat) ∧ ∀ (b : Unit), True → ∃ (b : Unit), True ∧
  SV.val (Value.int IntKind.i64 (orI g_4)) = SV.val (Value.int IntKind.i64 (compareI (Prod.fst g) (Prod.snd g))) ∧ (0 : Nat) = (0 : Nat) ∧ True) := by kernel_rfl
theorem vCompare : cCompare.body (fun g => env [(41, cOr), (42, cCmp)] (noLoops g)) Try.f31 := by
  rw [vCompare_eq]
  rintro ⟨a, b⟩ _
  exact ⟨(a.since, b.since), ⟨rfl, rfl⟩, trivial, trivial, fun _ _ => ⟨(a.file, b.file), ⟨rfl, rfl⟩, trivial, trivial, fun _ _ => ⟨(a.index, b.index), ⟨rfl, rfl⟩, trivial, trivial, fun _ _ =>
    ⟨[cmpI a.since b.since, cmpI a.file b.file, cmpI a.index b.index], ⟨rfl, fun _ => ⟨rfl, rfl⟩⟩, trivial, by simp, fun _ _ => ⟨(), trivial, rfl, rfl, trivial⟩⟩⟩⟩⟩
theorem sCompare : SpecOk P 31 cCompare.spec := spec_of cCompare (tab_cons sOr (tab_cons sCmp (tab_nil P))) mixed (fn := Try.f31) (by kernel_rfl) (by kernel_rfl) (by kernel_rfl) (Nat.zero_le _) (noIns fun _ => rfl) vCompare
theorem sPage : SpecOk P 33 cPage.spec := spec_of cPage (tab_nil P) mixed (fn := Try.f33) (by kernel_rfl) (by kernel_rfl) (by kernel_rfl) (Nat.zero_le _) (noIns fun _ => rfl) vPage
theorem sAt : SpecOk P 34 cAt.spec := spec_of cAt (tab_nil P) mixed (fn := Try.f34) (by kernel_rfl) (by kernel_rfl) (by kernel_rfl) (Nat.zero_le _) (noIns fun _ => rfl) vAt

end Go.Wb
