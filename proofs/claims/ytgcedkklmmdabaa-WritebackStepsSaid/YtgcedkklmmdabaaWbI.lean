/- A PART OF THE PROOF. NO CONDITION. -/
import Derived.Test.YtgcedkklmmdabaaWbH
import Derived.Test.YtgcedkklmmdabaaSxAD
noncomputable section
set_option linter.unusedVariables false
set_option linter.unusedVariables false
set_option linter.unusedSimpArgs false
namespace Go.Wb
open Go.Proofs Go.SX
set_option maxRecDepth 100000

/-! the two closures, IndexFunc, DeleteFunc -/
def ptrKeys : List SV → List Nat
  | [] => []
  | .ptr k _ :: r => k :: ptrKeys r
  | _ :: r => ptrKeys r
def cloKeys : SV → List Nat
  | .clo _ caps => ptrKeys caps
  | _ => []
def slKeys : SV → List Nat
  | .sl k _ _ _ => [k]
  | _ => []
structure GE where
  l : List DP
  now : Int
  age : Int
structure GEp where
  p : DP
  now : Int
  age : Int
structure GW where
  l : List DP
  run : DR
structure GWp where
  p : DP
  run : DR
def delE (now age : Int) (p : DP) : Bool := decide (now - p.since < age)
def delW (run : DR) (p : DP) : Bool := decide (p.file = run.file) && (decide (p.index ≥ run.index) && decide (p.index < run.index + run.count))
def insE (now age : Int) : List LB := [.cells [I now], .cells [I age]]
def insW (run : DR) : List LB := [.cells (encDR run)]
def cE38 : Con := { γ := GEp, β := Unit, keys := ptrKeys, m := 2, args := fun g => [.agg (encDP g.p), .ptr 0 0, .ptr 1 0], ins := fun g => insE g.now g.age, pre := fun g => inK .i64 (g.now - g.p.since), post := fun _ _ => True, res := fun g _ => Bo (delE g.now g.age g.p), outs := fun g _ => insE g.now g.age, new := fun _ _ => none }
def cW46 : Con := { γ := GWp, β := Unit, keys := ptrKeys, m := 1, args := fun g => [.agg (encDP g.p), .ptr 0 0], ins := fun g => insW g.run, pre := fun g => inK .i64 (g.run.index + g.run.count), post := fun _ _ => True, res := fun g _ => Bo (delW g.run g.p), outs := fun g _ => insW g.run, new := fun _ _ => none }
theorem vE38_eq : (cE38.body (fun g => env [] (noLoops g)) Try.f38) = (∀ (g : GEp), inK IntKind.i64 (GEp.now g - DP.since (GEp.p g)) → inK IntKind.i64 (GEp.now g - DP.since (GEp.p g)) ∧ ∃ (b : Unit), True ∧ SV.val (Value.bool (decide (GEp.now g -
  DP.since (GEp.p g) < GEp.age g))) = SV.val (Value.bool (delE (GEp.now g) (GEp.age g) (GEp.p g))) ∧ (2 : Nat) = (2 : Nat) ∧ (some (LB.cells [SV.val (Value.int IntKind.i64 (GEp.now
  g))]) = some (LB.cells [SV.val (Value.int IntKind.i64 (GEp.now g))]) ∧ allFlat [I (GEp.now g)] = true) ∧ some (LB.cells [SV.val (Value.int IntKind.i64 (GEp.age g))]) = some
  (LB.cells [SV.val (Value.int IntKind.i64 (GEp.age g))]) ∧ allFlat [I (GEp.age g)] = true) := by kernel_rfl
theorem vW46_eq : (cW46.body (fun g => env [] (noLoops g)) Try.f46) = (∀ (g : GWp), inK IntKind.i64 (DR.index (GWp.run g) + DR.count (GWp.run g)) → ((DP.file (GWp.p g) == DR.file (GWp.run g)) = true → (decide (DP.index (GWp.p g) ≥ DR.index (GWp.run
  g)) = true → inK IntKind.i64 (DR.index (GWp.run g) + DR.count (GWp.run g)) ∧ ∃ (b : Unit), True ∧ SV.val (Value.bool (decide (DP.index (GWp.p g) < DR.index (GWp.run g) + DR.count
  (GWp.run g)))) = SV.val (Value.bool (delW (GWp.run g) (GWp.p g))) ∧ (1 : Nat) = (1 : Nat) ∧ some (LB.cells [SV.val (Value.int IntKind.i64 (DR.file (GWp.run g))), SV.val (Value.int
  IntKind.i64 (DR.index (GWp.run g))), SV.val (Value.int IntKind.i64 (DR.count (GWp.run g)))]) = some (LB.cells [SV.val (Value.int IntKind.i64 (DR.file (GWp.run g))), SV.val
  (Value.int IntKind.i64 (DR.index (GWp.run g))), SV.val (Value.int IntKind.i64 (DR.count (GWp.run g)))]) ∧ allFlat (encDR (GWp.run g)) = true) ∧ (decide (DP.index (GWp.p g) ≥
  DR.index (GWp.run g)) = false → ∃ (b : Unit), True ∧ delW (GWp.run g) (GWp.p g) = false ∧ (1 : Nat) = (1 : Nat) ∧ some (LB.cells [SV.val (Value.int IntKind.i64 (DR.file (GWp.run
  g))), SV.val (Value.int IntKind.i64 (DR.index (GWp.run g))), SV.val (Value.int IntKind.i64 (DR.count (GWp.run g)))]) = some (LB.cells [SV.val (Value.int IntKind.i64 (DR.file
  (GWp.run g))), SV.val (Value.int IntKind.i64 (DR.index (GWp.run g))), SV.val (Value.int IntKind.i64 (DR.count (GWp.run g)))]) ∧ allFlat (encDR (GWp.run g)) = true)) ∧ ((DP.file
  (GWp.p g) == DR.file (GWp.run g)) = false → ∃ (b : Unit), True ∧ delW (GWp.run g) (GWp.p g) = false ∧ (1 : Nat) = (1 : Nat) ∧ some (LB.cells [SV.val (Value.int IntKind.i64 (DR.file
  (GWp.run g))), SV.val (Value.int IntKind.i64 (DR.index (GWp.run g))), SV.val (Value.int IntKind.i64 (DR.count (GWp.run g)))]) = some (LB.cells [SV.val (Value.int IntKind.i64
  (DR.file (GWp.run g))), SV.val (Value.int IntKind.i64 (DR.index (GWp.run g))), SV.val (Value.int IntKind.i64 (DR.count (GWp.run g)))]) ∧ allFlat (encDR (GWp.run g)) = true)) := by kernel_rfl

def idxF (f : DP → Bool) : List DP → Nat → Int
  | [], _ => -1
  | q :: r, i => if f q = true then i else idxF f r (i + 1)
def cIdxE : Con := { γ := GE, β := Unit, keys := fun svs => cloKeys (getSlot svs 1), m := 2, args := fun g => [roP g.l, .clo 38 [.ptr 0 0, .ptr 1 0]], ins := fun g => insE g.now g.age, pre := fun g => g.l.length ≤ 1000000000 ∧ ∀ p ∈ g.l, inK .i64 (g.now - p.since), post := fun _ _ => True, res := fun g _ => I (idxF (delE g.now g.age) g.l 0), outs := fun g _ => insE g.now g.age, new := fun _ _ => none }
def lIdxE (g : GE) : Loops := loop1 0 { γ := Nat, slots := [8], vals := fun _ i => [I i], inv := fun i => i ≤ g.l.length ∧ idxF (delE g.now g.age) (g.l.drop i) i = idxF (delE g.now g.age) g.l 0, μ := fun i => g.l.length - i }
def cIdxW : Con := { γ := GW, β := Unit, keys := fun svs => cloKeys (getSlot svs 1), m := 1, args := fun g => [roP g.l, .clo 46 [.ptr 0 0]], ins := fun g => insW g.run, pre := fun g => g.l.length ≤ 1000000000 ∧ inK .i64 (g.run.index + g.run.count), post := fun _ _ => True, res := fun g _ => I (idxF (delW g.run) g.l 0), outs := fun g _ => insW g.run, new := fun _ _ => none }
def lIdxW (g : GW) : Loops := loop1 0 { γ := Nat, slots := [8], vals := fun _ i => [I i], inv := fun i => i ≤ g.l.length ∧ idxF (delW g.run) (g.l.drop i) i = idxF (delW g.run) g.l 0, μ := fun i => g.l.length - i }
theorem vE38 : cE38.body (fun g => env [] (noLoops g)) Try.f38 := by
  rw [vE38_eq]
  rintro ⟨p, now, age⟩ h
  exact ⟨h, (), trivial, rfl, rfl, ⟨rfl, rfl⟩, rfl, rfl⟩
theorem vW46 : cW46.body (fun g => env [] (noLoops g)) Try.f46 := by
  rw [vW46_eq]
  rintro ⟨p, r⟩ h
  dsimp only at h ⊢
  refine ⟨fun h1 => ⟨fun h2 => ⟨h, (), trivial, ?_, rfl, rfl, rfl⟩, fun h2 => ⟨(), trivial, ?_, rfl, rfl, rfl⟩⟩, fun h1 => ⟨(), trivial, ?_, rfl, rfl, rfl⟩⟩
  · have h1 : p.file = r.file := by simpa using h1
    unfold delW; rw [h2, decide_eq_true h1]; rfl
  · unfold delW; rw [h2, Bool.false_and, Bool.and_false]
  · have h1 : ¬ p.file = r.file := by simpa using h1
    unfold delW; rw [decide_eq_false h1]; rfl
theorem sE38 : SpecOk P 38 cE38.spec := spec_of cE38 (tab_nil P) mixed (fn := Try.f38) (by kernel_rfl) (by kernel_rfl) (by kernel_rfl) (by decide) (fun g lb _ hm => by rcases List.mem_cons.1 hm with rfl | hm; exact rfl; rcases List.mem_cons.1 hm with rfl | hm; exact rfl; cases hm) vE38
theorem sW46 : SpecOk P 46 cW46.spec := spec_of cW46 (tab_nil P) mixed (fn := Try.f46) (by kernel_rfl) (by kernel_rfl) (by kernel_rfl) (by decide) (fun g lb _ hm => by rcases List.mem_cons.1 hm with rfl | hm; exact rfl; cases hm) vW46
theorem drop_getD {l : List DP} {i : Nat} (hi : i < l.length) : l.drop i = l.getD i dDP :: l.drop (i + 1) := by
  rw [List.drop_eq_getElem_cons hi, List.getD_eq_getElem?_getD, List.getElem?_eq_getElem hi]; rfl
theorem vIdxE_eq : (cIdxE.body (fun g => env [(38, cE38)] (lIdxE g)) Try.f49) = (∀ (g : GE), (List.length (GE.l g) ≤ (1000000000 : Nat) ∧ ∀ (p : DP), p ∈ GE.l g → inK IntKind.i64 (GE.now g - DP.since p)) → (∃ (g_1 : Nat), (g_1 ≤ List.length (GE.l g) ∧ idxF
  (delE (GE.now g) (GE.age g)) (List.drop g_1 (GE.l g)) g_1 = idxF (delE (GE.now g) (GE.age g)) (GE.l g) (0 : Nat)) ∧ (0 : Int) = (↑g_1 : Int) ∧ True ∧ LB.cells [SV.val (Value.int
  IntKind.i64 (GE.now g))] = LB.cells [SV.val (Value.int IntKind.i64 (GE.now g))] ∧ LB.cells [SV.val (Value.int IntKind.i64 (GE.age g))] = LB.cells [SV.val (Value.int IntKind.i64
  (GE.age g))] ∧ True) ∧ ∀ (g_1 : Nat), g_1 ≤ List.length (GE.l g) ∧ idxF (delE (GE.now g) (GE.age g)) (List.drop g_1 (GE.l g)) g_1 = idxF (delE (GE.now g) (GE.age g)) (GE.l g) (0 :
  Nat) → (decide ((↑g_1 : Int) < (↑(List.length (GE.l g)) : Int)) = true → ((0 : Int) ≤ (↑g_1 : Int) ∧ (↑g_1 : Int) < (↑(List.length (GE.l g)) : Int)) ∧ Int.toNat (↑g_1 : Int) <
  List.length (GE.l g) ∧ ∃ (g_2 : GEp), ((SV.val (Value.int IntKind.i64 (DP.file (List.getD (GE.l g) (Int.toNat (↑g_1 : Int)) dDP))) = SV.val (Value.int IntKind.i64 (DP.file (GEp.p
  g_2))) ∧ SV.val (Value.int IntKind.i64 (DP.index (List.getD (GE.l g) (Int.toNat (↑g_1 : Int)) dDP))) = SV.val (Value.int IntKind.i64 (DP.index (GEp.p g_2))) ∧ SV.val (Value.int
  IntKind.i64 (DP.since (List.getD (GE.l g) (Int.toNat (↑g_1 : Int)) dDP))) = SV.val (Value.int IntKind.i64 (DP.since (GEp.p g_2))) ∧ True) ∧ (0 : Nat) = (0 : Nat) ∧ (0 : Nat) = (0 :
  Nat)) ∧ (some (LB.cells [SV.val (Value.int IntKind.i64 (GE.now g))]) = some (LB.cells [SV.val (Value.int IntKind.i64 (GEp.now g_2))]) ∧ some (LB.cells [SV.val (Value.int
  IntKind.i64 (GE.age g))]) = some (LB.cells [SV.val (Value.int IntKind.i64 (GEp.age g_2))])) ∧ inK IntKind.i64 (GEp.now g_2 - DP.since (GEp.p g_2)) ∧ ∀ (b : Unit), True → (delE
  (GEp.now g_2) (GEp.age g_2) (GEp.p g_2) = true → ∃ (b : Unit), True ∧ SV.val (Value.int IntKind.i64 (↑g_1 : Int)) = SV.val (Value.int IntKind.i64 (idxF (delE (GE.now g) (GE.age g))
  (GE.l g) (0 : Nat))) ∧ (2 : Nat) = (2 : Nat) ∧ (some (LB.cells [SV.val (Value.int IntKind.i64 (GEp.now g_2))]) = some (LB.cells [SV.val (Value.int IntKind.i64 (GE.now g))]) ∧
  allFlat [I (GE.now g)] = true) ∧ some (LB.cells [SV.val (Value.int IntKind.i64 (GEp.age g_2))]) = some (LB.cells [SV.val (Value.int IntKind.i64 (GE.age g))]) ∧ allFlat [I (GE.age
  g)] = true) ∧ (delE (GEp.now g_2) (GEp.age g_2) (GEp.p g_2) = false → inK IntKind.i64 ((↑g_1 : Int) + (1 : Int)) ∧ ∃ (g' : Nat), (g' ≤ List.length (GE.l g) ∧ idxF (delE (GE.now g)
  (GE.age g)) (List.drop g' (GE.l g)) g' = idxF (delE (GE.now g) (GE.age g)) (GE.l g) (0 : Nat)) ∧ List.length (GE.l g) - g' < List.length (GE.l g) - g_1 ∧ (↑g_1 : Int) + (1 : Int) =
  (↑g' : Int) ∧ True ∧ LB.cells [SV.val (Value.int IntKind.i64 (GEp.now g_2))] = LB.cells [SV.val (Value.int IntKind.i64 (GE.now g))] ∧ LB.cells [SV.val (Value.int IntKind.i64
  (GEp.age g_2))] = LB.cells [SV.val (Value.int IntKind.i64 (GE.age g))] ∧ True)) ∧ (decide ((↑g_1 : Int) < (↑(List.length (GE.l g)) : Int)) = false → ∃ (b : Unit), True ∧ SV.val
  (Value.int IntKind.i64 (-1 : Int)) = SV.val (Value.int IntKind.i64 (idxF (delE (GE.now g) (GE.age g)) (GE.l g) (0 : Nat))) ∧ (2 : Nat) = (2 : Nat) ∧ (some (LB.cells [SV.val
  (Value.int IntKind.i64 (GE.now g))]) = some (LB.cells [SV.val (Value.int IntKind.i64 (GE.now g))]) ∧ allFlat [I (GE.now g)] = true) ∧ some (LB.cells [SV.val (Value.int IntKind.i64
  (GE.age g))]) = some (LB.cells [SV.val (Value.int IntKind.i64 (GE.age g))]) ∧ allFlat [I (GE.age g)] = true)) := by kernel_rfl
theorem vIdxW_eq : (cIdxW.body (fun g => env [(46, cW46)] (lIdxW g)) Try.f49) = (∀ (g : GW), List.length (GW.l g) ≤ (1000000000 : Nat) ∧ inK IntKind.i64 (DR.index (GW.run g) + DR.count (GW.run g)) → (∃ (g_1 : Nat), (g_1 ≤ List.length (GW.l g) ∧ idxF (delW
  (GW.run g)) (List.drop g_1 (GW.l g)) g_1 = idxF (delW (GW.run g)) (GW.l g) (0 : Nat)) ∧ (0 : Int) = (↑g_1 : Int) ∧ True ∧ LB.cells [SV.val (Value.int IntKind.i64 (DR.file (GW.run
  g))), SV.val (Value.int IntKind.i64 (DR.index (GW.run g))), SV.val (Value.int IntKind.i64 (DR.count (GW.run g)))] = LB.cells [SV.val (Value.int IntKind.i64 (DR.file (GW.run g))),
  SV.val (Value.int IntKind.i64 (DR.index (GW.run g))), SV.val (Value.int IntKind.i64 (DR.count (GW.run g)))] ∧ True) ∧ ∀ (g_1 : Nat), g_1 ≤ List.length (GW.l g) ∧ idxF (delW (GW.run
  g)) (List.drop g_1 (GW.l g)) g_1 = idxF (delW (GW.run g)) (GW.l g) (0 : Nat) → (decide ((↑g_1 : Int) < (↑(List.length (GW.l g)) : Int)) = true → ((0 : Int) ≤ (↑g_1 : Int) ∧ (↑g_1 :
  Int) < (↑(List.length (GW.l g)) : Int)) ∧ Int.toNat (↑g_1 : Int) < List.length (GW.l g) ∧ ∃ (g_2 : GWp), ((SV.val (Value.int IntKind.i64 (DP.file (List.getD (GW.l g) (Int.toNat
  (↑g_1 : Int)) dDP))) = SV.val (Value.int IntKind.i64 (DP.file (GWp.p g_2))) ∧ SV.val (Value.int IntKind.i64 (DP.index (List.getD (GW.l g) (Int.toNat (↑g_1 : Int)) dDP))) = SV.val
  (Value.int IntKind.i64 (DP.index (GWp.p g_2))) ∧ SV.val (Value.int IntKind.i64 (DP.since (List.getD (GW.l g) (Int.toNat (↑g_1 : Int)) dDP))) = SV.val (Value.int IntKind.i64
  (DP.since (GWp.p g_2))) ∧ True) ∧ (0 : Nat) = (0 : Nat)) ∧ some (LB.cells [SV.val (Value.int IntKind.i64 (DR.file (GW.run g))), SV.val (Value.int IntKind.i64 (DR.index (GW.run
  g))), SV.val (Value.int IntKind.i64 (DR.count (GW.run g)))]) = some (LB.cells [SV.val (Value.int IntKind.i64 (DR.file (GWp.run g_2))), SV.val (Value.int IntKind.i64 (DR.index
  (GWp.run g_2))), SV.val (Value.int IntKind.i64 (DR.count (GWp.run g_2)))]) ∧ inK IntKind.i64 (DR.index (GWp.run g_2) + DR.count (GWp.run g_2)) ∧ ∀ (b : Unit), True → (delW (GWp.run
  g_2) (GWp.p g_2) = true → ∃ (b : Unit), True ∧ SV.val (Value.int IntKind.i64 (↑g_1 : Int)) = SV.val (Value.int IntKind.i64 (idxF (delW (GW.run g)) (GW.l g) (0 : Nat))) ∧ (1 : Nat)
  = (1 : Nat) ∧ some (LB.cells [SV.val (Value.int IntKind.i64 (DR.file (GWp.run g_2))), SV.val (Value.int IntKind.i64 (DR.index (GWp.run g_2))), SV.val (Value.int IntKind.i64
  (DR.count (GWp.run g_2)))]) = some (LB.cells [SV.val (Value.int IntKind.i64 (DR.file (GW.run g))), SV.val (Value.int IntKind.i64 (DR.index (GW.run g))), SV.val (Value.int
  IntKind.i64 (DR.count (GW.run g)))]) ∧ allFlat (encDR (GW.run g)) = true) ∧ (delW (GWp.run g_2) (GWp.p g_2) = false → inK IntKind.i64 ((↑g_1 : Int) + (1 : Int)) ∧ ∃ (g' : Nat), (g'
  ≤ List.length (GW.l g) ∧ idxF (delW (GW.run g)) (List.drop g' (GW.l g)) g' = idxF (delW (GW.run g)) (GW.l g) (0 : Nat)) ∧ List.length (GW.l g) - g' < List.length (GW.l g) - g_1 ∧
  (↑g_1 : Int) + (1 : Int) = (↑g' : Int) ∧ True ∧ LB.cells [SV.val (Value.int IntKind.i64 (DR.file (GWp.run g_2))), SV.val (Value.int IntKind.i64 (DR.index (GWp.run g_2))), SV.val
  (Value.int IntKind.i64 (DR.count (GWp.run g_2)))] = LB.cells [SV.val (Value.int IntKind.i64 (DR.file (GW.run g))), SV.val (Value.int IntKind.i64 (DR.index (GW.run g))), SV.val
  (Value.int IntKind.i64 (DR.count (GW.run g)))] ∧ True)) ∧ (decide ((↑g_1 : Int) < (↑(List.length (GW.l g)) : Int)) = false → ∃ (b : Unit), True ∧ SV.val (Value.int IntKind.i64 (-1
  : Int)) = SV.val (Value.int IntKind.i64 (idxF (delW (GW.run g)) (GW.l g) (0 : Nat))) ∧ (1 : Nat) = (1 : Nat) ∧ some (LB.cells [SV.val (Value.int IntKind.i64 (DR.file (GW.run g))),
  SV.val (Value.int IntKind.i64 (DR.index (GW.run g))), SV.val (Value.int IntKind.i64 (DR.count (GW.run g)))]) = some (LB.cells [SV.val (Value.int IntKind.i64 (DR.file (GW.run g))),
  SV.val (Value.int IntKind.i64 (DR.index (GW.run g))), SV.val (Value.int IntKind.i64 (DR.count (GW.run g)))]) ∧ allFlat (encDR (GW.run g)) = true)) := by kernel_rfl

def keep (f : DP → Bool) (l : List DP) : List DP := l.filter fun p => !f p
structure JDel where
  i : Nat
  j : Nat
  ys : List DP
def invDel (f : DP → Bool) (l : List DP) (q : JDel) : Prop := q.i < q.j ∧ q.j ≤ l.length ∧ q.ys.length = l.length ∧ q.ys.take q.i = keep f (l.take q.j) ∧ q.ys.drop q.j = l.drop q.j
def lDel (f : DP → Bool) (l : List DP) : Loops := loop1 0 { γ := JDel, slots := [5, 6], vals := fun _ q => [I q.i, I q.j], blks := fun _ q => [(0, .arr DP dDP encDP q.ys)], inv := invDel f l, μ := fun q => l.length - q.j }
def cDelE : Con := { γ := GE, β := List DP, keys := fun svs => slKeys (getSlot svs 0) ++ cloKeys (getSlot svs 1), m := 3, args := fun g => [.sl 0 3 0 g.l.length, .clo 38 [.ptr 1 0, .ptr 2 0]], ins := fun g => .arr DP dDP encDP g.l :: insE g.now g.age, pre := fun g => g.l.length ≤ 1000000000 ∧ ∀ p ∈ g.l, inK .i64 (g.now - p.since), post := fun g ys => ys.length = g.l.length ∧ ys.take (keep (delE g.now g.age) g.l).length = keep (delE g.now g.age) g.l, res := fun g _ => .sl 0 3 0 (keep (delE g.now g.age) g.l).length, outs := fun g ys => .arr DP dDP encDP ys :: insE g.now g.age, new := fun _ _ => none }
def cDelW : Con := { γ := GW, β := List DP, keys := fun svs => slKeys (getSlot svs 0) ++ cloKeys (getSlot svs 1), m := 2, args := fun g => [.sl 0 3 0 g.l.length, .clo 46 [.ptr 1 0]], ins := fun g => .arr DP dDP encDP g.l :: insW g.run, pre := fun g => g.l.length ≤ 1000000000 ∧ inK .i64 (g.run.index + g.run.count), post := fun g ys => ys.length = g.l.length ∧ ys.take (keep (delW g.run) g.l).length = keep (delW g.run) g.l, res := fun g _ => .sl 0 3 0 (keep (delW g.run) g.l).length, outs := fun g ys => .arr DP dDP encDP ys :: insW g.run, new := fun _ _ => none }
theorem vDelE_eq : (cDelE.body (fun g => env [(38, cE38), (49, cIdxE)] (lDel (delE g.now g.age) g.l)) Try.f37) = (∀ (g : GE), (List.length (GE.l g) ≤ (1000000000 : Nat) ∧ ∀ (p : DP), p ∈ GE.l g → inK IntKind.i64 (GE.now g - DP.since p)) → ∃ (g_1 : GE), (((0 : Nat) + List.length (GE.l g) ≤
  List.length (GE.l g) ∧ SV.ro DP dDP encDP (List.take (List.length (GE.l g)) (List.drop (0 : Nat) (GE.l g))) = SV.ro DP dDP encDP (GE.l g_1)) ∧ (38 : Nat) = (38 : Nat) ∧ (0 : Nat) =
  (0 : Nat) ∧ (0 : Nat) = (0 : Nat) ∧ True) ∧ (some (LB.cells [SV.val (Value.int IntKind.i64 (GE.now g))]) = some (LB.cells [SV.val (Value.int IntKind.i64 (GE.now g_1))]) ∧ some
  (LB.cells [SV.val (Value.int IntKind.i64 (GE.age g))]) = some (LB.cells [SV.val (Value.int IntKind.i64 (GE.age g_1))])) ∧ (List.length (GE.l g_1) ≤ (1000000000 : Nat) ∧ ∀ (p : DP),
  p ∈ GE.l g_1 → inK IntKind.i64 (GE.now g_1 - DP.since p)) ∧ ∀ (b : Unit), True → ((idxF (delE (GE.now g_1) (GE.age g_1)) (GE.l g_1) (0 : Nat) == (-1 : Int)) = true → ∃ (b : List
  DP), (List.length b = List.length (GE.l g) ∧ List.take (List.length (keep (delE (GE.now g) (GE.age g)) (GE.l g))) b = keep (delE (GE.now g) (GE.age g)) (GE.l g)) ∧ ((3 : Nat) = (3
  : Nat) ∧ (0 : Nat) = (0 : Nat) ∧ List.length (GE.l g) = List.length (keep (delE (GE.now g) (GE.age g)) (GE.l g))) ∧ (3 : Nat) = (3 : Nat) ∧ (some (LB.arr DP dDP encDP (GE.l g)) =
  some (LB.arr DP dDP encDP b) ∧ ∀ (x : DP), allFlat (encDP x) = true) ∧ (some (LB.cells [SV.val (Value.int IntKind.i64 (GE.now g_1))]) = some (LB.cells [SV.val (Value.int
  IntKind.i64 (GE.now g))]) ∧ allFlat [I (GE.now g)] = true) ∧ some (LB.cells [SV.val (Value.int IntKind.i64 (GE.age g_1))]) = some (LB.cells [SV.val (Value.int IntKind.i64 (GE.age
  g))]) ∧ allFlat [I (GE.age g)] = true) ∧ ((idxF (delE (GE.now g_1) (GE.age g_1)) (GE.l g_1) (0 : Nat) == (-1 : Int)) = false → inK IntKind.i64 (idxF (delE (GE.now g_1) (GE.age
  g_1)) (GE.l g_1) (0 : Nat) + (1 : Int)) ∧ (∃ (g_2 : JDel), (JDel.i g_2 < JDel.j g_2 ∧ JDel.j g_2 ≤ List.length (GE.l g) ∧ List.length (JDel.ys g_2) = List.length (GE.l g) ∧
  List.take (JDel.i g_2) (JDel.ys g_2) = keep (delE (GE.now g) (GE.age g)) (List.take (JDel.j g_2) (GE.l g)) ∧ List.drop (JDel.j g_2) (JDel.ys g_2) = List.drop (JDel.j g_2) (GE.l g))
  ∧ (idxF (delE (GE.now g_1) (GE.age g_1)) (GE.l g_1) (0 : Nat) = (↑(JDel.i g_2) : Int) ∧ idxF (delE (GE.now g_1) (GE.age g_1)) (GE.l g_1) (0 : Nat) + (1 : Int) = (↑(JDel.j g_2) :
  Int)) ∧ (LB.arr DP dDP encDP (GE.l g) = LB.arr DP dDP encDP (JDel.ys g_2) ∧ True) ∧ LB.cells [SV.val (Value.int IntKind.i64 (GE.now g_1))] = LB.cells [SV.val (Value.int IntKind.i64
  (GE.now g_1))] ∧ LB.cells [SV.val (Value.int IntKind.i64 (GE.age g_1))] = LB.cells [SV.val (Value.int IntKind.i64 (GE.age g_1))] ∧ True) ∧ ∀ (g_2 : JDel), JDel.i g_2 < JDel.j g_2 ∧
  JDel.j g_2 ≤ List.length (GE.l g) ∧ List.length (JDel.ys g_2) = List.length (GE.l g) ∧ List.take (JDel.i g_2) (JDel.ys g_2) = keep (delE (GE.now g) (GE.age g)) (List.take (JDel.j
  g_2) (GE.l g)) ∧ List.drop (JDel.j g_2) (JDel.ys g_2) = List.drop (JDel.j g_2) (GE.l g) → (decide ((↑(JDel.j g_2) : Int) < (↑(List.length (GE.l g)) : Int)) = true → ((0 : Int) ≤
  (↑(JDel.j g_2) : Int) ∧ (↑(JDel.j g_2) : Int) < (↑(List.length (GE.l g)) : Int)) ∧ (0 : Nat) + Int.toNat (↑(JDel.j g_2) : Int) < List.length (JDel.ys g_2) ∧ ∃ (g_3 : GEp), ((SV.val
  (Value.int IntKind.i64 (DP.file (List.getD (JDel.ys g_2) ((0 : Nat) + Int.toNat (↑(JDel.j g_2) : Int)) dDP))) = SV.val (Value.int IntKind.i64 (DP.file (GEp.p g_3))) ∧ SV.val
  (Value.int IntKind.i64 (DP.index (List.getD (JDel.ys g_2) ((0 : Nat) + Int.toNat (↑(JDel.j g_2) : Int)) dDP))) = SV.val (Value.int IntKind.i64 (DP.index (GEp.p g_3))) ∧ SV.val
  (Value.int IntKind.i64 (DP.since (List.getD (JDel.ys g_2) ((0 : Nat) + Int.toNat (↑(JDel.j g_2) : Int)) dDP))) = SV.val (Value.int IntKind.i64 (DP.since (GEp.p g_3))) ∧ True) ∧ (0
  : Nat) = (0 : Nat) ∧ (0 : Nat) = (0 : Nat)) ∧ (some (LB.cells [SV.val (Value.int IntKind.i64 (GE.now g_1))]) = some (LB.cells [SV.val (Value.int IntKind.i64 (GEp.now g_3))]) ∧ some
  (LB.cells [SV.val (Value.int IntKind.i64 (GE.age g_1))]) = some (LB.cells [SV.val (Value.int IntKind.i64 (GEp.age g_3))])) ∧ inK IntKind.i64 (GEp.now g_3 - DP.since (GEp.p g_3)) ∧
  ∀ (b : Unit), True → ((!delE (GEp.now g_3) (GEp.age g_3) (GEp.p g_3)) = true → ((0 : Int) ≤ (↑(JDel.i g_2) : Int) ∧ (↑(JDel.i g_2) : Int) < (↑(List.length (GE.l g)) : Int)) ∧ (0 :
  Nat) + Int.toNat (↑(JDel.i g_2) : Int) < List.length (JDel.ys g_2) ∧ ∃ (x : DP), [SV.val (Value.int IntKind.i64 (DP.file x)), SV.val (Value.int IntKind.i64 (DP.index x)), SV.val
  (Value.int IntKind.i64 (DP.since x))] = [SV.val (Value.int IntKind.i64 (DP.file (List.getD (JDel.ys g_2) ((0 : Nat) + Int.toNat (↑(JDel.j g_2) : Int)) dDP))), SV.val (Value.int
  IntKind.i64 (DP.index (List.getD (JDel.ys g_2) ((0 : Nat) + Int.toNat (↑(JDel.j g_2) : Int)) dDP))), SV.val (Value.int IntKind.i64 (DP.since (List.getD (JDel.ys g_2) ((0 : Nat) +
  Int.toNat (↑(JDel.j g_2) : Int)) dDP)))] ∧ inK IntKind.i64 ((↑(JDel.i g_2) : Int) + (1 : Int)) ∧ inK IntKind.i64 ((↑(JDel.j g_2) : Int) + (1 : Int)) ∧ ∃ (g' : JDel), (JDel.i g' <
  JDel.j g' ∧ JDel.j g' ≤ List.length (GE.l g) ∧ List.length (JDel.ys g') = List.length (GE.l g) ∧ List.take (JDel.i g') (JDel.ys g') = keep (delE (GE.now g) (GE.age g)) (List.take
  (JDel.j g') (GE.l g)) ∧ List.drop (JDel.j g') (JDel.ys g') = List.drop (JDel.j g') (GE.l g)) ∧ List.length (GE.l g) - JDel.j g' < List.length (GE.l g) - JDel.j g_2 ∧ ((↑(JDel.i
  g_2) : Int) + (1 : Int) = (↑(JDel.i g') : Int) ∧ (↑(JDel.j g_2) : Int) + (1 : Int) = (↑(JDel.j g') : Int)) ∧ (LB.arr DP dDP encDP (List.set (JDel.ys g_2) ((0 : Nat) + Int.toNat
  (↑(JDel.i g_2) : Int)) x) = LB.arr DP dDP encDP (JDel.ys g') ∧ True) ∧ LB.cells [SV.val (Value.int IntKind.i64 (GEp.now g_3))] = LB.cells [SV.val (Value.int IntKind.i64 (GE.now
  g_1))] ∧ LB.cells [SV.val (Value.int IntKind.i64 (GEp.age g_3))] = LB.cells [SV.val (Value.int IntKind.i64 (GE.age g_1))] ∧ True) ∧ ((!delE (GEp.now g_3) (GEp.age g_3) (GEp.p g_3))
  = false → inK IntKind.i64 ((↑(JDel.j g_2) : Int) + (1 : Int)) ∧ ∃ (g' : JDel), (JDel.i g' < JDel.j g' ∧ JDel.j g' ≤ List.length (GE.l g) ∧ List.length (JDel.ys g') = List.length
  (GE.l g) ∧ List.take (JDel.i g') (JDel.ys g') = keep (delE (GE.now g) (GE.age g)) (List.take (JDel.j g') (GE.l g)) ∧ List.drop (JDel.j g') (JDel.ys g') = List.drop (JDel.j g')
  (GE.l g)) ∧ List.length (GE.l g) - JDel.j g' < List.length (GE.l g) - JDel.j g_2 ∧ ((↑(JDel.i g_2) : Int) = (↑(JDel.i g') : Int) ∧ (↑(JDel.j g_2) : Int) + (1 : Int) = (↑(JDel.j g')
  : Int)) ∧ (LB.arr DP dDP encDP (JDel.ys g_2) = LB.arr DP dDP encDP (JDel.ys g') ∧ True) ∧ LB.cells [SV.val (Value.int IntKind.i64 (GEp.now g_3))] = LB.cells [SV.val (Value.int
  IntKind.i64 (GE.now g_1))] ∧ LB.cells [SV.val (Value.int IntKind.i64 (GEp.age g_3))] = LB.cells [SV.val (Value.int IntKind.i64 (GE.age g_1))] ∧ True)) ∧ (decide ((↑(JDel.j g_2) :
  Int) < (↑(List.length (GE.l g)) : Int)) = false → ((0 : Int) ≤ (↑(JDel.i g_2) : Int) ∧ (↑(JDel.i g_2) : Int) ≤ (↑(List.length (GE.l g)) : Int)) ∧ (0 : Nat) + Int.toNat (↑(JDel.i
  g_2) : Int) + (List.length (GE.l g) - Int.toNat (↑(JDel.i g_2) : Int)) ≤ List.length (JDel.ys g_2) ∧ ∃ (z : DP), [SV.val (Value.int IntKind.i64 (DP.file z)), SV.val (Value.int
  IntKind.i64 (DP.index z)), SV.val (Value.int IntKind.i64 (DP.since z))] = [SV.val (Value.int IntKind.i64 (0 : Int)), SV.val (Value.int IntKind.i64 (0 : Int)), SV.val (Value.int
  IntKind.i64 (0 : Int))] ∧ ((0 : Int) ≤ (↑(JDel.i g_2) : Int) ∧ (↑(JDel.i g_2) : Int) ≤ (↑(List.length (GE.l g)) : Int)) ∧ ∃ (b : List DP), (List.length b = List.length (GE.l g) ∧
  List.take (List.length (keep (delE (GE.now g) (GE.age g)) (GE.l g))) b = keep (delE (GE.now g) (GE.age g)) (GE.l g)) ∧ ((3 : Nat) = (3 : Nat) ∧ (0 : Nat) = (0 : Nat) ∧ Int.toNat
  (↑(JDel.i g_2) : Int) - (0 : Nat) = List.length (keep (delE (GE.now g) (GE.age g)) (GE.l g))) ∧ (3 : Nat) = (3 : Nat) ∧ (some (LB.arr DP dDP encDP (List.take ((0 : Nat) + Int.toNat
  (↑(JDel.i g_2) : Int)) (JDel.ys g_2) ++ List.replicate (List.length (GE.l g) - Int.toNat (↑(JDel.i g_2) : Int)) z ++ List.drop ((0 : Nat) + Int.toNat (↑(JDel.i g_2) : Int) +
  (List.length (GE.l g) - Int.toNat (↑(JDel.i g_2) : Int))) (JDel.ys g_2))) = some (LB.arr DP dDP encDP b) ∧ ∀ (x : DP), allFlat (encDP x) = true) ∧ (some (LB.cells [SV.val
  (Value.int IntKind.i64 (GE.now g_1))]) = some (LB.cells [SV.val (Value.int IntKind.i64 (GE.now g))]) ∧ allFlat [I (GE.now g)] = true) ∧ some (LB.cells [SV.val (Value.int
  IntKind.i64 (GE.age g_1))]) = some (LB.cells [SV.val (Value.int IntKind.i64 (GE.age g))]) ∧ allFlat [I (GE.age g)] = true))) := by kernel_rfl
theorem vDelW_eq : (cDelW.body (fun g => env [(46, cW46), (49, cIdxW)] (lDel (delW g.run) g.l)) Try.f37) = (∀ (g : GW), List.length (GW.l g) ≤ (1000000000 : Nat) ∧ inK IntKind.i64 (DR.index (GW.run g) + DR.count (GW.run g)) → ∃ (g_1 : GW), (((0 : Nat) + List.length (GW.l g) ≤ List.length
  (GW.l g) ∧ SV.ro DP dDP encDP (List.take (List.length (GW.l g)) (List.drop (0 : Nat) (GW.l g))) = SV.ro DP dDP encDP (GW.l g_1)) ∧ (46 : Nat) = (46 : Nat) ∧ (0 : Nat) = (0 : Nat) ∧
  True) ∧ some (LB.cells [SV.val (Value.int IntKind.i64 (DR.file (GW.run g))), SV.val (Value.int IntKind.i64 (DR.index (GW.run g))), SV.val (Value.int IntKind.i64 (DR.count (GW.run
  g)))]) = some (LB.cells [SV.val (Value.int IntKind.i64 (DR.file (GW.run g_1))), SV.val (Value.int IntKind.i64 (DR.index (GW.run g_1))), SV.val (Value.int IntKind.i64 (DR.count
  (GW.run g_1)))]) ∧ (List.length (GW.l g_1) ≤ (1000000000 : Nat) ∧ inK IntKind.i64 (DR.index (GW.run g_1) + DR.count (GW.run g_1))) ∧ ∀ (b : Unit), True → ((idxF (delW (GW.run g_1))
  (GW.l g_1) (0 : Nat) == (-1 : Int)) = true → ∃ (b : List DP), (List.length b = List.length (GW.l g) ∧ List.take (List.length (keep (delW (GW.run g)) (GW.l g))) b = keep (delW
  (GW.run g)) (GW.l g)) ∧ ((3 : Nat) = (3 : Nat) ∧ (0 : Nat) = (0 : Nat) ∧ List.length (GW.l g) = List.length (keep (delW (GW.run g)) (GW.l g))) ∧ (2 : Nat) = (2 : Nat) ∧ (some
  (LB.arr DP dDP encDP (GW.l g)) = some (LB.arr DP dDP encDP b) ∧ ∀ (x : DP), allFlat (encDP x) = true) ∧ some (LB.cells [SV.val (Value.int IntKind.i64 (DR.file (GW.run g_1))),
  SV.val (Value.int IntKind.i64 (DR.index (GW.run g_1))), SV.val (Value.int IntKind.i64 (DR.count (GW.run g_1)))]) = some (LB.cells [SV.val (Value.int IntKind.i64 (DR.file (GW.run
  g))), SV.val (Value.int IntKind.i64 (DR.index (GW.run g))), SV.val (Value.int IntKind.i64 (DR.count (GW.run g)))]) ∧ allFlat (encDR (GW.run g)) = true) ∧ ((idxF (delW (GW.run g_1))
  (GW.l g_1) (0 : Nat) == (-1 : Int)) = false → inK IntKind.i64 (idxF (delW (GW.run g_1)) (GW.l g_1) (0 : Nat) + (1 : Int)) ∧ (∃ (g_2 : JDel), (JDel.i g_2 < JDel.j g_2 ∧ JDel.j g_2 ≤
  List.length (GW.l g) ∧ List.length (JDel.ys g_2) = List.length (GW.l g) ∧ List.take (JDel.i g_2) (JDel.ys g_2) = keep (delW (GW.run g)) (List.take (JDel.j g_2) (GW.l g)) ∧
  List.drop (JDel.j g_2) (JDel.ys g_2) = List.drop (JDel.j g_2) (GW.l g)) ∧ (idxF (delW (GW.run g_1)) (GW.l g_1) (0 : Nat) = (↑(JDel.i g_2) : Int) ∧ idxF (delW (GW.run g_1)) (GW.l
  g_1) (0 : Nat) + (1 : Int) = (↑(JDel.j g_2) : Int)) ∧ (LB.arr DP dDP encDP (GW.l g) = LB.arr DP dDP encDP (JDel.ys g_2) ∧ True) ∧ LB.cells [SV.val (Value.int IntKind.i64 (DR.file
  (GW.run g_1))), SV.val (Value.int IntKind.i64 (DR.index (GW.run g_1))), SV.val (Value.int IntKind.i64 (DR.count (GW.run g_1)))] = LB.cells [SV.val (Value.int IntKind.i64 (DR.file
  (GW.run g_1))), SV.val (Value.int IntKind.i64 (DR.index (GW.run g_1))), SV.val (Value.int IntKind.i64 (DR.count (GW.run g_1)))] ∧ True) ∧ ∀ (g_2 : JDel), JDel.i g_2 < JDel.j g_2 ∧
  JDel.j g_2 ≤ List.length (GW.l g) ∧ List.length (JDel.ys g_2) = List.length (GW.l g) ∧ List.take (JDel.i g_2) (JDel.ys g_2) = keep (delW (GW.run g)) (List.take (JDel.j g_2) (GW.l
  g)) ∧ List.drop (JDel.j g_2) (JDel.ys g_2) = List.drop (JDel.j g_2) (GW.l g) → (decide ((↑(JDel.j g_2) : Int) < (↑(List.length (GW.l g)) : Int)) = true → ((0 : Int) ≤ (↑(JDel.j
  g_2) : Int) ∧ (↑(JDel.j g_2) : Int) < (↑(List.length (GW.l g)) : Int)) ∧ (0 : Nat) + Int.toNat (↑(JDel.j g_2) : Int) < List.length (JDel.ys g_2) ∧ ∃ (g_3 : GWp), ((SV.val
  (Value.int IntKind.i64 (DP.file (List.getD (JDel.ys g_2) ((0 : Nat) + Int.toNat (↑(JDel.j g_2) : Int)) dDP))) = SV.val (Value.int IntKind.i64 (DP.file (GWp.p g_3))) ∧ SV.val
  (Value.int IntKind.i64 (DP.index (List.getD (JDel.ys g_2) ((0 : Nat) + Int.toNat (↑(JDel.j g_2) : Int)) dDP))) = SV.val (Value.int IntKind.i64 (DP.index (GWp.p g_3))) ∧ SV.val
  (Value.int IntKind.i64 (DP.since (List.getD (JDel.ys g_2) ((0 : Nat) + Int.toNat (↑(JDel.j g_2) : Int)) dDP))) = SV.val (Value.int IntKind.i64 (DP.since (GWp.p g_3))) ∧ True) ∧ (0
  : Nat) = (0 : Nat)) ∧ some (LB.cells [SV.val (Value.int IntKind.i64 (DR.file (GW.run g_1))), SV.val (Value.int IntKind.i64 (DR.index (GW.run g_1))), SV.val (Value.int IntKind.i64
  (DR.count (GW.run g_1)))]) = some (LB.cells [SV.val (Value.int IntKind.i64 (DR.file (GWp.run g_3))), SV.val (Value.int IntKind.i64 (DR.index (GWp.run g_3))), SV.val (Value.int
  IntKind.i64 (DR.count (GWp.run g_3)))]) ∧ inK IntKind.i64 (DR.index (GWp.run g_3) + DR.count (GWp.run g_3)) ∧ ∀ (b : Unit), True → ((!delW (GWp.run g_3) (GWp.p g_3)) = true → ((0 :
  Int) ≤ (↑(JDel.i g_2) : Int) ∧ (↑(JDel.i g_2) : Int) < (↑(List.length (GW.l g)) : Int)) ∧ (0 : Nat) + Int.toNat (↑(JDel.i g_2) : Int) < List.length (JDel.ys g_2) ∧ ∃ (x : DP),
  [SV.val (Value.int IntKind.i64 (DP.file x)), SV.val (Value.int IntKind.i64 (DP.index x)), SV.val (Value.int IntKind.i64 (DP.since x))] = [SV.val (Value.int IntKind.i64 (DP.file
  (List.getD (JDel.ys g_2) ((0 : Nat) + Int.toNat (↑(JDel.j g_2) : Int)) dDP))), SV.val (Value.int IntKind.i64 (DP.index (List.getD (JDel.ys g_2) ((0 : Nat) + Int.toNat (↑(JDel.j
  g_2) : Int)) dDP))), SV.val (Value.int IntKind.i64 (DP.since (List.getD (JDel.ys g_2) ((0 : Nat) + Int.toNat (↑(JDel.j g_2) : Int)) dDP)))] ∧ inK IntKind.i64 ((↑(JDel.i g_2) : Int)
  + (1 : Int)) ∧ inK IntKind.i64 ((↑(JDel.j g_2) : Int) + (1 : Int)) ∧ ∃ (g' : JDel), (JDel.i g' < JDel.j g' ∧ JDel.j g' ≤ List.length (GW.l g) ∧ List.length (JDel.ys g') =
  List.length (GW.l g) ∧ List.take (JDel.i g') (JDel.ys g') = keep (delW (GW.run g)) (List.take (JDel.j g') (GW.l g)) ∧ List.drop (JDel.j g') (JDel.ys g') = List.drop (JDel.j g')
  (GW.l g)) ∧ List.length (GW.l g) - JDel.j g' < List.length (GW.l g) - JDel.j g_2 ∧ ((↑(JDel.i g_2) : Int) + (1 : Int) = (↑(JDel.i g') : Int) ∧ (↑(JDel.j g_2) : Int) + (1 : Int) =
  (↑(JDel.j g') : Int)) ∧ (LB.arr DP dDP encDP (List.set (JDel.ys g_2) ((0 : Nat) + Int.toNat (↑(JDel.i g_2) : Int)) x) = LB.arr DP dDP encDP (JDel.ys g') ∧ True) ∧ LB.cells [SV.val
  (Value.int IntKind.i64 (DR.file (GWp.run g_3))), SV.val (Value.int IntKind.i64 (DR.index (GWp.run g_3))), SV.val (Value.int IntKind.i64 (DR.count (GWp.run g_3)))] = LB.cells
  [SV.val (Value.int IntKind.i64 (DR.file (GW.run g_1))), SV.val (Value.int IntKind.i64 (DR.index (GW.run g_1))), SV.val (Value.int IntKind.i64 (DR.count (GW.run g_1)))] ∧ True) ∧
  ((!delW (GWp.run g_3) (GWp.p g_3)) = false → inK IntKind.i64 ((↑(JDel.j g_2) : Int) + (1 : Int)) ∧ ∃ (g' : JDel), (JDel.i g' < JDel.j g' ∧ JDel.j g' ≤ List.length (GW.l g) ∧
  List.length (JDel.ys g') = List.length (GW.l g) ∧ List.take (JDel.i g') (JDel.ys g') = keep (delW (GW.run g)) (List.take (JDel.j g') (GW.l g)) ∧ List.drop (JDel.j g') (JDel.ys g')
  = List.drop (JDel.j g') (GW.l g)) ∧ List.length (GW.l g) - JDel.j g' < List.length (GW.l g) - JDel.j g_2 ∧ ((↑(JDel.i g_2) : Int) = (↑(JDel.i g') : Int) ∧ (↑(JDel.j g_2) : Int) +
  (1 : Int) = (↑(JDel.j g') : Int)) ∧ (LB.arr DP dDP encDP (JDel.ys g_2) = LB.arr DP dDP encDP (JDel.ys g') ∧ True) ∧ LB.cells [SV.val (Value.int IntKind.i64 (DR.file (GWp.run
  g_3))), SV.val (Value.int IntKind.i64 (DR.index (GWp.run g_3))), SV.val (Value.int IntKind.i64 (DR.count (GWp.run g_3)))] = LB.cells [SV.val (Value.int IntKind.i64 (DR.file (GW.run
  g_1))), SV.val (Value.int IntKind.i64 (DR.index (GW.run g_1))), SV.val (Value.int IntKind.i64 (DR.count (GW.run g_1)))] ∧ True)) ∧ (decide ((↑(JDel.j g_2) : Int) < (↑(List.length
  (GW.l g)) : Int)) = false → ((0 : Int) ≤ (↑(JDel.i g_2) : Int) ∧ (↑(JDel.i g_2) : Int) ≤ (↑(List.length (GW.l g)) : Int)) ∧ (0 : Nat) + Int.toNat (↑(JDel.i g_2) : Int) +
  (List.length (GW.l g) - Int.toNat (↑(JDel.i g_2) : Int)) ≤ List.length (JDel.ys g_2) ∧ ∃ (z : DP), [SV.val (Value.int IntKind.i64 (DP.file z)), SV.val (Value.int IntKind.i64
  (DP.index z)), SV.val (Value.int IntKind.i64 (DP.since z))] = [SV.val (Value.int IntKind.i64 (0 : Int)), SV.val (Value.int IntKind.i64 (0 : Int)), SV.val (Value.int IntKind.i64 (0
  : Int))] ∧ ((0 : Int) ≤ (↑(JDel.i g_2) : Int) ∧ (↑(JDel.i g_2) : Int) ≤ (↑(List.length (GW.l g)) : Int)) ∧ ∃ (b : List DP), (List.length b = List.length (GW.l g) ∧ List.take
  (List.length (keep (delW (GW.run g)) (GW.l g))) b = keep (delW (GW.run g)) (GW.l g)) ∧ ((3 : Nat) = (3 : Nat) ∧ (0 : Nat) = (0 : Nat) ∧ Int.toNat (↑(JDel.i g_2) : Int) - (0 : Nat)
  = List.length (keep (delW (GW.run g)) (GW.l g))) ∧ (2 : Nat) = (2 : Nat) ∧ (some (LB.arr DP dDP encDP (List.take ((0 : Nat) + Int.toNat (↑(JDel.i g_2) : Int)) (JDel.ys g_2) ++
  List.replicate (List.length (GW.l g) - Int.toNat (↑(JDel.i g_2) : Int)) z ++ List.drop ((0 : Nat) + Int.toNat (↑(JDel.i g_2) : Int) + (List.length (GW.l g) - Int.toNat (↑(JDel.i
  g_2) : Int))) (JDel.ys g_2))) = some (LB.arr DP dDP encDP b) ∧ ∀ (x : DP), allFlat (encDP x) = true) ∧ some (LB.cells [SV.val (Value.int IntKind.i64 (DR.file (GW.run g_1))), SV.val
  (Value.int IntKind.i64 (DR.index (GW.run g_1))), SV.val (Value.int IntKind.i64 (DR.count (GW.run g_1)))]) = some (LB.cells [SV.val (Value.int IntKind.i64 (DR.file (GW.run g))),
  SV.val (Value.int IntKind.i64 (DR.index (GW.run g))), SV.val (Value.int IntKind.i64 (DR.count (GW.run g)))]) ∧ allFlat (encDR (GW.run g)) = true))) := by kernel_rfl

theorem vIdxE : cIdxE.body (fun g => env [(38, cE38)] (lIdxE g)) Try.f49 := by
  rw [vIdxE_eq]
  rintro ⟨l, now, age⟩ ⟨hlen, hin⟩
  dsimp only at hlen hin ⊢
  refine ⟨⟨0, ⟨Nat.zero_le _, rfl⟩, rfl, trivial, rfl, rfl, trivial⟩, fun i ⟨hi, ho⟩ => ⟨fun hlt => ?_, fun hge => ⟨(), trivial, ?_, rfl, ⟨rfl, rfl⟩, rfl, rfl⟩⟩⟩
  · have hlt : (i : Int) < l.length := of_decide_eq_true hlt
    have hi' : i < l.length := by omega
    rw [drop_getD hi', idxF] at ho
    rw [Int.toNat_natCast]
    refine ⟨⟨by omega, hlt⟩, hi', ⟨l.getD i dDP, now, age⟩, ⟨⟨rfl, rfl, rfl, trivial⟩, rfl, rfl⟩, ⟨rfl, rfl⟩, hin _ (getD_mem hi'), fun _ _ => ⟨fun h => ⟨(), trivial, ?_, rfl, ⟨rfl, rfl⟩, rfl, rfl⟩, fun h => ⟨inI (by omega) (by omega), i + 1, ⟨hi', ?_⟩, by omega, by omega, trivial, rfl, rfl, trivial⟩⟩⟩
    · rw [if_pos (show delE now age (l.getD i dDP) = true from h)] at ho; rw [ho]
    · rw [if_neg (by rw [show delE now age (l.getD i dDP) = false from h]; decide)] at ho; exact ho
  · have hge : ¬ (i : Int) < l.length := of_decide_eq_false hge
    rw [List.drop_eq_nil_of_le (by omega)] at ho
    rw [← ho]; rfl
theorem vIdxW : cIdxW.body (fun g => env [(46, cW46)] (lIdxW g)) Try.f49 := by
  rw [vIdxW_eq]
  rintro ⟨l, r⟩ ⟨hlen, hin⟩
  dsimp only at hlen hin ⊢
  refine ⟨⟨0, ⟨Nat.zero_le _, rfl⟩, rfl, trivial, rfl, trivial⟩, fun i ⟨hi, ho⟩ => ⟨fun hlt => ?_, fun hge => ⟨(), trivial, ?_, rfl, rfl, rfl⟩⟩⟩
  · have hlt : (i : Int) < l.length := of_decide_eq_true hlt
    have hi' : i < l.length := by omega
    rw [drop_getD hi', idxF] at ho
    rw [Int.toNat_natCast]
    refine ⟨⟨by omega, hlt⟩, hi', ⟨l.getD i dDP, r⟩, ⟨⟨rfl, rfl, rfl, trivial⟩, rfl⟩, rfl, hin, fun _ _ => ⟨fun h => ⟨(), trivial, ?_, rfl, rfl, rfl⟩, fun h => ⟨inI (by omega) (by omega), i + 1, ⟨hi', ?_⟩, by omega, by omega, trivial, rfl, trivial⟩⟩⟩
    · rw [if_pos (show delW r (l.getD i dDP) = true from h)] at ho; rw [ho]
    · rw [if_neg (by rw [show delW r (l.getD i dDP) = false from h]; decide)] at ho; exact ho
  · have hge : ¬ (i : Int) < l.length := of_decide_eq_false hge
    rw [List.drop_eq_nil_of_le (by omega)] at ho
    rw [← ho]; rfl
theorem insE_in {now age : Int} : ∀ lb ∈ insE now age, LBin lb := fun lb hm => by
  rcases List.mem_cons.1 hm with rfl | hm; exact rfl
  rcases List.mem_cons.1 hm with rfl | hm; exact rfl
  cases hm
theorem insW_in {r : DR} : ∀ lb ∈ insW r, LBin lb := fun lb hm => by
  rcases List.mem_cons.1 hm with rfl | hm; exact rfl
  cases hm
theorem sIdxE : SpecOk P 49 cIdxE.spec := spec_of cIdxE (tab_cons sE38 (tab_nil P)) mixed (fn := Try.f49) (by kernel_rfl) (by kernel_rfl) (by kernel_rfl) (by decide) (fun g lb _ hm => insE_in lb hm) vIdxE
theorem sIdxW : SpecOk P 49 cIdxW.spec := spec_of cIdxW (tab_cons sW46 (tab_nil P)) mixed (fn := Try.f49) (by kernel_rfl) (by kernel_rfl) (by kernel_rfl) (by decide) (fun g lb _ hm => insW_in lb hm) vIdxW

/-! DeleteFunc on lists -/
section lists
variable {f : DP → Bool} {l : List DP}
theorem keep_next {j : Nat} (h : j < l.length) : keep f (l.take (j + 1)) = keep f (l.take j) ++ if f (l.getD j dDP) = true then [] else [l.getD j dDP] := by
  rw [take_next l dDP h, keep, keep, List.filter_append]
  congr 1
  cases hf : f (l.getD j dDP) <;> simp [hf, -List.getD_eq_getElem?_getD]
theorem idxF_spec (f : DP → Bool) : ∀ (l : List DP) (k : Nat), (idxF f l k = -1 ∧ keep f l = l) ∨ ∃ i : Nat, i < l.length ∧ idxF f l k = ((k + i : Nat) : Int) ∧ keep f (l.take i) = l.take i ∧ f (l.getD i dDP) = true
  | [], k => .inl ⟨rfl, rfl⟩
  | q :: r, k => by
    unfold idxF
    by_cases h : f q = true
    · rw [if_pos h]
      exact .inr ⟨0, by simp, by simp, by simp [keep], by simpa using h⟩
    · rw [if_neg h]
      have hq : f q = false := by simpa using h
      rcases idxF_spec f r (k + 1) with ⟨h1, h2⟩ | ⟨i, h1, h2, h3, h4⟩
      · refine .inl ⟨h1, ?_⟩
        have : keep f (q :: r) = q :: keep f r := by simp [keep, hq]
        rw [this, h2]
      · refine .inr ⟨i + 1, by simp; omega, by rw [h2]; congr 1; omega, ?_, by simpa using h4⟩
        have : keep f (q :: r.take i) = q :: keep f (r.take i) := by simp [keep, hq]
        rw [List.take_succ_cons, this, h3]
theorem del_start {i : Nat} (h1 : i < l.length) (h3 : keep f (l.take i) = l.take i) (h4 : f (l.getD i dDP) = true) : invDel f l ⟨i, i + 1, l⟩ := by
  refine ⟨Nat.lt_succ_self _, h1, rfl, ?_, rfl⟩
  dsimp only
  rw [keep_next h1, if_pos h4, List.append_nil, h3]
theorem del_get {q : JDel} (h : invDel f l q) (hj : q.j < l.length) : q.ys.getD q.j dDP = l.getD q.j dDP := by
  obtain ⟨_, _, h3, _, h5⟩ := h
  have := congrArg (fun l => l[0]?) h5
  simp only [List.getElem?_drop, Nat.add_zero] at this
  rw [List.getD_eq_getElem?_getD, List.getD_eq_getElem?_getD, this]
theorem del_skip {q : JDel} (h : invDel f l q) (hj : q.j < l.length) (hf : f (q.ys.getD q.j dDP) = true) : invDel f l ⟨q.i, q.j + 1, q.ys⟩ := by
  rw [del_get h hj] at hf
  obtain ⟨h1, h2, h3, h4, h5⟩ := h
  refine ⟨by dsimp only; omega, hj, h3, ?_, ?_⟩
  · dsimp only; rw [keep_next hj, if_pos hf, List.append_nil, h4]
  · dsimp only
    have := congrArg (List.drop 1) h5
    simpa [List.drop_drop] using this
theorem del_move {q : JDel} (h : invDel f l q) (hj : q.j < l.length) (hf : f (q.ys.getD q.j dDP) = false) : invDel f l ⟨q.i + 1, q.j + 1, q.ys.set q.i (q.ys.getD q.j dDP)⟩ := by
  have hg := del_get h hj
  rw [hg] at hf ⊢
  obtain ⟨h1, h2, h3, h4, h5⟩ := h
  refine ⟨by dsimp only; omega, hj, by simpa using h3, ?_, ?_⟩
  · dsimp only
    rw [keep_next hj, if_neg (by rw [hf]; decide), ← h4]
    rw [List.take_add_one, List.take_set_of_le (Nat.le_refl _), List.getElem?_set_self (by omega)]
    rfl
  · dsimp only
    rw [List.drop_set_of_lt (by omega)]
    have := congrArg (List.drop 1) h5
    simpa [List.drop_drop] using this
theorem del_end {q : JDel} (h : invDel f l q) (hj : ¬ q.j < l.length) : q.i = (keep f l).length ∧ q.ys.take q.i = keep f l ∧ q.i ≤ l.length := by
  obtain ⟨h1, h2, h3, h4, h5⟩ := h
  have he : q.j = l.length := by omega
  rw [he, List.take_length] at h4
  refine ⟨?_, h4, by omega⟩
  rw [← h4, List.length_take]; omega
theorem del_out {q : JDel} (h : invDel f l q) (hj : ¬ q.j < l.length) (r : List DP) (hr : r.length = l.length - q.i) : (q.ys.take q.i ++ r).length = l.length ∧ (q.ys.take q.i ++ r).take (keep f l).length = keep f l := by
  obtain ⟨h1, h2, h3⟩ := del_end h hj
  rw [h2]
  refine ⟨?_, List.take_left⟩
  rw [List.length_append, hr, ← h1]; omega
end lists
theorem vDelE : cDelE.body (fun g => env [(38, cE38), (49, cIdxE)] (lDel (delE g.now g.age) g.l)) Try.f37 := by
  rw [vDelE_eq]
  rintro ⟨l, now, age⟩ ⟨hlen, hin⟩
  dsimp only at hlen hin ⊢
  refine ⟨⟨l, now, age⟩, ⟨⟨Nat.le_of_eq (Nat.zero_add _), by rw [List.drop_zero, List.take_length]⟩, rfl, rfl, rfl, trivial⟩, ⟨rfl, rfl⟩, ⟨hlen, hin⟩, fun _ _ => ⟨fun hm => ?_, fun hm => ?_⟩⟩
  · have hm : idxF (delE now age) l 0 = -1 := by simpa using hm
    have hk : keep (delE now age) l = l := by
      rcases idxF_spec (delE now age) l 0 with ⟨_, h⟩ | ⟨i, _, h, _⟩
      · exact h
      · rw [h] at hm; omega
    exact ⟨l, ⟨rfl, by rw [hk, List.take_length]⟩, ⟨rfl, rfl, by rw [hk]⟩, rfl, ⟨rfl, fun _ => rfl⟩, ⟨rfl, rfl⟩, rfl, rfl⟩
  · have hm : idxF (delE now age) l 0 ≠ -1 := by simpa using hm
    rcases idxF_spec (delE now age) l 0 with ⟨h, _⟩ | ⟨i, h1, h2, h3, h4⟩
    · exact absurd h hm
    · rw [Nat.zero_add] at h2
      rw [h2]
      refine ⟨inI (by omega) (by omega), ⟨⟨i, i + 1, l⟩, del_start h1 h3 h4, ⟨rfl, by simp⟩, ⟨rfl, trivial⟩, rfl, rfl, trivial⟩, fun q hq => ⟨fun hj => ?_, fun hj => ?_⟩⟩
      · have hq := (show invDel (delE now age) l q from hq)
        have hj : (q.j : Int) < l.length := of_decide_eq_true hj
        have hj' : q.j < l.length := by omega
        have hij : q.i < q.j := hq.1
        have hys : q.ys.length = l.length := hq.2.2.1
        have hgm : q.ys.getD q.j dDP ∈ l := by rw [del_get hq hj']; exact getD_mem hj'
        rw [Int.toNat_natCast, Int.toNat_natCast, Nat.zero_add, Nat.zero_add]
        refine ⟨⟨by omega, hj⟩, by omega, ⟨q.ys.getD q.j dDP, now, age⟩, ⟨⟨rfl, rfl, rfl, trivial⟩, rfl, rfl⟩, ⟨rfl, rfl⟩, hin _ hgm, fun _ _ => ⟨fun h => ?_, fun h => ?_⟩⟩
        · have h : delE now age (q.ys.getD q.j dDP) = false := by simpa using h
          exact ⟨⟨by omega, by omega⟩, by omega, q.ys.getD q.j dDP, rfl, inI (by omega) (by omega), inI (by omega) (by omega), ⟨q.i + 1, q.j + 1, q.ys.set q.i (q.ys.getD q.j dDP)⟩, del_move hq hj' h, by dsimp only; omega, ⟨rfl, rfl⟩, ⟨rfl, trivial⟩, rfl, rfl, trivial⟩
        · have h : delE now age (q.ys.getD q.j dDP) = true := by simpa using h
          exact ⟨inI (by omega) (by omega), ⟨q.i, q.j + 1, q.ys⟩, del_skip hq hj' h, by dsimp only; omega, ⟨rfl, rfl⟩, ⟨rfl, trivial⟩, rfl, rfl, trivial⟩
      · have hq := (show invDel (delE now age) l q from hq)
        have hj : ¬ (q.j : Int) < l.length := of_decide_eq_false hj
        have hj' : ¬ q.j < l.length := by omega
        have hys : q.ys.length = l.length := hq.2.2.1
        obtain ⟨e1, e2, e3⟩ := del_end hq hj'
        rw [Int.toNat_natCast, Nat.zero_add, Nat.sub_zero]
        have hd : q.ys.drop (q.i + (l.length - q.i)) = [] := List.drop_eq_nil_of_le (by omega)
        rw [hd]
        have ho := del_out hq hj' (List.replicate (l.length - q.i) dDP) (by simp)
        exact ⟨⟨by omega, by omega⟩, by omega, dDP, rfl, ⟨by omega, by omega⟩, q.ys.take q.i ++ List.replicate (l.length - q.i) dDP ++ [], by rw [List.append_nil]; exact ho, ⟨rfl, rfl, e1⟩, rfl, ⟨rfl, fun _ => rfl⟩, ⟨rfl, rfl⟩, rfl, rfl⟩

theorem vDelW : cDelW.body (fun g => env [(46, cW46), (49, cIdxW)] (lDel (delW g.run) g.l)) Try.f37 := by
  rw [vDelW_eq]
  rintro ⟨l, r⟩ ⟨hlen, hin⟩
  dsimp only at hlen hin ⊢
  refine ⟨⟨l, r⟩, ⟨⟨Nat.le_of_eq (Nat.zero_add _), by rw [List.drop_zero, List.take_length]⟩, rfl, rfl, trivial⟩, rfl, ⟨hlen, hin⟩, fun _ _ => ⟨fun hm => ?_, fun hm => ?_⟩⟩
  · have hm : idxF (delW r) l 0 = -1 := by simpa using hm
    have hk : keep (delW r) l = l := by
      rcases idxF_spec (delW r) l 0 with ⟨_, h⟩ | ⟨i, _, h, _⟩
      · exact h
      · rw [h] at hm; omega
    exact ⟨l, ⟨rfl, by rw [hk, List.take_length]⟩, ⟨rfl, rfl, by rw [hk]⟩, rfl, ⟨rfl, fun _ => rfl⟩, rfl, rfl⟩
  · have hm : idxF (delW r) l 0 ≠ -1 := by simpa using hm
    rcases idxF_spec (delW r) l 0 with ⟨h, _⟩ | ⟨i, h1, h2, h3, h4⟩
    · exact absurd h hm
    · rw [Nat.zero_add] at h2
      rw [h2]
      refine ⟨inI (by omega) (by omega), ⟨⟨i, i + 1, l⟩, del_start h1 h3 h4, ⟨rfl, by simp⟩, ⟨rfl, trivial⟩, rfl, trivial⟩, fun q hq => ⟨fun hj => ?_, fun hj => ?_⟩⟩
      · have hq := (show invDel (delW r) l q from hq)
        have hj : (q.j : Int) < l.length := of_decide_eq_true hj
        have hj' : q.j < l.length := by omega
        have hij : q.i < q.j := hq.1
        have hys : q.ys.length = l.length := hq.2.2.1
        have hgm : q.ys.getD q.j dDP ∈ l := by rw [del_get hq hj']; exact getD_mem hj'
        rw [Int.toNat_natCast, Int.toNat_natCast, Nat.zero_add, Nat.zero_add]
        refine ⟨⟨by omega, hj⟩, by omega, ⟨q.ys.getD q.j dDP, r⟩, ⟨⟨rfl, rfl, rfl, trivial⟩, rfl⟩, rfl, hin, fun _ _ => ⟨fun h => ?_, fun h => ?_⟩⟩
        · have h : delW r (q.ys.getD q.j dDP) = false := by simpa using h
          exact ⟨⟨by omega, by omega⟩, by omega, q.ys.getD q.j dDP, rfl, inI (by omega) (by omega), inI (by omega) (by omega), ⟨q.i + 1, q.j + 1, q.ys.set q.i (q.ys.getD q.j dDP)⟩, del_move hq hj' h, by dsimp only; omega, ⟨rfl, rfl⟩, ⟨rfl, trivial⟩, rfl, trivial⟩
        · have h : delW r (q.ys.getD q.j dDP) = true := by simpa using h
          exact ⟨inI (by omega) (by omega), ⟨q.i, q.j + 1, q.ys⟩, del_skip hq hj' h, by dsimp only; omega, ⟨rfl, rfl⟩, ⟨rfl, trivial⟩, rfl, trivial⟩
      · have hq := (show invDel (delW r) l q from hq)
        have hj : ¬ (q.j : Int) < l.length := of_decide_eq_false hj
        have hj' : ¬ q.j < l.length := by omega
        have hys : q.ys.length = l.length := hq.2.2.1
        obtain ⟨e1, e2, e3⟩ := del_end hq hj'
        rw [Int.toNat_natCast, Nat.zero_add, Nat.sub_zero]
        have hd : q.ys.drop (q.i + (l.length - q.i)) = [] := List.drop_eq_nil_of_le (by omega)
        rw [hd]
        have ho := del_out hq hj' (List.replicate (l.length - q.i) dDP) (by simp)
        exact ⟨⟨by omega, by omega⟩, by omega, dDP, rfl, ⟨by omega, by omega⟩, q.ys.take q.i ++ List.replicate (l.length - q.i) dDP ++ [], by rw [List.append_nil]; exact ho, ⟨rfl, rfl, e1⟩, rfl, ⟨rfl, fun _ => rfl⟩, rfl, rfl⟩

theorem sDelE : SpecOk P 37 cDelE.spec := spec_of cDelE (tab_cons sE38 (tab_cons sIdxE (tab_nil P))) mixed (fn := Try.f37) (by kernel_rfl) (by kernel_rfl) (by kernel_rfl) (by decide) (fun g lb _ hm => by rcases List.mem_cons.1 hm with rfl | hm; exact trivial; exact insE_in lb hm) vDelE
theorem sDelW : SpecOk P 37 cDelW.spec := spec_of cDelW (tab_cons sW46 (tab_cons sIdxW (tab_nil P))) mixed (fn := Try.f37) (by kernel_rfl) (by kernel_rfl) (by kernel_rfl) (by decide) (fun g lb _ hm => by rcases List.mem_cons.1 hm with rfl | hm; exact trivial; exact insW_in lb hm) vDelW
end Go.Wb
