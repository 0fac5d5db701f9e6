/- A PART OF THE PROOF. NO CONDITION. -/
import Derived.Test.YtgcedkklmmdabaaWbQ
import Derived.Test.YtgcedkklmmdabaaWbLS
import Derived.Test.YtgcedkklmmdabaaSxSort
import Derived.Test.YtgcedkklmmdabaaSxAD
noncomputable section
set_option linter.unusedVariables false
set_option linter.unusedVariables false
set_option linter.unusedSimpArgs false
namespace Go.Wb
open Go.Proofs Go.SX
set_option maxRecDepth 100000

/-! sorting -/
def vDP (p : DP) : List Value := [.int .i64 p.file, .int .i64 p.index, .int .i64 p.since]
def vPL (p : PL) : List Value := [.int .i64 p.file, .int .i64 p.index]
instance : Inhabited DP := ⟨dDP⟩
instance : Inhabited PL := ⟨dPL⟩
def compareP (a b : PL) : Int := orI [cmpI a.file b.file, cmpI a.index b.index]
def cCompareP : Con := pureCon (PL × PL) Unit (fun g => [.agg (encPL g.1), .agg (encPL g.2)]) (fun _ => True) (fun _ _ => True) (fun g _ => I (compareP g.1 g.2))
theorem vCompareP_eq : (cCompareP.body (fun g => env [(41, cOr), (42, cCmp)] (noLoops g)) Try.f40) = (∀ (g : PL × PL), True → ∃ (g_1 : Int × Int), (SV.val (Value.int IntKind.i64 (PL.file (Prod.fst g))) = SV.val (Value.int IntKind.i64 (Prod.fst g_1)) ∧ SV.val (Value.int IntKind.i64
  (PL.file (Prod.snd g))) = SV.val (Value.int IntKind.i64 (Prod.snd g_1))) ∧ True ∧ True ∧ ∀ (b : Unit), True → ∃ (g_2 : Int × Int), (SV.val (Value.int IntKind.i64 (PL.index
  (Prod.fst g))) = SV.val (Value.int IntKind.i64 (Prod.fst g_2)) ∧ SV.val (Value.int IntKind.i64 (PL.index (Prod.snd g))) = SV.val (Value.int IntKind.i64 (Prod.snd g_2))) ∧ True ∧
  True ∧ ∀ (b : Unit), True → ∃ (g_3 : List Int), ([[SV.val (Value.int IntKind.i64 (cmpI (Prod.fst g_1) (Prod.snd g_1)))], [SV.val (Value.int IntKind.i64 (cmpI (Prod.fst g_2)
  (Prod.snd g_2)))]] = List.map encI g_3 ∧ ∀ (x : Int), (1 : Nat) = (1 : Nat) ∧ allOne (encI x) = true) ∧ True ∧ List.length g_3 ≤ (1000 : Nat) ∧ ∀ (b : Unit), True → ∃ (b : Unit),
  True ∧ SV.val (Value.int IntKind.i64 (orI g_3)) = SV.val (Value.int IntKind.i64 (compareP (Prod.fst g) (Prod.snd g))) ∧ (0 : Nat) = (0 : Nat) ∧ True) := by kernel_rfl
/-! the program's Next, Order, Expired, Written -/
abbrev cSort : Con := sortCon DP 3 dDP encDP 31 compareI
abbrev cSortP : Con := sortCon PL 2 dPL encPL 40 compareP
theorem vWNext_eq : (cNext.body (fun g => env [(14, cWCheck), (36, cMin), (35, cIndex)] (noLoops g)) Try.f16) = (∀ (g : List DP), List.length g ≤ (1000000000 : Nat) → (((↑(List.length g) : Int) == (0 : Int)) = true → ∃ (b : Unit), True ∧ SV.val (Value.int IntKind.i64 (-1 : Int)) = SV.val
  (Value.int IntKind.i64 (nxt g)) ∧ (0 : Nat) = (0 : Nat) ∧ True) ∧ (((↑(List.length g) : Int) == (0 : Int)) = false → ∃ (g_1 : List DP), SV.ro DP dDP encDP g = SV.ro DP dDP encDP
  g_1 ∧ True ∧ List.length g_1 ≤ (1000000000 : Nat) ∧ ∀ (b : Unit), True → ((chk g_1 != (0 : Int)) = true → ∃ (b : Unit), True ∧ SV.val (Value.int IntKind.i64 (-1 : Int)) = SV.val
  (Value.int IntKind.i64 (nxt g)) ∧ (0 : Nat) = (0 : Nat) ∧ True) ∧ ((chk g_1 != (0 : Int)) = false → ∃ (g_2 : List DP), (SV.ro DP dDP encDP g = SV.ro DP dDP encDP g_2 ∧ (31 : Nat) =
  (31 : Nat) ∧ True) ∧ True ∧ (List.length g_2 ≤ (1000000000 : Nat) ∧ (0 : Nat) < List.length g_2) ∧ ∀ (b : Unit), True → ∃ (g_3 : List DP × DP), (SV.ro DP dDP encDP g = SV.ro DP dDP
  encDP (Prod.fst g_3) ∧ SV.val (Value.int IntKind.i64 (DP.file (minTo g_2 (List.length g_2)))) = SV.val (Value.int IntKind.i64 (DP.file (Prod.snd g_3))) ∧ SV.val (Value.int
  IntKind.i64 (DP.index (minTo g_2 (List.length g_2)))) = SV.val (Value.int IntKind.i64 (DP.index (Prod.snd g_3))) ∧ SV.val (Value.int IntKind.i64 (DP.since (minTo g_2 (List.length
  g_2)))) = SV.val (Value.int IntKind.i64 (DP.since (Prod.snd g_3))) ∧ True) ∧ True ∧ List.length (Prod.fst g_3) ≤ (1000000000 : Nat) ∧ ∀ (b : Unit), True → ∃ (b : Unit), True ∧
  SV.val (Value.int IntKind.i64 (idx (Prod.snd g_3) (Prod.fst g_3) (0 : Nat))) = SV.val (Value.int IntKind.i64 (nxt g)) ∧ (0 : Nat) = (0 : Nat) ∧ True))) := by kernel_rfl
theorem vWOrder_eq : (cOrder.body (fun g => env [(14, cWCheck), (28, cClone), (30, cSort)] (noLoops g)) Try.f12) = (∀ (g : List DP), List.length g ≤ (1000000000 : Nat) → ∃ (g_1 : List DP), SV.ro DP dDP encDP g = SV.ro DP dDP encDP g_1 ∧ True ∧ List.length g_1 ≤ (1000000000 : Nat) ∧ ∀ (b : Unit),
  True → ((chk g_1 != (0 : Int)) = true → ∃ (b : Unit), True ∧ (((SV.val (Value.slice none (0 : Nat) (0 : Nat)) = SV.val (Value.slice none (0 : Nat) (0 : Nat)) ∧ (0 : Nat) = (0 :
  Nat) ∧ List.length (ordO g) = (0 : Nat)) ∧ SV.val (Value.int IntKind.i64 (chk g_1)) = SV.val (Value.int IntKind.i64 (chk g))) ∧ (∀ (x : DP), allFlat (encDP x) = true) ∧ ordO g = []
  ∧ ∀ (x : DP), (3 : Nat) = (3 : Nat) ∧ allOne (encDP x) = true) ∧ (0 : Nat) = (0 : Nat) ∧ True) ∧ ((chk g_1 != (0 : Int)) = false → ∃ (g_2 : List DP), SV.ro DP dDP encDP g = SV.ro
  DP dDP encDP g_2 ∧ True ∧ List.length g_2 ≤ (1000000000 : Nat) ∧ ∀ (b : Unit), True → ∃ (g_3 : List DP), (((3 : Nat) = (3 : Nat) ∧ (0 : Nat) = (0 : Nat) ∧ List.length g_2 =
  List.length g_3) ∧ (31 : Nat) = (31 : Nat) ∧ True) ∧ some (LB.arr DP dDP encDP g_2) = some (LB.arr DP dDP encDP g_3) ∧ List.length g_3 < (4611686018427387904 : Nat) ∧ ∀ (b : List
  DP), List.Perm b g_3 ∧ List.Pairwise (fun (x y : DP) => ¬compareI y x < (0 : Int)) b → ∃ (b_1 : Unit), True ∧ (((SV.sl (72 : Nat) (3 : Nat) (0 : Nat) (List.length g_2) = SV.sl (72
  : Nat) (3 : Nat) (0 : Nat) (List.length g_2) ∧ (0 : Nat) = (0 : Nat) ∧ (3 : Nat) = (3 : Nat) ∧ List.length g_2 = List.length (ordO g)) ∧ SV.val (Value.int IntKind.i64 (0 : Int)) =
  SV.val (Value.int IntKind.i64 (chk g))) ∧ (∀ (x : DP), allFlat (encDP x) = true) ∧ (0 : Nat) + List.length g_2 ≤ List.length b ∧ LB.arr DP dDP encDP (List.take (List.length g_2)
  (List.drop (0 : Nat) b)) = LB.arr DP dDP encDP (ordO g)) ∧ (0 : Nat) = (0 : Nat) ∧ True)) := by kernel_rfl
theorem vWExp_eq : (cExp.body (fun g => env [(12, cOrder), (37, cDelE)] (noLoops g)) Try.f19) = (∀ (g : GExp), (List.length (GExp.l g) ≤ (1000000000 : Nat) ∧ GExp.now g ≤ (9223372036854775807 : Int) ∧ ∀ (p : DP), p ∈ GExp.l g → DP.since p ≤ (9223372036854775807 : Int)) → ∃
  (g_1 : List DP), SV.ro DP dDP encDP (GExp.l g) = SV.ro DP dDP encDP g_1 ∧ True ∧ List.length g_1 ≤ (1000000000 : Nat) ∧ ∀ (b : Unit), True → ((chk g_1 != (0 : Int)) = true → ∃ (b :
  Unit), True ∧ (((SV.val (Value.slice none (0 : Nat) (0 : Nat)) = SV.val (Value.slice none (0 : Nat) (0 : Nat)) ∧ (0 : Nat) = (0 : Nat) ∧ List.length (expO g) = (0 : Nat)) ∧ SV.val
  (Value.int IntKind.i64 (chk g_1)) = SV.val (Value.int IntKind.i64 (expE g))) ∧ (∀ (x : DP), allFlat (encDP x) = true) ∧ expO g = [] ∧ ∀ (x : DP), (3 : Nat) = (3 : Nat) ∧ allOne
  (encDP x) = true) ∧ (0 : Nat) = (0 : Nat) ∧ True) ∧ ((chk g_1 != (0 : Int)) = false → (decide (GExp.now g < (0 : Int)) = true → ∃ (b : Unit), True ∧ (((SV.val (Value.slice none (0
  : Nat) (0 : Nat)) = SV.val (Value.slice none (0 : Nat) (0 : Nat)) ∧ (0 : Nat) = (0 : Nat) ∧ List.length (expO g) = (0 : Nat)) ∧ SV.val (Value.int IntKind.i64 (2 : Int)) = SV.val
  (Value.int IntKind.i64 (expE g))) ∧ (∀ (x : DP), allFlat (encDP x) = true) ∧ expO g = [] ∧ ∀ (x : DP), (3 : Nat) = (3 : Nat) ∧ allOne (encDP x) = true) ∧ (0 : Nat) = (0 : Nat) ∧
  True) ∧ (decide (GExp.now g < (0 : Int)) = false → (decide (GExp.age g < (0 : Int)) = true → ∃ (b : Unit), True ∧ (((SV.val (Value.slice none (0 : Nat) (0 : Nat)) = SV.val
  (Value.slice none (0 : Nat) (0 : Nat)) ∧ (0 : Nat) = (0 : Nat) ∧ List.length (expO g) = (0 : Nat)) ∧ SV.val (Value.int IntKind.i64 (2 : Int)) = SV.val (Value.int IntKind.i64 (expE
  g))) ∧ (∀ (x : DP), allFlat (encDP x) = true) ∧ expO g = [] ∧ ∀ (x : DP), (3 : Nat) = (3 : Nat) ∧ allOne (encDP x) = true) ∧ (0 : Nat) = (0 : Nat) ∧ True) ∧ (decide (GExp.age g <
  (0 : Int)) = false → ∃ (g_2 : GE), (((3 : Nat) = (3 : Nat) ∧ (0 : Nat) = (0 : Nat) ∧ List.length (ordO g_1) = List.length (GE.l g_2)) ∧ (38 : Nat) = (38 : Nat) ∧ (0 : Nat) = (0 :
  Nat) ∧ (0 : Nat) = (0 : Nat) ∧ True) ∧ (some (LB.arr DP dDP encDP (ordO g_1)) = some (LB.arr DP dDP encDP (GE.l g_2)) ∧ some (LB.cells [SV.val (Value.int IntKind.i64 (GExp.now
  g))]) = some (LB.cells [SV.val (Value.int IntKind.i64 (GE.now g_2))]) ∧ some (LB.cells [SV.val (Value.int IntKind.i64 (GExp.age g))]) = some (LB.cells [SV.val (Value.int
  IntKind.i64 (GE.age g_2))])) ∧ (List.length (GE.l g_2) ≤ (1000000000 : Nat) ∧ ∀ (p : DP), p ∈ GE.l g_2 → inK IntKind.i64 (GE.now g_2 - DP.since p)) ∧ ∀ (b : List DP), List.length b
  = List.length (GE.l g_2) ∧ List.take (List.length (keep (delE (GE.now g_2) (GE.age g_2)) (GE.l g_2))) b = keep (delE (GE.now g_2) (GE.age g_2)) (GE.l g_2) → ∃ (b_1 : Unit), True ∧
  (((SV.sl (48 : Nat) (3 : Nat) (0 : Nat) (List.length (keep (delE (GE.now g_2) (GE.age g_2)) (GE.l g_2))) = SV.sl (48 : Nat) (3 : Nat) (0 : Nat) (List.length (keep (delE (GE.now
  g_2) (GE.age g_2)) (GE.l g_2))) ∧ (0 : Nat) = (0 : Nat) ∧ (3 : Nat) = (3 : Nat) ∧ List.length (keep (delE (GE.now g_2) (GE.age g_2)) (GE.l g_2)) = List.length (expO g)) ∧ SV.val
  (Value.int IntKind.i64 (0 : Int)) = SV.val (Value.int IntKind.i64 (expE g))) ∧ (∀ (x : DP), allFlat (encDP x) = true) ∧ (0 : Nat) + List.length (keep (delE (GE.now g_2) (GE.age
  g_2)) (GE.l g_2)) ≤ List.length b ∧ LB.arr DP dDP encDP (List.take (List.length (keep (delE (GE.now g_2) (GE.age g_2)) (GE.l g_2))) (List.drop (0 : Nat) b)) = LB.arr DP dDP encDP
  (expO g)) ∧ (0 : Nat) = (0 : Nat) ∧ True)))) := by kernel_rfl
theorem vWWr_eq : (cWr.body (fun g => env [(14, cWCheck), (33, cPage), (28, cClone), (37, cDelW)] (noLoops g)) Try.f24) = (∀ (g : GWr), List.length (GWr.l g) ≤ (1000000000 : Nat) → ∃ (g_1 : List DP), SV.ro DP dDP encDP (GWr.l g) = SV.ro DP dDP encDP g_1 ∧ True ∧ List.length g_1 ≤ (1000000000 : Nat) ∧ ∀
  (b : Unit), True → ((chk g_1 != (0 : Int)) = true → ∃ (b : Unit), True ∧ (((SV.val (Value.slice none (0 : Nat) (0 : Nat)) = SV.val (Value.slice none (0 : Nat) (0 : Nat)) ∧ (0 :
  Nat) = (0 : Nat) ∧ List.length (wrO g) = (0 : Nat)) ∧ SV.val (Value.int IntKind.i64 (chk g_1)) = SV.val (Value.int IntKind.i64 (wrE g))) ∧ (∀ (x : DP), allFlat (encDP x) = true) ∧
  wrO g = [] ∧ ∀ (x : DP), (3 : Nat) = (3 : Nat) ∧ allOne (encDP x) = true) ∧ (0 : Nat) = (0 : Nat) ∧ True) ∧ ((chk g_1 != (0 : Int)) = false → ∃ (g_2 : Int × Int), (SV.val
  (Value.int IntKind.i64 (DR.file (GWr.r g))) = SV.val (Value.int IntKind.i64 (Prod.fst g_2)) ∧ SV.val (Value.int IntKind.i64 (DR.index (GWr.r g))) = SV.val (Value.int IntKind.i64
  (Prod.snd g_2))) ∧ True ∧ True ∧ ∀ (b : Unit), True → ((!isPage (Prod.fst g_2) (Prod.snd g_2)) = true → ∃ (b : Unit), True ∧ (((SV.val (Value.slice none (0 : Nat) (0 : Nat)) =
  SV.val (Value.slice none (0 : Nat) (0 : Nat)) ∧ (0 : Nat) = (0 : Nat) ∧ List.length (wrO g) = (0 : Nat)) ∧ SV.val (Value.int IntKind.i64 (2 : Int)) = SV.val (Value.int IntKind.i64
  (wrE g))) ∧ (∀ (x : DP), allFlat (encDP x) = true) ∧ wrO g = [] ∧ ∀ (x : DP), (3 : Nat) = (3 : Nat) ∧ allOne (encDP x) = true) ∧ (0 : Nat) = (0 : Nat) ∧ True) ∧ ((!isPage (Prod.fst
  g_2) (Prod.snd g_2)) = false → (decide (DR.count (GWr.r g) < (1 : Int)) = true → ∃ (b : Unit), True ∧ (((SV.val (Value.slice none (0 : Nat) (0 : Nat)) = SV.val (Value.slice none (0
  : Nat) (0 : Nat)) ∧ (0 : Nat) = (0 : Nat) ∧ List.length (wrO g) = (0 : Nat)) ∧ SV.val (Value.int IntKind.i64 (2 : Int)) = SV.val (Value.int IntKind.i64 (wrE g))) ∧ (∀ (x : DP),
  allFlat (encDP x) = true) ∧ wrO g = [] ∧ ∀ (x : DP), (3 : Nat) = (3 : Nat) ∧ allOne (encDP x) = true) ∧ (0 : Nat) = (0 : Nat) ∧ True) ∧ (decide (DR.count (GWr.r g) < (1 : Int)) =
  false → inK IntKind.i64 ((16 : Int) - DR.index (GWr.r g)) ∧ (decide (DR.count (GWr.r g) > (16 : Int) - DR.index (GWr.r g)) = true → ∃ (b : Unit), True ∧ (((SV.val (Value.slice none
  (0 : Nat) (0 : Nat)) = SV.val (Value.slice none (0 : Nat) (0 : Nat)) ∧ (0 : Nat) = (0 : Nat) ∧ List.length (wrO g) = (0 : Nat)) ∧ SV.val (Value.int IntKind.i64 (2 : Int)) = SV.val
  (Value.int IntKind.i64 (wrE g))) ∧ (∀ (x : DP), allFlat (encDP x) = true) ∧ wrO g = [] ∧ ∀ (x : DP), (3 : Nat) = (3 : Nat) ∧ allOne (encDP x) = true) ∧ (0 : Nat) = (0 : Nat) ∧
  True) ∧ (decide (DR.count (GWr.r g) > (16 : Int) - DR.index (GWr.r g)) = false → ∃ (g_3 : List DP), SV.ro DP dDP encDP (GWr.l g) = SV.ro DP dDP encDP g_3 ∧ True ∧ List.length g_3 ≤
  (1000000000 : Nat) ∧ ∀ (b : Unit), True → ∃ (g_4 : GW), (((3 : Nat) = (3 : Nat) ∧ (0 : Nat) = (0 : Nat) ∧ List.length g_3 = List.length (GW.l g_4)) ∧ (46 : Nat) = (46 : Nat) ∧ (0 :
  Nat) = (0 : Nat) ∧ True) ∧ (some (LB.arr DP dDP encDP g_3) = some (LB.arr DP dDP encDP (GW.l g_4)) ∧ some (LB.cells [SV.val (Value.int IntKind.i64 (DR.file (GWr.r g))), SV.val
  (Value.int IntKind.i64 (DR.index (GWr.r g))), SV.val (Value.int IntKind.i64 (DR.count (GWr.r g)))]) = some (LB.cells [SV.val (Value.int IntKind.i64 (DR.file (GW.run g_4))), SV.val
  (Value.int IntKind.i64 (DR.index (GW.run g_4))), SV.val (Value.int IntKind.i64 (DR.count (GW.run g_4)))])) ∧ (List.length (GW.l g_4) ≤ (1000000000 : Nat) ∧ inK IntKind.i64
  (DR.index (GW.run g_4) + DR.count (GW.run g_4))) ∧ ∀ (b : List DP), List.length b = List.length (GW.l g_4) ∧ List.take (List.length (keep (delW (GW.run g_4)) (GW.l g_4))) b = keep
  (delW (GW.run g_4)) (GW.l g_4) → inK IntKind.i64 ((↑(List.length (GWr.l g)) : Int) - (↑(List.length (keep (delW (GW.run g_4)) (GW.l g_4))) : Int)) ∧ (((↑(List.length (GWr.l g)) :
  Int) - (↑(List.length (keep (delW (GW.run g_4)) (GW.l g_4))) : Int) != DR.count (GW.run g_4)) = true → ∃ (b : Unit), True ∧ (((SV.val (Value.slice none (0 : Nat) (0 : Nat)) =
  SV.val (Value.slice none (0 : Nat) (0 : Nat)) ∧ (0 : Nat) = (0 : Nat) ∧ List.length (wrO g) = (0 : Nat)) ∧ SV.val (Value.int IntKind.i64 (6 : Int)) = SV.val (Value.int IntKind.i64
  (wrE g))) ∧ (∀ (x : DP), allFlat (encDP x) = true) ∧ wrO g = [] ∧ ∀ (x : DP), (3 : Nat) = (3 : Nat) ∧ allOne (encDP x) = true) ∧ (0 : Nat) = (0 : Nat) ∧ True) ∧ (((↑(List.length
  (GWr.l g)) : Int) - (↑(List.length (keep (delW (GW.run g_4)) (GW.l g_4))) : Int) != DR.count (GW.run g_4)) = false → ∃ (b_1 : Unit), True ∧ (((SV.sl (248 : Nat) (3 : Nat) (0 : Nat)
  (List.length (keep (delW (GW.run g_4)) (GW.l g_4))) = SV.sl (248 : Nat) (3 : Nat) (0 : Nat) (List.length (keep (delW (GW.run g_4)) (GW.l g_4))) ∧ (0 : Nat) = (0 : Nat) ∧ (3 : Nat)
  = (3 : Nat) ∧ List.length (keep (delW (GW.run g_4)) (GW.l g_4)) = List.length (wrO g)) ∧ SV.val (Value.int IntKind.i64 (0 : Int)) = SV.val (Value.int IntKind.i64 (wrE g))) ∧ (∀ (x
  : DP), allFlat (encDP x) = true) ∧ (0 : Nat) + List.length (keep (delW (GW.run g_4)) (GW.l g_4)) ≤ List.length b ∧ LB.arr DP dDP encDP (List.take (List.length (keep (delW (GW.run
  g_4)) (GW.l g_4))) (List.drop (0 : Nat) b)) = LB.arr DP dDP encDP (wrO g)) ∧ (0 : Nat) = (0 : Nat) ∧ True)))))) := by kernel_rfl
/-! the reference's Runs -/
structure GRn where
  l : List DP
  most : Int
def H (l : List DP) (f : Int) (j : Nat) : Bool := has l f j
def sc (l : List DP) (most : Int) (f : Int) (i : Nat) : List DR := (scan (H l f) most.toNat 16 i).map fun x => (⟨f, x.1, x.2⟩ : DR)
def runsTo (l : List DP) (most : Int) : Nat → List DR
  | 0 => []
  | f + 1 => runsTo l most f ++ sc l most f 0
def runsE (g : GRn) : Int := if chk g.l = 0 then (if g.most < 1 then 2 else 0) else chk g.l
def runsO (g : GRn) : List DR := if runsE g = 0 then runsTo g.l g.most 4 else []
def cRuns : Con := newCon GRn Unit (fun g => [roP g.l, I g.most]) (fun g => g.l.length ≤ 1000000000 ∧ g.most ≤ 9223372036854775807) (fun _ _ => True) (fun g _ => .tup [.sl 0 3 0 (runsO g).length, I (runsE g)]) (fun g _ => .arr DR dDR encDR (runsO g))
structure JRn where
  i : Nat
  acc : List DR
def lRuns (g : GRn) : Loops := fun id st => match Nat.beq id 0, Nat.beq id 2, Nat.beq id 4 with
  | true, _, _ => some { γ := Nat, slots := [8, 7], vals := fun b f => [I f, .sl b 3 0 (runsTo g.l g.most f).length], rekey := [7], blks := fun b f => [(b, .arr DR dDR encDR (runsTo g.l g.most f))], inv := fun f => f ≤ 4, μ := fun f => 4 - f }
  | _, true, _ => withInt st 8 fun f => some { γ := JRn, slots := [9, 7], vals := fun b q => [I q.i, .sl b 3 0 q.acc.length], rekey := [7], blks := fun b q => [(b, .arr DR dDR encDR q.acc)], inv := fun q => q.i ≤ 16 ∧ q.acc ++ sc g.l g.most f q.i = runsTo g.l g.most (f.toNat + 1), μ := fun q => 16 - q.i }
  | _, _, true => withInt st 8 fun f => withInt st 9 fun i => some { γ := Nat, slots := [10], vals := fun _ n => [I n], inv := fun n => n ≤ run (H g.l f) i.toNat (min g.most.toNat (16 - i.toNat)), μ := fun n => 17 - n }
  | _, _, _ => none
theorem vRuns_eq : (cRuns.body (fun g => env tabR (lRuns g)) Try.f22) = (∀ (g : GRn), List.length (GRn.l g) ≤ (1000000000 : Nat) ∧ GRn.most g ≤ (9223372036854775807 : Int) → ∃ (g_1 : List DP), SV.ro DP dDP encDP (GRn.l g) = SV.ro DP dDP encDP g_1 ∧ True
  ∧ List.length g_1 ≤ (1000000000 : Nat) ∧ ∀ (b : Unit), True → ((chk g_1 != (0 : Int)) = true → ∃ (b : Unit), True ∧ (((SV.val (Value.slice none (0 : Nat) (0 : Nat)) = SV.val
  (Value.slice none (0 : Nat) (0 : Nat)) ∧ (0 : Nat) = (0 : Nat) ∧ List.length (runsO g) = (0 : Nat)) ∧ SV.val (Value.int IntKind.i64 (chk g_1)) = SV.val (Value.int IntKind.i64
  (runsE g))) ∧ (∀ (x : DR), allFlat (encDR x) = true) ∧ runsO g = [] ∧ ∀ (x : DR), (3 : Nat) = (3 : Nat) ∧ allOne (encDR x) = true) ∧ (0 : Nat) = (0 : Nat) ∧ True) ∧ ((chk g_1 != (0
  : Int)) = false → (decide (GRn.most g < (1 : Int)) = true → ∃ (b : Unit), True ∧ (((SV.val (Value.slice none (0 : Nat) (0 : Nat)) = SV.val (Value.slice none (0 : Nat) (0 : Nat)) ∧
  (0 : Nat) = (0 : Nat) ∧ List.length (runsO g) = (0 : Nat)) ∧ SV.val (Value.int IntKind.i64 (2 : Int)) = SV.val (Value.int IntKind.i64 (runsE g))) ∧ (∀ (x : DR), allFlat (encDR x) =
  true) ∧ runsO g = [] ∧ ∀ (x : DR), (3 : Nat) = (3 : Nat) ∧ allOne (encDR x) = true) ∧ (0 : Nat) = (0 : Nat) ∧ True) ∧ (decide (GRn.most g < (1 : Int)) = false → (∃ (g_2 : Nat), g_2
  ≤ (4 : Nat) ∧ ((0 : Int) = (↑g_2 : Int) ∧ (0 : Nat) = (0 : Nat) ∧ List.length (runsTo (GRn.l g) (GRn.most g) g_2) = (0 : Nat)) ∧ ((runsTo (GRn.l g) (GRn.most g) g_2 = [] ∧ ∀ (x :
  DR), (3 : Nat) = (3 : Nat) ∧ allOne (encDR x) = true) ∧ True) ∧ True) ∧ ∀ (g_2 : Nat), g_2 ≤ (4 : Nat) → (decide ((↑g_2 : Int) < (4 : Int)) = true → (∃ (g_3 : JRn), (JRn.i g_3 ≤
  (16 : Nat) ∧ JRn.acc g_3 ++ sc (GRn.l g) (GRn.most g) (↑g_2 : Int) (JRn.i g_3) = runsTo (GRn.l g) (GRn.most g) (Int.toNat (↑g_2 : Int) + (1 : Nat))) ∧ ((0 : Int) = (↑(JRn.i g_3) :
  Int) ∧ (3 : Nat) = (3 : Nat) ∧ (0 : Nat) = (0 : Nat) ∧ List.length (runsTo (GRn.l g) (GRn.most g) g_2) = List.length (JRn.acc g_3)) ∧ (LB.arr DR dDR encDR (runsTo (GRn.l g)
  (GRn.most g) g_2) = LB.arr DR dDR encDR (JRn.acc g_3) ∧ True) ∧ True) ∧ ∀ (g_3 : JRn), JRn.i g_3 ≤ (16 : Nat) ∧ JRn.acc g_3 ++ sc (GRn.l g) (GRn.most g) (↑g_2 : Int) (JRn.i g_3) =
  runsTo (GRn.l g) (GRn.most g) (Int.toNat (↑g_2 : Int) + (1 : Nat)) → (decide ((↑(JRn.i g_3) : Int) < (16 : Int)) = true → (∃ (g_4 : Nat), g_4 ≤ run (H (GRn.l g) (↑g_2 : Int))
  (Int.toNat (↑(JRn.i g_3) : Int)) (min (Int.toNat (GRn.most g)) ((16 : Nat) - Int.toNat (↑(JRn.i g_3) : Int))) ∧ (0 : Int) = (↑g_4 : Int) ∧ True ∧ LB.arr DR dDR encDR (JRn.acc g_3)
  = LB.arr DR dDR encDR (JRn.acc g_3) ∧ True) ∧ ∀ (g_4 : Nat), g_4 ≤ run (H (GRn.l g) (↑g_2 : Int)) (Int.toNat (↑(JRn.i g_3) : Int)) (min (Int.toNat (GRn.most g)) ((16 : Nat) -
  Int.toNat (↑(JRn.i g_3) : Int))) → (decide ((↑g_4 : Int) < GRn.most g) = true → inK IntKind.i64 ((↑(JRn.i g_3) : Int) + (↑g_4 : Int)) ∧ (decide ((↑(JRn.i g_3) : Int) + (↑g_4 : Int)
  < (16 : Int)) = true → inK IntKind.i64 ((↑(JRn.i g_3) : Int) + (↑g_4 : Int)) ∧ ∃ (g_5 : GHas), (SV.ro DP dDP encDP (GRn.l g) = SV.ro DP dDP encDP (GHas.l g_5) ∧ SV.val (Value.int
  IntKind.i64 (↑g_2 : Int)) = SV.val (Value.int IntKind.i64 (GHas.f g_5)) ∧ SV.val (Value.int IntKind.i64 ((↑(JRn.i g_3) : Int) + (↑g_4 : Int))) = SV.val (Value.int IntKind.i64
  (GHas.i g_5))) ∧ True ∧ List.length (GHas.l g_5) ≤ (1000000000 : Nat) ∧ ∀ (b : Unit), True → (has (GHas.l g_5) (GHas.f g_5) (GHas.i g_5) = true → inK IntKind.i64 ((↑g_4 : Int) + (1
  : Int)) ∧ ∃ (g' : Nat), g' ≤ run (H (GRn.l g) (↑g_2 : Int)) (Int.toNat (↑(JRn.i g_3) : Int)) (min (Int.toNat (GRn.most g)) ((16 : Nat) - Int.toNat (↑(JRn.i g_3) : Int))) ∧ (17 :
  Nat) - g' < (17 : Nat) - g_4 ∧ (↑g_4 : Int) + (1 : Int) = (↑g' : Int) ∧ True ∧ LB.arr DR dDR encDR (JRn.acc g_3) = LB.arr DR dDR encDR (JRn.acc g_3) ∧ True) ∧ (has (GHas.l g_5)
  (GHas.f g_5) (GHas.i g_5) = false → (((↑g_4 : Int) == (0 : Int)) = true → inK IntKind.i64 ((↑(JRn.i g_3) : Int) + (1 : Int)) ∧ ∃ (g' : JRn), (JRn.i g' ≤ (16 : Nat) ∧ JRn.acc g' ++
  sc (GRn.l g) (GRn.most g) (↑g_2 : Int) (JRn.i g') = runsTo (GRn.l g) (GRn.most g) (Int.toNat (↑g_2 : Int) + (1 : Nat))) ∧ (16 : Nat) - JRn.i g' < (16 : Nat) - JRn.i g_3 ∧ ((↑(JRn.i
  g_3) : Int) + (1 : Int) = (↑(JRn.i g') : Int) ∧ (3 : Nat) = (3 : Nat) ∧ (0 : Nat) = (0 : Nat) ∧ List.length (JRn.acc g_3) = List.length (JRn.acc g')) ∧ (LB.arr DR dDR encDR
  (JRn.acc g_3) = LB.arr DR dDR encDR (JRn.acc g') ∧ True) ∧ True) ∧ (((↑g_4 : Int) == (0 : Int)) = false → (0 : Nat) + List.length (JRn.acc g_3) ≤ List.length (JRn.acc g_3) ∧ ∃ (ys
  : List DR), [[SV.val (Value.int IntKind.i64 (↑g_2 : Int)), SV.val (Value.int IntKind.i64 (↑(JRn.i g_3) : Int)), SV.val (Value.int IntKind.i64 (↑g_4 : Int))]] = List.map encDR ys ∧
  (List.length (JRn.acc g_3) + List.length ys) * (24 : Nat) ≤ (140737488355328 : Nat) ∧ inK IntKind.i64 ((↑(JRn.i g_3) : Int) + (↑g_4 : Int)) ∧ ∃ (g' : JRn), (JRn.i g' ≤ (16 : Nat) ∧
  JRn.acc g' ++ sc (GRn.l g) (GRn.most g) (↑g_2 : Int) (JRn.i g') = runsTo (GRn.l g) (GRn.most g) (Int.toNat (↑g_2 : Int) + (1 : Nat))) ∧ (16 : Nat) - JRn.i g' < (16 : Nat) - JRn.i
  g_3 ∧ ((↑(JRn.i g_3) : Int) + (↑g_4 : Int) = (↑(JRn.i g') : Int) ∧ (3 : Nat) = (3 : Nat) ∧ (0 : Nat) = (0 : Nat) ∧ List.length (JRn.acc g_3) + List.length ys = List.length (JRn.acc
  g')) ∧ (LB.arr DR dDR encDR (List.take (List.length (JRn.acc g_3)) (List.drop (0 : Nat) (JRn.acc g_3)) ++ ys) = LB.arr DR dDR encDR (JRn.acc g') ∧ True) ∧ True))) ∧ (decide
  ((↑(JRn.i g_3) : Int) + (↑g_4 : Int) < (16 : Int)) = false → (((↑g_4 : Int) == (0 : Int)) = true → inK IntKind.i64 ((↑(JRn.i g_3) : Int) + (1 : Int)) ∧ ∃ (g' : JRn), (JRn.i g' ≤
  (16 : Nat) ∧ JRn.acc g' ++ sc (GRn.l g) (GRn.most g) (↑g_2 : Int) (JRn.i g') = runsTo (GRn.l g) (GRn.most g) (Int.toNat (↑g_2 : Int) + (1 : Nat))) ∧ (16 : Nat) - JRn.i g' < (16 :
  Nat) - JRn.i g_3 ∧ ((↑(JRn.i g_3) : Int) + (1 : Int) = (↑(JRn.i g') : Int) ∧ (3 : Nat) = (3 : Nat) ∧ (0 : Nat) = (0 : Nat) ∧ List.length (JRn.acc g_3) = List.length (JRn.acc g')) ∧
  (LB.arr DR dDR encDR (JRn.acc g_3) = LB.arr DR dDR encDR (JRn.acc g') ∧ True) ∧ True) ∧ (((↑g_4 : Int) == (0 : Int)) = false → (0 : Nat) + List.length (JRn.acc g_3) ≤ List.length
  (JRn.acc g_3) ∧ ∃ (ys : List DR), [[SV.val (Value.int IntKind.i64 (↑g_2 : Int)), SV.val (Value.int IntKind.i64 (↑(JRn.i g_3) : Int)), SV.val (Value.int IntKind.i64 (↑g_4 : Int))]]
  = List.map encDR ys ∧ (List.length (JRn.acc g_3) + List.length ys) * (24 : Nat) ≤ (140737488355328 : Nat) ∧ inK IntKind.i64 ((↑(JRn.i g_3) : Int) + (↑g_4 : Int)) ∧ ∃ (g' : JRn),
  (JRn.i g' ≤ (16 : Nat) ∧ JRn.acc g' ++ sc (GRn.l g) (GRn.most g) (↑g_2 : Int) (JRn.i g') = runsTo (GRn.l g) (GRn.most g) (Int.toNat (↑g_2 : Int) + (1 : Nat))) ∧ (16 : Nat) - JRn.i
  g' < (16 : Nat) - JRn.i g_3 ∧ ((↑(JRn.i g_3) : Int) + (↑g_4 : Int) = (↑(JRn.i g') : Int) ∧ (3 : Nat) = (3 : Nat) ∧ (0 : Nat) = (0 : Nat) ∧ List.length (JRn.acc g_3) + List.length
  ys = List.length (JRn.acc g')) ∧ (LB.arr DR dDR encDR (List.take (List.length (JRn.acc g_3)) (List.drop (0 : Nat) (JRn.acc g_3)) ++ ys) = LB.arr DR dDR encDR (JRn.acc g') ∧ True) ∧
  True))) ∧ (decide ((↑g_4 : Int) < GRn.most g) = false → (((↑g_4 : Int) == (0 : Int)) = true → inK IntKind.i64 ((↑(JRn.i g_3) : Int) + (1 : Int)) ∧ ∃ (g' : JRn), (JRn.i g' ≤ (16 :
  Nat) ∧ JRn.acc g' ++ sc (GRn.l g) (GRn.most g) (↑g_2 : Int) (JRn.i g') = runsTo (GRn.l g) (GRn.most g) (Int.toNat (↑g_2 : Int) + (1 : Nat))) ∧ (16 : Nat) - JRn.i g' < (16 : Nat) -
  JRn.i g_3 ∧ ((↑(JRn.i g_3) : Int) + (1 : Int) = (↑(JRn.i g') : Int) ∧ (3 : Nat) = (3 : Nat) ∧ (0 : Nat) = (0 : Nat) ∧ List.length (JRn.acc g_3) = List.length (JRn.acc g')) ∧
  (LB.arr DR dDR encDR (JRn.acc g_3) = LB.arr DR dDR encDR (JRn.acc g') ∧ True) ∧ True) ∧ (((↑g_4 : Int) == (0 : Int)) = false → (0 : Nat) + List.length (JRn.acc g_3) ≤ List.length
  (JRn.acc g_3) ∧ ∃ (ys : List DR), [[SV.val (Value.int IntKind.i64 (↑g_2 : Int)), SV.val (Value.int IntKind.i64 (↑(JRn.i g_3) : Int)), SV.val (Value.int IntKind.i64 (↑g_4 : Int))]]
  = List.map encDR ys ∧ (List.length (JRn.acc g_3) + List.length ys) * (24 : Nat) ≤ (140737488355328 : Nat) ∧ inK IntKind.i64 ((↑(JRn.i g_3) : Int) + (↑g_4 : Int)) ∧ ∃ (g' : JRn),
  (JRn.i g' ≤ (16 : Nat) ∧ JRn.acc g' ++ sc (GRn.l g) (GRn.most g) (↑g_2 : Int) (JRn.i g') = runsTo (GRn.l g) (GRn.most g) (Int.toNat (↑g_2 : Int) + (1 : Nat))) ∧ (16 : Nat) - JRn.i
  g' < (16 : Nat) - JRn.i g_3 ∧ ((↑(JRn.i g_3) : Int) + (↑g_4 : Int) = (↑(JRn.i g') : Int) ∧ (3 : Nat) = (3 : Nat) ∧ (0 : Nat) = (0 : Nat) ∧ List.length (JRn.acc g_3) + List.length
  ys = List.length (JRn.acc g')) ∧ (LB.arr DR dDR encDR (List.take (List.length (JRn.acc g_3)) (List.drop (0 : Nat) (JRn.acc g_3)) ++ ys) = LB.arr DR dDR encDR (JRn.acc g') ∧ True) ∧
  True))) ∧ (decide ((↑(JRn.i g_3) : Int) < (16 : Int)) = false → inK IntKind.i64 ((↑g_2 : Int) + (1 : Int)) ∧ ∃ (g' : Nat), g' ≤ (4 : Nat) ∧ (4 : Nat) - g' < (4 : Nat) - g_2 ∧
  ((↑g_2 : Int) + (1 : Int) = (↑g' : Int) ∧ (3 : Nat) = (3 : Nat) ∧ (0 : Nat) = (0 : Nat) ∧ List.length (JRn.acc g_3) = List.length (runsTo (GRn.l g) (GRn.most g) g')) ∧ (LB.arr DR
  dDR encDR (JRn.acc g_3) = LB.arr DR dDR encDR (runsTo (GRn.l g) (GRn.most g) g') ∧ True) ∧ True)) ∧ (decide ((↑g_2 : Int) < (4 : Int)) = false → ∃ (b : Unit), True ∧ (((SV.sl (96 :
  Nat) (3 : Nat) (0 : Nat) (List.length (runsTo (GRn.l g) (GRn.most g) g_2)) = SV.sl (96 : Nat) (3 : Nat) (0 : Nat) (List.length (runsTo (GRn.l g) (GRn.most g) g_2)) ∧ (0 : Nat) = (0
  : Nat) ∧ (3 : Nat) = (3 : Nat) ∧ List.length (runsTo (GRn.l g) (GRn.most g) g_2) = List.length (runsO g)) ∧ SV.val (Value.int IntKind.i64 (0 : Int)) = SV.val (Value.int IntKind.i64
  (runsE g))) ∧ (∀ (x : DR), allFlat (encDR x) = true) ∧ (0 : Nat) + List.length (runsTo (GRn.l g) (GRn.most g) g_2) ≤ List.length (runsTo (GRn.l g) (GRn.most g) g_2) ∧ LB.arr DR dDR
  encDR (List.take (List.length (runsTo (GRn.l g) (GRn.most g) g_2)) (List.drop (0 : Nat) (runsTo (GRn.l g) (GRn.most g) g_2))) = LB.arr DR dDR encDR (runsO g)) ∧ (0 : Nat) = (0 :
  Nat) ∧ True)))) := by kernel_rfl

theorem flDP : ∀ x : DP, allFlat (encDP x) = true := fun _ => rfl
theorem flDR : ∀ x : DR, allFlat (encDR x) = true := fun _ => rfl
theorem vCompareP : cCompareP.body (fun g => env [(41, cOr), (42, cCmp)] (noLoops g)) Try.f40 := by
  rw [vCompareP_eq]
  rintro ⟨a, b⟩ _
  exact ⟨(_, _), ⟨rfl, rfl⟩, trivial, trivial, fun _ _ => ⟨(_, _), ⟨rfl, rfl⟩, trivial, trivial, fun _ _ => ⟨[_, _], ⟨rfl, fun _ => ⟨rfl, rfl⟩⟩, trivial, Nat.le_trans (show 2 ≤ 1000 by decide) (Nat.le_refl _), fun _ _ => ⟨(), trivial, rfl, rfl, trivial⟩⟩⟩⟩
theorem sCompareP : SpecOk P 40 cCompareP.spec := spec_of cCompareP (tab_cons sOr (tab_cons sCmp (tab_nil P))) mixed (fn := Try.f40) (by kernel_rfl) (by kernel_rfl) (by kernel_rfl) (Nat.zero_le _) (noIns fun _ => rfl) vCompareP
theorem compareP_lt (a b : PL) : compareP a b < 0 ↔ (a.file < b.file ∨ (a.file = b.file ∧ a.index < b.index)) := by
  simp only [compareP, orI, cmpI]
  repeat' split
  all_goals omega
theorem swoDP : Sort.SWO (ltOf compareI) := by
  refine ⟨fun x => ?_, fun x y z => ?_, fun x y z => ?_⟩
  · simp only [ltOf, decide_eq_false_iff_not, compareI_lt]; exact lex_irrefl x
  · simp only [ltOf, decide_eq_true_eq, compareI_lt]; exact lex_trans
  · simp only [ltOf, decide_eq_false_iff_not, compareI_lt]; exact lex_ntrans
theorem swoPL : Sort.SWO (ltOf compareP) := by
  refine ⟨fun x => ?_, fun x y z => ?_, fun x y z => ?_⟩
  · simp only [ltOf, decide_eq_false_iff_not, compareP_lt]; omega
  · simp only [ltOf, decide_eq_true_eq, compareP_lt]; omega
  · simp only [ltOf, decide_eq_false_iff_not, compareP_lt]; omega
theorem fn30 : FnOk P 30 := ⟨Try.f30, by kernel_rfl, by kernel_rfl, by kernel_rfl⟩
theorem fn39 : FnOk P 39 := ⟨Try.f39, by kernel_rfl, by kernel_rfl, by kernel_rfl⟩
theorem sSort : SpecOk P 30 cSort.spec :=
  sort_spec Try.sortDP 3 (by decide) (fun w => by kernel_rfl) (fun w => by kernel_rfl) dDP vDP (fun _ => rfl) (fun x v hv => by
    simp only [vDP, List.mem_cons, List.not_mem_nil, or_false] at hv
    rcases hv with rfl | rfl | rfl <;> rfl) compareI swoDP 31 sCompare (fun x y => ⟨(x, y), ⟨⟨rfl, rfl, rfl, trivial⟩, ⟨rfl, rfl, rfl, trivial⟩⟩, trivial, trivial, fun _ _ => rfl⟩) fn30
theorem sSortP : SpecOk P 39 cSortP.spec :=
  sort_spec Try.sortPL 2 (by decide) (fun w => by kernel_rfl) (fun w => by kernel_rfl) dPL vPL (fun _ => rfl) (fun x v hv => by
    simp only [vPL, List.mem_cons, List.not_mem_nil, or_false] at hv
    rcases hv with rfl | rfl <;> rfl) compareP swoPL 40 sCompareP (fun x y => ⟨(x, y), ⟨⟨rfl, rfl, trivial⟩, ⟨rfl, rfl, trivial⟩⟩, trivial, trivial, fun _ _ => rfl⟩) fn39

theorem vWNext : cNext.body (fun g => env [(14, cWCheck), (36, cMin), (35, cIndex)] (noLoops g)) Try.f16 := by
  rw [vWNext_eq]
  intro l hl
  refine ⟨fun h => ⟨(), trivial, ?_, rfl, trivial⟩, fun h => ⟨l, rfl, trivial, hl, fun _ _ => ⟨fun hc => ⟨(), trivial, ?_, rfl, trivial⟩, fun hc => ?_⟩⟩⟩
  · have h : (l.length : Int) = 0 := by simpa using h
    have : l = [] := List.eq_nil_of_length_eq_zero (by omega)
    subst this
    rw [nxt_empty]
  · have hc : chk l ≠ 0 := by simpa using hc
    rw [nxt, if_neg hc]
  · have h : (l.length : Int) ≠ 0 := by simpa using h
    have hc : chk l = 0 := by simpa using hc
    refine ⟨l, ⟨rfl, rfl, trivial⟩, trivial, ⟨hl, by omega⟩, fun _ _ => ⟨(l, minTo l l.length), ⟨rfl, rfl, rfl, rfl, trivial⟩, trivial, hl, fun _ _ => ⟨(), trivial, ?_, rfl, trivial⟩⟩⟩
    rw [nxt_law hc (by omega)]
theorem sWNext : SpecOk P 16 cNext.spec := spec_of cNext (tab_cons sWCheck (tab_cons sMin (tab_cons sIndex (tab_nil P)))) mixed (fn := Try.f16) (by kernel_rfl) (by kernel_rfl) (by kernel_rfl) (Nat.zero_le _) (noIns fun _ => rfl) vWNext

theorem vWOrder : cOrder.body (fun g => env [(14, cWCheck), (28, cClone), (30, cSort)] (noLoops g)) Try.f12 := by
  rw [vWOrder_eq]
  intro l hl
  refine ⟨l, rfl, trivial, hl, fun _ _ => ⟨fun hc => ?_, fun hc => ?_⟩⟩
  · have hc : chk l ≠ 0 := by simpa using hc
    have ho : ordO l = [] := by rw [ordO, if_neg hc]
    rw [ho]
    exact ⟨(), trivial, ⟨⟨⟨rfl, rfl, rfl⟩, rfl⟩, flDP, rfl, okDP⟩, rfl, trivial⟩
  · have hc : chk l = 0 := by simpa using hc
    have ho : ordO l = ordR l := by rw [ordO, if_pos hc]
    refine ⟨l, rfl, trivial, hl, fun _ _ => ⟨l, ⟨⟨rfl, rfl, rfl⟩, rfl, trivial⟩, rfl, by omega, fun d hd => ⟨(), trivial, ⟨⟨⟨rfl, rfl, rfl, ?_⟩, by rw [hc]⟩, flDP, ?_, ?_⟩, rfl, trivial⟩⟩⟩
    · rw [ho, (ordR_perm l).length_eq]
    · rw [Nat.zero_add, hd.1.length_eq]; exact Nat.le_refl _
    · rw [ho, List.drop_zero, ← hd.1.length_eq, List.take_length, ordR_unique hd.1 hd.2]
theorem sWOrder : SpecOk P 12 cOrder.spec := spec_of cOrder (tab_cons sWCheck (tab_cons sClone (tab_cons sSort (tab_nil P)))) mixed (fn := Try.f12) (by kernel_rfl) (by kernel_rfl) (by kernel_rfl) (Nat.zero_le _) (noIns fun _ => rfl) vWOrder

theorem vWExp : cExp.body (fun g => env [(12, cOrder), (37, cDelE)] (noLoops g)) Try.f19 := by
  rw [vWExp_eq]
  rintro ⟨l, now, age⟩ ⟨hl, hn, hs⟩
  dsimp only at hl hn hs ⊢
  have bad : ∀ e : Int, expE ⟨l, now, age⟩ = e → e ≠ 0 → expO ⟨l, now, age⟩ = [] := fun e h h0 => by rw [expO, if_neg (by rw [h]; exact h0)]
  refine ⟨l, rfl, trivial, hl, fun _ _ => ⟨fun hc => ?_, fun hc => ⟨fun h1 => ?_, fun h1 => ⟨fun h2 => ?_, fun h2 => ?_⟩⟩⟩⟩
  · have hc : chk l ≠ 0 := by simpa using hc
    have he : expE ⟨l, now, age⟩ = chk l := by rw [expE, if_neg hc]
    rw [bad _ he hc, he]
    exact ⟨(), trivial, ⟨⟨⟨rfl, rfl, rfl⟩, rfl⟩, flDP, rfl, okDP⟩, rfl, trivial⟩
  all_goals
    have hc : chk l = 0 := by simpa using hc
    simp only [decide_eq_true_eq, decide_eq_false_iff_not] at h1
    try simp only [decide_eq_true_eq, decide_eq_false_iff_not] at h2
  · have he : expE ⟨l, now, age⟩ = 2 := by rw [expE, if_pos hc, if_pos (.inl h1)]
    rw [bad _ he (by decide), he]
    exact ⟨(), trivial, ⟨⟨⟨rfl, rfl, rfl⟩, rfl⟩, flDP, rfl, okDP⟩, rfl, trivial⟩
  · have he : expE ⟨l, now, age⟩ = 2 := by rw [expE, if_pos hc, if_pos (.inr h2)]
    rw [bad _ he (by decide), he]
    exact ⟨(), trivial, ⟨⟨⟨rfl, rfl, rfl⟩, rfl⟩, flDP, rfl, okDP⟩, rfl, trivial⟩
  · have he : expE ⟨l, now, age⟩ = 0 := by rw [expE, if_pos hc, if_neg (by dsimp only; omega)]
    have ho : expO ⟨l, now, age⟩ = keep (delE now age) (ordO l) := by rw [expO, if_pos he, keep_old, ordO, if_pos hc]
    have hol := ordO_length l
    refine ⟨⟨ordO l, now, age⟩, ⟨⟨rfl, rfl, rfl⟩, rfl, rfl, rfl, trivial⟩, ⟨rfl, rfl, rfl⟩, ⟨by dsimp only; omega, fun p hp => ?_⟩, fun d hd => ⟨(), trivial, ⟨⟨⟨rfl, rfl, rfl, by rw [ho]⟩, by rw [he]⟩, flDP, ?_, ?_⟩, rfl, trivial⟩⟩
    · dsimp only at hp ⊢
      rw [ordO_mem hc] at hp
      have h1' := hs p hp
      have h2' := okP_iff.1 (List.all_eq_true.1 (chk_ok hc) p hp)
      exact inI (by omega) (by omega)
    · have hk : (keep (delE now age) (ordO l)).length ≤ (ordO l).length := List.length_filter_le _ _
      have hd1 := hd.1
      dsimp only at hd1 ⊢
      omega
    · rw [List.drop_zero, hd.2, ho]
theorem sWExp : SpecOk P 19 cExp.spec := spec_of cExp (tab_cons sWOrder (tab_cons sDelE (tab_nil P))) mixed (fn := Try.f19) (by kernel_rfl) (by kernel_rfl) (by kernel_rfl) (Nat.zero_le _) (noIns fun _ => rfl) vWExp

theorem vWWr : cWr.body (fun g => env [(14, cWCheck), (33, cPage), (28, cClone), (37, cDelW)] (noLoops g)) Try.f24 := by
  rw [vWWr_eq]
  rintro ⟨l, r⟩ hl
  dsimp only at hl ⊢
  have bad : ∀ e : Int, wrE ⟨l, r⟩ = e → e ≠ 0 → wrO ⟨l, r⟩ = [] := fun e h h0 => by rw [wrO, if_neg (by rw [h]; exact h0)]
  have fin : ∀ e : Int, wrE ⟨l, r⟩ = e → e ≠ 0 → ∃ (b : Unit), True ∧ (((SV.val (Value.slice none 0 0) = SV.val (Value.slice none 0 0) ∧ (0 : Nat) = 0 ∧ (wrO ⟨l, r⟩).length = 0) ∧ I e = I (wrE ⟨l, r⟩)) ∧ (∀ x : DP, allFlat (encDP x) = true) ∧ wrO ⟨l, r⟩ = [] ∧ ∀ x : DP, (3 : Nat) = 3 ∧ allOne (encDP x) = true) ∧ (0 : Nat) = 0 ∧ True := fun e h h0 => by
    rw [bad e h h0, h]
    exact ⟨(), trivial, ⟨⟨⟨rfl, rfl, rfl⟩, rfl⟩, flDP, rfl, okDP⟩, rfl, trivial⟩
  have isb : ∀ b, badRun r = b ↔ (!(isPage r.file r.index) || decide (r.count < 1) || decide (r.count > 16 - r.index)) = b := fun b => by
    have : badRun r = (!(isPage r.file r.index) || decide (r.count < 1) || decide (r.count > 16 - r.index)) := by
      rw [Bool.eq_iff_iff]
      unfold badRun
      simp only [Bool.or_eq_true, decide_eq_true_eq, Bool.not_eq_true', Bool.eq_false_iff, ne_eq, isPage_iff]
      omega
    rw [this]
  refine ⟨l, rfl, trivial, hl, fun _ _ => ⟨fun hc => ?_, fun hc => ⟨(_, _), ⟨rfl, rfl⟩, trivial, trivial, fun _ _ => ⟨fun h1 => ?_, fun h1 => ⟨fun h2 => ?_, fun h2 => ?_⟩⟩⟩⟩⟩
  · have hc : chk l ≠ 0 := by simpa using hc
    have he : wrE ⟨l, r⟩ = chk l := by rw [wrE, if_neg hc]
    exact fin _ he hc
  all_goals have hc : chk l = 0 := by simpa using hc
  all_goals dsimp only at h1
  · exact fin 2 (by rw [wrE, if_pos hc, if_pos ((isb true).2 (by rw [h1]; simp))]) (by decide)
  · exact fin 2 (by rw [wrE, if_pos hc, if_pos ((isb true).2 (by rw [h2]; simp))]) (by decide)
  have hp : isPage r.file r.index = true := by simpa using h1
  have hpp := isPage_iff.1 hp
  refine ⟨inI (by omega) (by omega), fun h3 => fin 2 (by rw [wrE, if_pos hc, if_pos ((isb true).2 (by rw [h3]; simp))]) (by decide), fun h3 => ?_⟩
  have hb : badRun r = false := (isb false).2 (by rw [h1, h2, h3]; rfl)
  have hw := wr_count hc hb
  simp only [decide_eq_false_iff_not] at h2 h3
  have hk := len_keep (delW r) l
  refine ⟨l, rfl, trivial, hl, fun _ _ => ⟨⟨l, r⟩, ⟨⟨rfl, rfl, rfl⟩, rfl, rfl, trivial⟩, ⟨rfl, rfl⟩, ⟨hl, inI (by dsimp only; omega) (by dsimp only; omega)⟩, fun d hd => ⟨inI (by dsimp only; omega) (by dsimp only; omega), fun hne => fin 6 ?_ (by decide), fun he => ?_⟩⟩⟩
  · have hne : ¬ ((l.length : Int) - (keep (delW r) l).length = r.count) := by simpa using hne
    rw [wrE, if_pos hc, if_neg (by rw [hb]; decide), if_neg (fun h => hne (hw.2 h))]
  · have he : (l.length : Int) - (keep (delW r) l).length = r.count := by simpa using he
    have h0 : wrE ⟨l, r⟩ = 0 := by rw [wrE, if_pos hc, if_neg (by rw [hb]; decide), if_pos (hw.1 he)]
    have ho : wrO ⟨l, r⟩ = keep (delW r) l := by rw [wrO, if_pos h0, keep_inRun]
    refine ⟨(), trivial, ⟨⟨⟨rfl, rfl, rfl, by rw [ho]⟩, by rw [h0]⟩, flDP, ?_, ?_⟩, rfl, trivial⟩
    · have hd1 := hd.1
      dsimp only at hd1 ⊢
      omega
    · rw [List.drop_zero, hd.2, ho]
theorem scan_len (H : Nat → Bool) (most : Nat) : ∀ k i, (scan H most k i).length ≤ 16 - i
  | 0, _ => by simp [scan]
  | k + 1, i => by
    unfold scan
    split
    · simp
    · split
      · have := scan_len H most k (i + 1); omega
      · rename_i h1 h2
        have := scan_len H most k (i + run H i (min most (16 - i)))
        have := run_le H (min most (16 - i)) i
        simp only [List.length_cons]; omega
theorem scan_fuel (H : Nat → Bool) (most : Nat) : ∀ k k' i, 16 - i ≤ k → 16 - i ≤ k' → scan H most k i = scan H most k' i
  | 0, 0, _, _, _ => rfl
  | 0, k' + 1, i, h, _ => by unfold scan; rw [if_pos (by omega)]
  | k + 1, 0, i, _, h => by unfold scan; rw [if_pos (by omega)]
  | k + 1, k' + 1, i, h, h' => by
    unfold scan
    split
    · rfl
    · rw [scan_fuel H most k k' (i + 1) (by omega) (by omega)]
      split
      · rfl
      · rw [scan_fuel H most k k' (i + run H i (min most (16 - i))) (by omega) (by omega)]
theorem sc_end {l : List DP} {most f : Int} {i : Nat} (h : 16 ≤ i) : sc l most f i = [] := by
  unfold sc scan; rw [if_pos h]; rfl
theorem sc_skip {l : List DP} {most f : Int} {i : Nat} (h : i < 16) (h0 : run (H l f) i (min most.toNat (16 - i)) = 0) : sc l most f i = sc l most f (i + 1) := by
  unfold sc
  rw [scan, if_neg (by omega), if_pos h0, scan_fuel _ _ 15 16 _ (by omega) (by omega)]
theorem sc_take {l : List DP} {most f : Int} {i n : Nat} (h : i < 16) (hn : run (H l f) i (min most.toNat (16 - i)) = n) (h0 : n ≠ 0) : sc l most f i = ⟨f, i, n⟩ :: sc l most f (i + n) := by
  unfold sc
  rw [scan, if_neg (by omega), if_neg (by omega), hn, scan_fuel _ _ 15 16 _ (by omega) (by omega)]
  rfl
theorem runsTo_len (l : List DP) (most : Int) : ∀ f, (runsTo l most f).length ≤ 16 * f
  | 0 => by simp [runsTo]
  | f + 1 => by
    have h1 := runsTo_len l most f
    have h2 := scan_len (H l f) most.toNat 16 0
    unfold runsTo sc
    rw [List.length_append, List.length_map]; omega
theorem vRuns : cRuns.body (fun g => env tabR (lRuns g)) Try.f22 := by
  rw [vRuns_eq]
  rintro ⟨l, most⟩ ⟨hl, hm⟩
  dsimp only at hl hm ⊢
  have fin : ∀ e : Int, runsE ⟨l, most⟩ = e → e ≠ 0 → ∃ (b : Unit), True ∧ (((SV.val (Value.slice none 0 0) = SV.val (Value.slice none 0 0) ∧ (0 : Nat) = 0 ∧ (runsO ⟨l, most⟩).length = 0) ∧ I e = I (runsE ⟨l, most⟩)) ∧ (∀ x : DR, allFlat (encDR x) = true) ∧ runsO ⟨l, most⟩ = [] ∧ ∀ x : DR, (3 : Nat) = 3 ∧ allOne (encDR x) = true) ∧ (0 : Nat) = 0 ∧ True := fun e h h0 => by
    have ho : runsO ⟨l, most⟩ = [] := by rw [runsO, if_neg (by rw [h]; exact h0)]
    rw [ho, h]
    exact ⟨(), trivial, ⟨⟨⟨rfl, rfl, rfl⟩, rfl⟩, flDR, rfl, okDR⟩, rfl, trivial⟩
  refine ⟨l, rfl, trivial, hl, fun _ _ => ⟨fun hc => ?_, fun hc => ⟨fun h1 => ?_, fun h1 => ⟨⟨0, by omega, ⟨rfl, rfl, rfl⟩, ⟨⟨rfl, okDR⟩, trivial⟩, trivial⟩, fun f hf => ⟨fun hlt => ⟨⟨⟨0, runsTo l most f⟩, ⟨by dsimp only; omega, by rw [Int.toNat_natCast]; rfl⟩, ⟨rfl, rfl, rfl, rfl⟩, ⟨rfl, trivial⟩, trivial⟩, ?_⟩, fun hge => ?_⟩⟩⟩⟩⟩
  · have hc : chk l ≠ 0 := by simpa using hc
    exact fin _ (by rw [runsE, if_neg hc]) hc
  · have hc : chk l = 0 := by simpa using hc
    exact fin 2 (by rw [runsE, if_pos hc, if_pos (of_decide_eq_true h1)]) (by decide)
  · rintro ⟨i, acc⟩ ⟨hi, hacc⟩
    dsimp only at hi hacc ⊢
    have hlt : (f : Int) < 4 := of_decide_eq_true hlt
    have h1 : ¬ most < 1 := of_decide_eq_false h1
    rw [Int.toNat_natCast] at hacc ⊢
    have hal : acc.length ≤ 64 := by
      have := runsTo_len l most (f + 1)
      rw [← hacc, List.length_append] at this
      omega
    refine ⟨fun hi16 => ?_, fun hi16 => ?_⟩
    · have hi16 : (i : Int) < 16 := of_decide_eq_true hi16
      rw [Int.toNat_natCast]
      refine ⟨⟨0, Nat.zero_le _, rfl, trivial, rfl, trivial⟩, fun n hn => ?_⟩
      have hst := run_step (H l f) (min most.toNat (16 - i)) i n hn
      have hrl := run_le (H l f) (min most.toNat (16 - i)) i
      have skip : n = run (H l f) i (min most.toNat (16 - i)) → ((n : Int) == 0) = true → inK IntKind.i64 ((i : Int) + 1) ∧ ∃ (g' : JRn), (g'.i ≤ 16 ∧ g'.acc ++ sc l most f g'.i = runsTo l most (f + 1)) ∧ 16 - g'.i < 16 - i ∧ ((i : Int) + 1 = (g'.i : Int) ∧ (3 : Nat) = 3 ∧ (0 : Nat) = 0 ∧ acc.length = g'.acc.length) ∧ (LB.arr DR dDR encDR acc = LB.arr DR dDR encDR g'.acc ∧ True) ∧ True := fun he h0 => by
        have h0 : (n : Int) = 0 := by simpa using h0
        exact ⟨inI (by omega) (by omega), ⟨i + 1, acc⟩, ⟨by dsimp only; omega, by dsimp only; rw [← sc_skip (by omega) (by omega)]; exact hacc⟩, by dsimp only; omega, ⟨by dsimp only; omega, rfl, rfl, rfl⟩, ⟨rfl, trivial⟩, trivial⟩
      have take : n = run (H l f) i (min most.toNat (16 - i)) → ((n : Int) == 0) = false → 0 + acc.length ≤ acc.length ∧ ∃ (ys : List DR), [[I f, I i, I n]] = List.map encDR ys ∧ (acc.length + ys.length) * 24 ≤ 140737488355328 ∧ inK IntKind.i64 ((i : Int) + n) ∧ ∃ (g' : JRn), (g'.i ≤ 16 ∧ g'.acc ++ sc l most f g'.i = runsTo l most (f + 1)) ∧ 16 - g'.i < 16 - i ∧ ((i : Int) + n = (g'.i : Int) ∧ (3 : Nat) = 3 ∧ (0 : Nat) = 0 ∧ acc.length + ys.length = g'.acc.length) ∧ (LB.arr DR dDR encDR (List.take acc.length (List.drop 0 acc) ++ ys) = LB.arr DR dDR encDR g'.acc ∧ True) ∧ True := fun he h0 => by
        have h0 : (n : Int) ≠ 0 := by simpa using h0
        refine ⟨by omega, [⟨f, i, n⟩], rfl, by simp only [List.length_cons, List.length_nil]; omega, inI (by omega) (by omega), ⟨i + n, acc ++ [⟨f, i, n⟩]⟩, ⟨by dsimp only; omega, ?_⟩, by dsimp only; omega, ⟨by dsimp only; omega, rfl, rfl, by simp⟩, ⟨by rw [List.drop_zero, List.take_length], trivial⟩, trivial⟩
        dsimp only
        rw [← hacc, sc_take (by omega) he.symm (by omega), List.append_assoc]; rfl
      refine ⟨fun h2 => ⟨inI (by omega) (by omega), fun h3 => ⟨inI (by omega) (by omega), ⟨l, f, i + n⟩, ⟨rfl, rfl, rfl⟩, trivial, hl, fun _ _ => ⟨fun h4 => ?_, fun h4 => ?_⟩⟩, fun h3 => ?_⟩, fun h2 => ?_⟩
      · have h2 : (n : Int) < most := of_decide_eq_true h2
        have h3 : (i : Int) + n < 16 := of_decide_eq_true h3
        have hH : H l f (i + n) = true := by unfold H; push_cast; exact h4
        exact ⟨inI (by omega) (by omega), n + 1, by
          have : n ≠ run (H l f) i (min most.toNat (16 - i)) := fun e => hst.1 e ⟨by omega, hH⟩
          omega, by omega, by omega, trivial, rfl, trivial⟩
      · have hH : ¬ H l f (i + n) = true := by unfold H; push_cast; simpa using h4
        have he := hst.2 (fun h => hH h.2)
        exact ⟨skip he, take he⟩
      · have h3 : ¬ (i : Int) + n < 16 := of_decide_eq_false h3
        have he := hst.2 (fun h => by omega)
        exact ⟨skip he, take he⟩
      · have h2 : ¬ (n : Int) < most := of_decide_eq_false h2
        have he := hst.2 (fun h => by omega)
        exact ⟨skip he, take he⟩
    · have hi16 : ¬ (i : Int) < 16 := of_decide_eq_false hi16
      rw [sc_end (by omega), List.append_nil] at hacc
      exact ⟨inI (by omega) (by omega), f + 1, by omega, by omega, ⟨by omega, rfl, rfl, by rw [hacc]⟩, ⟨by rw [hacc], trivial⟩, trivial⟩
  · have hge : ¬ (f : Int) < 4 := of_decide_eq_false hge
    obtain rfl : f = 4 := by omega
    have hc : chk l = 0 := by simpa using hc
    have he : runsE ⟨l, most⟩ = 0 := by rw [runsE, if_pos hc, if_neg (of_decide_eq_false h1)]
    have ho : runsO ⟨l, most⟩ = runsTo l most 4 := by rw [runsO, if_pos he]
    exact ⟨(), trivial, ⟨⟨⟨rfl, rfl, rfl, by rw [ho]⟩, by rw [he]⟩, flDR, by omega, by rw [ho, List.drop_zero, List.take_length]⟩, rfl, trivial⟩
theorem sRuns : SpecOk P 22 cRuns.spec := spec_of cRuns tabR_ok mixed (fn := Try.f22) (by kernel_rfl) (by kernel_rfl) (by kernel_rfl) (Nat.zero_le _) (noIns fun _ => rfl) vRuns
theorem sWWr : SpecOk P 24 cWr.spec := spec_of cWr (tab_cons sWCheck (tab_cons sPage (tab_cons sClone (tab_cons sDelW (tab_nil P))))) mixed (fn := Try.f24) (by kernel_rfl) (by kernel_rfl) (by kernel_rfl) (Nat.zero_le _) (noIns fun _ => rfl) vWWr
end Go.Wb
