/- A PART OF THE PROOF. NO CONDITION. -/
import Derived.Test.YtnjgeljpkblodaaZnF
import Derived.Test.YtnjgeljpkblodaaSxAD
noncomputable section
set_option linter.unusedVariables false
set_option linter.unusedVariables false
set_option linter.unusedSimpArgs false
namespace Go.Zn
open Go.Proofs Go.SX
set_option maxRecDepth 100000

/-! SortFunc at twelve elements or fewer; SortStableFunc at twenty or fewer -/
def cPdqN : Con := { γ := GN × Int, β := Unit, keys := slKeys0, m := 1, args := fun g => [.sl 0 1 0 g.1.L.length, I 0, I g.1.L.length, I g.2, .clo 27 [bxI g.1.node]], ins := fun g => [.arr Int 0 encI g.1.L], pre := fun g => preN g.1, post := fun _ _ => True, res := fun _ _ => .tup [], outs := fun g _ => [.arr Int 0 encI (isR (cfN g.1.node) g.1.L)], new := fun _ _ => none }
def lPdqN (g : GN × Int) : Loops := loop1 0 { γ := Unit, slots := [1, 2], vals := fun _ _ => [I 0, I g.1.L.length], inv := fun _ => True, μ := fun _ => 0 }
theorem vPdqN_eq : (cPdqN.body (fun g => env [(46, cInsN)] (lPdqN g)) Try.f41) = (∀ (g : GN × Int), preN (Prod.fst g) → (∃ (g_1 : Unit), True ∧ ((0 : Int) = (0 : Int) ∧ (↑(List.length (GN.L (Prod.fst g))) : Int) = (↑(List.length (GN.L (Prod.fst g))) : Int)) ∧
  True ∧ LB.arr Int (0 : Int) encI (GN.L (Prod.fst g)) = LB.arr Int (0 : Int) encI (GN.L (Prod.fst g)) ∧ True) ∧ ∀ (g_1 : Unit), True → inK IntKind.i64 ((↑(List.length (GN.L
  (Prod.fst g))) : Int) - (0 : Int)) ∧ (decide ((↑(List.length (GN.L (Prod.fst g))) : Int) - (0 : Int) ≤ (12 : Int)) = true → ∃ (g_2 : GN), (((1 : Nat) = (1 : Nat) ∧ (0 : Nat) = (0 :
  Nat) ∧ List.length (GN.L (Prod.fst g)) = List.length (GN.L g_2)) ∧ SV.val (Value.int IntKind.i64 (0 : Int)) = SV.val (Value.int IntKind.i64 (0 : Int)) ∧ SV.val (Value.int
  IntKind.i64 (↑(List.length (GN.L (Prod.fst g))) : Int)) = SV.val (Value.int IntKind.i64 (↑(List.length (GN.L g_2)) : Int)) ∧ (27 : Nat) = (27 : Nat) ∧ SV.rop Int (0 : Int) encI
  [GN.node (Prod.fst g)] (0 : Nat) (0 : Nat) = SV.rop Int (0 : Int) encI [GN.node g_2] (0 : Nat) (0 : Nat) ∧ True) ∧ some (LB.arr Int (0 : Int) encI (GN.L (Prod.fst g))) = some
  (LB.arr Int (0 : Int) encI (GN.L g_2)) ∧ (small (GN.node g_2) ∧ (∀ (x : Int), x ∈ GN.L g_2 → small x) ∧ List.length (GN.L g_2) ≤ (12 : Nat)) ∧ ∀ (b : Unit), True → ∃ (b : Unit),
  True ∧ True ∧ (1 : Nat) = (1 : Nat) ∧ some (LB.arr Int (0 : Int) encI (isR (cfN (GN.node g_2)) (GN.L g_2))) = some (LB.arr Int (0 : Int) encI (isR (cfN (GN.node (Prod.fst g)))
  (GN.L (Prod.fst g)))) ∧ ∀ (x : Int), allFlat (encI x) = true) ∧ (decide ((↑(List.length (GN.L (Prod.fst g))) : Int) - (0 : Int) ≤ (12 : Int)) = false → False)) := by kernel_rfl
def cSortN : Con := { γ := GN, β := Unit, keys := slKeys0, m := 1, args := fun g => [.sl 0 1 0 g.L.length, .clo 27 [bxI g.node]], ins := fun g => [.arr Int 0 encI g.L], pre := preN, post := fun _ _ => True, res := fun _ _ => .tup [], outs := fun g _ => [.arr Int 0 encI (isR (cfN g.node) g.L)], new := fun _ _ => none }
theorem vSortN_eq : (cSortN.body (fun g => env [(42, cLen), (41, cPdqN)] (noLoops g)) Try.f26) = (∀ (g : GN), small (GN.node g) ∧ (∀ (x : Int), x ∈ GN.L g → small x) ∧ List.length (GN.L g) ≤ (12 : Nat) → inK IntKind.u64 (↑(List.length (GN.L g)) : Int) ∧ ∃ (g_1 : Int), SV.val
  (Value.int IntKind.u64 (↑(List.length (GN.L g)) : Int)) = SV.val (Value.int IntKind.u64 g_1) ∧ True ∧ ((0 : Int) ≤ g_1 ∧ g_1 < (256 : Int)) ∧ ∀ (b : Int), True → ∃ (g_2 : GN ×
  Int), (((1 : Nat) = (1 : Nat) ∧ (0 : Nat) = (0 : Nat) ∧ List.length (GN.L g) = List.length (GN.L (Prod.fst g_2))) ∧ SV.val (Value.int IntKind.i64 (0 : Int)) = SV.val (Value.int
  IntKind.i64 (0 : Int)) ∧ SV.val (Value.int IntKind.i64 (↑(List.length (GN.L g)) : Int)) = SV.val (Value.int IntKind.i64 (↑(List.length (GN.L (Prod.fst g_2))) : Int)) ∧ SV.val
  (Value.int IntKind.i64 b) = SV.val (Value.int IntKind.i64 (Prod.snd g_2)) ∧ (27 : Nat) = (27 : Nat) ∧ SV.rop Int (0 : Int) encI [GN.node g] (0 : Nat) (0 : Nat) = SV.rop Int (0 :
  Int) encI [GN.node (Prod.fst g_2)] (0 : Nat) (0 : Nat) ∧ True) ∧ some (LB.arr Int (0 : Int) encI (GN.L g)) = some (LB.arr Int (0 : Int) encI (GN.L (Prod.fst g_2))) ∧ preN (Prod.fst
  g_2) ∧ ∀ (b : Unit), True → ∃ (b : Unit), True ∧ True ∧ (1 : Nat) = (1 : Nat) ∧ some (LB.arr Int (0 : Int) encI (isR (cfN (GN.node (Prod.fst g_2))) (GN.L (Prod.fst g_2)))) = some
  (LB.arr Int (0 : Int) encI (isR (cfN (GN.node g)) (GN.L g))) ∧ ∀ (x : Int), allFlat (encI x) = true) := by kernel_rfl
def cStabO : Con := { γ := GOs, β := Unit, keys := slKeys0, m := 1, args := fun g => [.sl 0 1 0 g.L.length, I g.L.length, .clo 33 [bxR g.g]], ins := fun g => [.arr Int 0 encI g.L], pre := preO, post := fun _ _ => True, res := fun _ _ => .tup [], outs := fun g _ => [.arr Int 0 encI (isR (cfO g.g) g.L)], new := fun _ _ => none }
def lStabO (g : GOs) : Loops := loop2 0 { γ := Unit, slots := [7, 8], vals := fun _ _ => [I 0, I 20], inv := fun _ => True, μ := fun _ => 0 } 2 { γ := Unit, slots := [6], vals := fun _ _ => [I 20], inv := fun _ => True, μ := fun _ => 0 }
theorem vStabO_eq : (cStabO.body (fun g => env [(46, cInsO)] (lStabO g)) Try.f44) = (∀ (g : GOs), okR (GOs.g g) ∧ (∀ (x : Int), x ∈ GOs.L g → (0 : Int) ≤ x ∧ x < (↑(List.length (GR.l (GOs.g g))) : Int)) ∧ List.length (GOs.L g) ≤ (12 : Nat) → (∃ (g_1 : Unit), True ∧
  ((0 : Int) = (0 : Int) ∧ (20 : Int) = (20 : Int)) ∧ True ∧ LB.arr Int (0 : Int) encI (GOs.L g) = LB.arr Int (0 : Int) encI (GOs.L g) ∧ True) ∧ ∀ (g_1 : Unit), True → (decide ((20 :
  Int) ≤ (↑(List.length (GOs.L g)) : Int)) = true → ∃ (g_2 : GOs), (((1 : Nat) = (1 : Nat) ∧ (0 : Nat) = (0 : Nat) ∧ List.length (GOs.L g) = List.length (GOs.L g_2)) ∧ SV.val
  (Value.int IntKind.i64 (0 : Int)) = SV.val (Value.int IntKind.i64 (0 : Int)) ∧ SV.val (Value.int IntKind.i64 (20 : Int)) = SV.val (Value.int IntKind.i64 (↑(List.length (GOs.L g_2))
  : Int)) ∧ (33 : Nat) = (33 : Nat) ∧ SV.rop GR dGR encR [GOs.g g] (0 : Nat) (0 : Nat) = SV.rop GR dGR encR [GOs.g g_2] (0 : Nat) (0 : Nat) ∧ True) ∧ some (LB.arr Int (0 : Int) encI
  (GOs.L g)) = some (LB.arr Int (0 : Int) encI (GOs.L g_2)) ∧ (okR (GOs.g g_2) ∧ (∀ (x : Int), x ∈ GOs.L g_2 → (0 : Int) ≤ x ∧ x < (↑(List.length (GR.l (GOs.g g_2))) : Int)) ∧
  List.length (GOs.L g_2) ≤ (12 : Nat)) ∧ ∀ (b : Unit), True → inK IntKind.i64 ((20 : Int) + (20 : Int)) ∧ ∃ (g' : Unit), True ∧ (0 : Nat) < (0 : Nat) ∧ ((20 : Int) = (0 : Int) ∧ (20
  : Int) + (20 : Int) = (20 : Int)) ∧ True ∧ LB.arr Int (0 : Int) encI (isR (cfO (GOs.g g_2)) (GOs.L g_2)) = LB.arr Int (0 : Int) encI (GOs.L g) ∧ True) ∧ (decide ((20 : Int) ≤
  (↑(List.length (GOs.L g)) : Int)) = false → ∃ (g_2 : GOs), (((1 : Nat) = (1 : Nat) ∧ (0 : Nat) = (0 : Nat) ∧ List.length (GOs.L g) = List.length (GOs.L g_2)) ∧ SV.val (Value.int
  IntKind.i64 (0 : Int)) = SV.val (Value.int IntKind.i64 (0 : Int)) ∧ SV.val (Value.int IntKind.i64 (↑(List.length (GOs.L g)) : Int)) = SV.val (Value.int IntKind.i64 (↑(List.length
  (GOs.L g_2)) : Int)) ∧ (33 : Nat) = (33 : Nat) ∧ SV.rop GR dGR encR [GOs.g g] (0 : Nat) (0 : Nat) = SV.rop GR dGR encR [GOs.g g_2] (0 : Nat) (0 : Nat) ∧ True) ∧ some (LB.arr Int (0
  : Int) encI (GOs.L g)) = some (LB.arr Int (0 : Int) encI (GOs.L g_2)) ∧ (okR (GOs.g g_2) ∧ (∀ (x : Int), x ∈ GOs.L g_2 → (0 : Int) ≤ x ∧ x < (↑(List.length (GR.l (GOs.g g_2))) :
  Int)) ∧ List.length (GOs.L g_2) ≤ (12 : Nat)) ∧ ∀ (b : Unit), True → (∃ (g : Unit), True ∧ (20 : Int) = (20 : Int) ∧ True ∧ LB.arr Int (0 : Int) encI (isR (cfO (GOs.g g_2)) (GOs.L
  g_2)) = LB.arr Int (0 : Int) encI (isR (cfO (GOs.g g_2)) (GOs.L g_2)) ∧ True) ∧ ∀ (g_3 : Unit), True → (decide ((20 : Int) < (↑(List.length (GOs.L g)) : Int)) = true → inK
  IntKind.i64 ((2 : Int) * (20 : Int)) ∧ False) ∧ (decide ((20 : Int) < (↑(List.length (GOs.L g)) : Int)) = false → ∃ (b : Unit), True ∧ True ∧ (1 : Nat) = (1 : Nat) ∧ some (LB.arr
  Int (0 : Int) encI (isR (cfO (GOs.g g_2)) (GOs.L g_2))) = some (LB.arr Int (0 : Int) encI (isR (cfO (GOs.g g)) (GOs.L g))) ∧ ∀ (x : Int), allFlat (encI x) = true))) := by kernel_rfl
def cSSO : Con := { γ := GOs, β := Unit, keys := slKeys0, m := 1, args := fun g => [.sl 0 1 0 g.L.length, .clo 33 [bxR g.g]], ins := fun g => [.arr Int 0 encI g.L], pre := preO, post := fun _ _ => True, res := fun _ _ => .tup [], outs := fun g _ => [.arr Int 0 encI (isR (cfO g.g) g.L)], new := fun _ _ => none }
theorem vSSO_eq : (cSSO.body (fun g => env [(44, cStabO)] (noLoops g)) Try.f32) = (∀ (g : GOs), okR (GOs.g g) ∧ (∀ (x : Int), x ∈ GOs.L g → (0 : Int) ≤ x ∧ x < (↑(List.length (GR.l (GOs.g g))) : Int)) ∧ List.length (GOs.L g) ≤ (12 : Nat) → ∃ (g_1 : GOs), (((1 :
  Nat) = (1 : Nat) ∧ (0 : Nat) = (0 : Nat) ∧ List.length (GOs.L g) = List.length (GOs.L g_1)) ∧ SV.val (Value.int IntKind.i64 (↑(List.length (GOs.L g)) : Int)) = SV.val (Value.int
  IntKind.i64 (↑(List.length (GOs.L g_1)) : Int)) ∧ (33 : Nat) = (33 : Nat) ∧ SV.rop GR dGR encR [GOs.g g] (0 : Nat) (0 : Nat) = SV.rop GR dGR encR [GOs.g g_1] (0 : Nat) (0 : Nat) ∧
  True) ∧ some (LB.arr Int (0 : Int) encI (GOs.L g)) = some (LB.arr Int (0 : Int) encI (GOs.L g_1)) ∧ (okR (GOs.g g_1) ∧ (∀ (x : Int), x ∈ GOs.L g_1 → (0 : Int) ≤ x ∧ x <
  (↑(List.length (GR.l (GOs.g g_1))) : Int)) ∧ List.length (GOs.L g_1) ≤ (12 : Nat)) ∧ ∀ (b : Unit), True → ∃ (b : Unit), True ∧ True ∧ (1 : Nat) = (1 : Nat) ∧ some (LB.arr Int (0 :
  Int) encI (isR (cfO (GOs.g g_1)) (GOs.L g_1))) = some (LB.arr Int (0 : Int) encI (isR (cfO (GOs.g g)) (GOs.L g))) ∧ ∀ (x : Int), allFlat (encI x) = true) := by kernel_rfl

theorem vPdqN : cPdqN.body (fun g => env [(46, cInsN)] (lPdqN g)) Try.f41 := by
  rw [vPdqN_eq]
  rintro ⟨g, k⟩ hp
  have h3 := hp.2.2
  exact ⟨⟨(), trivial, ⟨rfl, rfl⟩, trivial, rfl, trivial⟩, fun _ _ => ⟨inI (by dsimp only at h3 ⊢; omega) (by dsimp only at h3 ⊢; omega), fun _ => ⟨g, ⟨⟨rfl, rfl, rfl⟩, rfl, rfl, rfl, rfl, trivial⟩, rfl, hp, fun _ _ => ⟨(), trivial, trivial, rfl, rfl, flI⟩⟩, fun h => by
    have h := of_decide_eq_false h
    dsimp only at h3 h
    omega⟩⟩
theorem vSortN : cSortN.body (fun g => env [(42, cLen), (41, cPdqN)] (noLoops g)) Try.f26 := by
  rw [vSortN_eq]
  intro g hp
  have h3 := hp.2.2
  exact ⟨⟨by simp only [lo]; omega, by simp only [hi]; omega⟩, g.L.length, rfl, trivial, ⟨by omega, by omega⟩, fun b _ => ⟨(g, b), ⟨⟨rfl, rfl, rfl⟩, rfl, rfl, rfl, rfl, rfl, trivial⟩, rfl, hp, fun _ _ => ⟨(), trivial, trivial, rfl, rfl, flI⟩⟩⟩
theorem vStabO : cStabO.body (fun g => env [(46, cInsO)] (lStabO g)) Try.f44 := by
  rw [vStabO_eq]
  intro g hp
  have h3 := hp.2.2
  exact ⟨⟨(), trivial, ⟨rfl, rfl⟩, trivial, rfl, trivial⟩, fun _ _ => ⟨fun h => absurd (of_decide_eq_true h) (by omega), fun _ => ⟨g, ⟨⟨rfl, rfl, rfl⟩, rfl, rfl, rfl, rfl, trivial⟩, rfl, hp, fun _ _ => ⟨⟨(), trivial, rfl, trivial, rfl, trivial⟩, fun _ _ => ⟨fun h => absurd (of_decide_eq_true h) (by omega), fun _ => ⟨(), trivial, trivial, rfl, rfl, flI⟩⟩⟩⟩⟩⟩
theorem vSSO : cSSO.body (fun g => env [(44, cStabO)] (noLoops g)) Try.f32 := by
  rw [vSSO_eq]
  intro g hp
  exact ⟨g, ⟨⟨rfl, rfl, rfl⟩, rfl, rfl, rfl, trivial⟩, rfl, hp, fun _ _ => ⟨(), trivial, trivial, rfl, rfl, flI⟩⟩
theorem one_in {lb : LB} {l : List Int} (h : lb ∈ [LB.arr Int 0 encI l]) : LBin lb := by rcases List.mem_cons.1 h with rfl | h; exact trivial; cases h
theorem sPdqN : SpecOk P 41 cPdqN.spec := spec_of cPdqN (tab_cons sInsN (tab_nil P)) mixed (fn := Try.f41) (by kernel_rfl) (by kernel_rfl) (by kernel_rfl) (by decide) (fun g lb _ hm => one_in hm) vPdqN
theorem sSortN : SpecOk P 26 cSortN.spec := spec_of cSortN (tab_cons sLen (tab_cons sPdqN (tab_nil P))) mixed (fn := Try.f26) (by kernel_rfl) (by kernel_rfl) (by kernel_rfl) (by decide) (fun g lb _ hm => one_in hm) vSortN
theorem sStabO : SpecOk P 44 cStabO.spec := spec_of cStabO (tab_cons sInsO (tab_nil P)) mixed (fn := Try.f44) (by kernel_rfl) (by kernel_rfl) (by kernel_rfl) (by decide) (fun g lb _ hm => one_in hm) vStabO
theorem sSSO : SpecOk P 32 cSSO.spec := spec_of cSSO (tab_cons sStabO (tab_nil P)) mixed (fn := Try.f32) (by kernel_rfl) (by kernel_rfl) (by kernel_rfl) (by decide) (fun g lb _ hm => one_in hm) vSSO

/-! zonelist.Nodes, zonelist.Order -/
def ddTo (l : List Z) : Nat → List Int
  | 0 => []
  | i + 1 => if (ddTo l i).contains (l.getD i dZ).node = true then ddTo l i else ddTo l i ++ [(l.getD i dZ).node]
def lNodes (g : List Z × Int) : Loops := loop1 0 { γ := Nat, slots := [7, 18], vals := fun b i => [.sl b 1 0 (ddTo g.1 i).length, I i], rekey := [7], blks := fun b i => [(b, .arr Int 0 encI (ddTo g.1 i))], inv := fun i => i ≤ g.1.length, μ := fun i => g.1.length - i }
theorem vNodes_eq : (cRNodes.body (fun g => env [(24, cCheckN), (25, cCont), (26, cSortN)] (lNodes g)) Try.f15) = (∀ (g : List Z × Int), List.length (Prod.fst g) ≤ (1000000000 : Nat) → ∃ (g_1 : List Z × Int), (SV.ro Z dZ encZ (Prod.fst g) = SV.ro Z dZ encZ (Prod.fst g_1) ∧ SV.val (Value.int
  IntKind.i64 (Prod.snd g)) = SV.val (Value.int IntKind.i64 (Prod.snd g_1))) ∧ True ∧ List.length (Prod.fst g_1) ≤ (1000000000 : Nat) ∧ ∀ (b : Unit), True → ((checkN (Prod.fst g_1)
  (Prod.snd g_1) != (0 : Int)) = true → ∃ (b : Unit), True ∧ (((SV.val (Value.slice none (0 : Nat) (0 : Nat)) = SV.val (Value.slice none (0 : Nat) (0 : Nat)) ∧ (0 : Nat) = (0 : Nat)
  ∧ List.length (nodesO (Prod.fst g) (Prod.snd g)) = (0 : Nat)) ∧ SV.val (Value.int IntKind.i64 (checkN (Prod.fst g_1) (Prod.snd g_1))) = SV.val (Value.int IntKind.i64 (checkN
  (Prod.fst g) (Prod.snd g)))) ∧ (∀ (x : Int), allFlat (encI x) = true) ∧ nodesO (Prod.fst g) (Prod.snd g) = [] ∧ ∀ (x : Int), (1 : Nat) = (1 : Nat) ∧ allOne (encI x) = true) ∧ (0 :
  Nat) = (0 : Nat) ∧ True) ∧ ((checkN (Prod.fst g_1) (Prod.snd g_1) != (0 : Int)) = false → (∃ (g_2 : Nat), g_2 ≤ List.length (Prod.fst g) ∧ (((0 : Nat) = (0 : Nat) ∧ List.length
  (ddTo (Prod.fst g) g_2) = (0 : Nat)) ∧ (0 : Int) = (↑g_2 : Int)) ∧ ((ddTo (Prod.fst g) g_2 = [] ∧ ∀ (x : Int), (1 : Nat) = (1 : Nat) ∧ allOne (encI x) = true) ∧ True) ∧ LB.cells
  [SV.val (Value.int IntKind.i64 (Prod.snd g))] = LB.cells [SV.val (Value.int IntKind.i64 (Prod.snd g))] ∧ True) ∧ ∀ (g_2 : Nat), g_2 ≤ List.length (Prod.fst g) → (decide ((↑g_2 :
  Int) < (↑(List.length (Prod.fst g)) : Int)) = true → ((0 : Int) ≤ (↑g_2 : Int) ∧ (↑g_2 : Int) < (↑(List.length (Prod.fst g)) : Int)) ∧ Int.toNat (↑g_2 : Int) < List.length
  (Prod.fst g) ∧ ∃ (g_3 : List Int × Int), (((0 : Nat) + List.length (ddTo (Prod.fst g) g_2) ≤ List.length (ddTo (Prod.fst g) g_2) ∧ SV.ro Int (0 : Int) encI (List.take (List.length
  (ddTo (Prod.fst g) g_2)) (List.drop (0 : Nat) (ddTo (Prod.fst g) g_2))) = SV.ro Int (0 : Int) encI (Prod.fst g_3)) ∧ SV.val (Value.int IntKind.i64 (Z.node (List.getD (Prod.fst g)
  (Int.toNat (↑g_2 : Int)) dZ))) = SV.val (Value.int IntKind.i64 (Prod.snd g_3))) ∧ True ∧ List.length (Prod.fst g_3) ≤ (1000000000 : Nat) ∧ ∀ (b : Unit), True → ((!List.contains
  (Prod.fst g_3) (Prod.snd g_3)) = true → (0 : Nat) + List.length (ddTo (Prod.fst g) g_2) ≤ List.length (ddTo (Prod.fst g) g_2) ∧ ∃ (ys : List Int), [[SV.val (Value.int IntKind.i64
  (Z.node (List.getD (Prod.fst g) (Int.toNat (↑g_2 : Int)) dZ)))]] = List.map encI ys ∧ (List.length (ddTo (Prod.fst g) g_2) + List.length ys) * (8 : Nat) ≤ (140737488355328 : Nat) ∧
  inK IntKind.i64 ((↑g_2 : Int) + (1 : Int)) ∧ ∃ (g' : Nat), g' ≤ List.length (Prod.fst g) ∧ List.length (Prod.fst g) - g' < List.length (Prod.fst g) - g_2 ∧ (((1 : Nat) = (1 : Nat)
  ∧ (0 : Nat) = (0 : Nat) ∧ List.length (ddTo (Prod.fst g) g_2) + List.length ys = List.length (ddTo (Prod.fst g) g')) ∧ (↑g_2 : Int) + (1 : Int) = (↑g' : Int)) ∧ (LB.arr Int (0 :
  Int) encI (List.take (List.length (ddTo (Prod.fst g) g_2)) (List.drop (0 : Nat) (ddTo (Prod.fst g) g_2)) ++ ys) = LB.arr Int (0 : Int) encI (ddTo (Prod.fst g) g') ∧ True) ∧
  LB.cells [SV.val (Value.int IntKind.i64 (Prod.snd g))] = LB.cells [SV.val (Value.int IntKind.i64 (Prod.snd g))] ∧ True) ∧ ((!List.contains (Prod.fst g_3) (Prod.snd g_3)) = false →
  inK IntKind.i64 ((↑g_2 : Int) + (1 : Int)) ∧ ∃ (g' : Nat), g' ≤ List.length (Prod.fst g) ∧ List.length (Prod.fst g) - g' < List.length (Prod.fst g) - g_2 ∧ (((1 : Nat) = (1 : Nat)
  ∧ (0 : Nat) = (0 : Nat) ∧ List.length (ddTo (Prod.fst g) g_2) = List.length (ddTo (Prod.fst g) g')) ∧ (↑g_2 : Int) + (1 : Int) = (↑g' : Int)) ∧ (LB.arr Int (0 : Int) encI (ddTo
  (Prod.fst g) g_2) = LB.arr Int (0 : Int) encI (ddTo (Prod.fst g) g') ∧ True) ∧ LB.cells [SV.val (Value.int IntKind.i64 (Prod.snd g))] = LB.cells [SV.val (Value.int IntKind.i64
  (Prod.snd g))] ∧ True)) ∧ (decide ((↑g_2 : Int) < (↑(List.length (Prod.fst g)) : Int)) = false → ∃ (g_3 : GN), (((1 : Nat) = (1 : Nat) ∧ (0 : Nat) = (0 : Nat) ∧ List.length (ddTo
  (Prod.fst g) g_2) = List.length (GN.L g_3)) ∧ (27 : Nat) = (27 : Nat) ∧ ((0 : Nat) = (0 : Nat) ∧ (∀ (x : Int), (1 : Nat) = (1 : Nat) ∧ allOne (encI x) = true) ∧ SV.val (Value.int
  IntKind.i64 (Prod.snd g)) = SV.val (Value.int IntKind.i64 (GN.node g_3))) ∧ True) ∧ some (LB.arr Int (0 : Int) encI (ddTo (Prod.fst g) g_2)) = some (LB.arr Int (0 : Int) encI (GN.L
  g_3)) ∧ (small (GN.node g_3) ∧ (∀ (x : Int), x ∈ GN.L g_3 → small x) ∧ List.length (GN.L g_3) ≤ (12 : Nat)) ∧ ∀ (b : Unit), True → ∃ (b : Unit), True ∧ (((SV.sl (112 : Nat) (1 :
  Nat) (0 : Nat) (List.length (ddTo (Prod.fst g) g_2)) = SV.sl (112 : Nat) (1 : Nat) (0 : Nat) (List.length (ddTo (Prod.fst g) g_2)) ∧ (0 : Nat) = (0 : Nat) ∧ (1 : Nat) = (1 : Nat) ∧
  List.length (ddTo (Prod.fst g) g_2) = List.length (nodesO (Prod.fst g) (Prod.snd g))) ∧ SV.val (Value.int IntKind.i64 (0 : Int)) = SV.val (Value.int IntKind.i64 (checkN (Prod.fst
  g) (Prod.snd g)))) ∧ (∀ (x : Int), allFlat (encI x) = true) ∧ (0 : Nat) + List.length (ddTo (Prod.fst g) g_2) ≤ List.length (isR (cfN (GN.node g_3)) (GN.L g_3)) ∧ LB.arr Int (0 :
  Int) encI (List.take (List.length (ddTo (Prod.fst g) g_2)) (List.drop (0 : Nat) (isR (cfN (GN.node g_3)) (GN.L g_3)))) = LB.arr Int (0 : Int) encI (nodesO (Prod.fst g) (Prod.snd
  g))) ∧ (0 : Nat) = (0 : Nat) ∧ True))) := by kernel_rfl
def selK (k : Bool) (z : Z) : Bool := !k || z.kind == 0
def lOrder (g : GO) : Loops := loop1 0 { γ := Nat, slots := [9, 21], vals := fun b i => [.sl b 1 0 (idxs (selK g.kernel) g.l i).length, I i], rekey := [9], blks := fun b i => [(b, .arr Int 0 encI (idxs (selK g.kernel) g.l i))], inv := fun i => i ≤ g.l.length, μ := fun i => g.l.length - i }
theorem vOrder_eq : (cROrder.body (fun g => env [(24, cCheckN), (32, cSSO)] (lOrder g)) Try.f17) = (∀ (g : GO), List.length (GO.l g) ≤ (1000000000 : Nat) → ∃ (g_1 : List Z × Int), (SV.ro Z dZ encZ (GO.l g) = SV.ro Z dZ encZ (Prod.fst g_1) ∧ SV.val (Value.int IntKind.i64 (GO.node
  g)) = SV.val (Value.int IntKind.i64 (Prod.snd g_1))) ∧ True ∧ List.length (Prod.fst g_1) ≤ (1000000000 : Nat) ∧ ∀ (b : Unit), True → ((checkN (Prod.fst g_1) (Prod.snd g_1) != (0 :
  Int)) = true → ∃ (b : Unit), True ∧ (((SV.val (Value.slice none (0 : Nat) (0 : Nat)) = SV.val (Value.slice none (0 : Nat) (0 : Nat)) ∧ (0 : Nat) = (0 : Nat) ∧ List.length (ordO
  (GO.l g) (GO.node g) (GO.kernel g)) = (0 : Nat)) ∧ SV.val (Value.int IntKind.i64 (checkN (Prod.fst g_1) (Prod.snd g_1))) = SV.val (Value.int IntKind.i64 (checkN (GO.l g) (GO.node
  g)))) ∧ (∀ (x : Int), allFlat (encI x) = true) ∧ ordO (GO.l g) (GO.node g) (GO.kernel g) = [] ∧ ∀ (x : Int), (1 : Nat) = (1 : Nat) ∧ allOne (encI x) = true) ∧ (0 : Nat) = (0 : Nat)
  ∧ True) ∧ ((checkN (Prod.fst g_1) (Prod.snd g_1) != (0 : Int)) = false → (∃ (g_2 : Nat), g_2 ≤ List.length (GO.l g) ∧ (((0 : Nat) = (0 : Nat) ∧ List.length (idxs (selK (GO.kernel
  g)) (GO.l g) g_2) = (0 : Nat)) ∧ (0 : Int) = (↑g_2 : Int)) ∧ ((idxs (selK (GO.kernel g)) (GO.l g) g_2 = [] ∧ ∀ (x : Int), (1 : Nat) = (1 : Nat) ∧ allOne (encI x) = true) ∧ True) ∧
  LB.cells [SV.ro Z dZ encZ (GO.l g)] = LB.cells [SV.ro Z dZ encZ (GO.l g)] ∧ LB.cells [SV.val (Value.int IntKind.i64 (GO.node g))] = LB.cells [SV.val (Value.int IntKind.i64 (GO.node
  g))] ∧ True) ∧ ∀ (g_2 : Nat), g_2 ≤ List.length (GO.l g) → (decide ((↑g_2 : Int) < (↑(List.length (GO.l g)) : Int)) = true → ((0 : Int) ≤ (↑g_2 : Int) ∧ (↑g_2 : Int) <
  (↑(List.length (GO.l g)) : Int)) ∧ Int.toNat (↑g_2 : Int) < List.length (GO.l g) ∧ ((!GO.kernel g) = true → (0 : Nat) + List.length (idxs (selK (GO.kernel g)) (GO.l g) g_2) ≤
  List.length (idxs (selK (GO.kernel g)) (GO.l g) g_2) ∧ ∃ (ys : List Int), [[SV.val (Value.int IntKind.i64 (↑g_2 : Int))]] = List.map encI ys ∧ (List.length (idxs (selK (GO.kernel
  g)) (GO.l g) g_2) + List.length ys) * (8 : Nat) ≤ (140737488355328 : Nat) ∧ inK IntKind.i64 ((↑g_2 : Int) + (1 : Int)) ∧ ∃ (g' : Nat), g' ≤ List.length (GO.l g) ∧ List.length (GO.l
  g) - g' < List.length (GO.l g) - g_2 ∧ (((1 : Nat) = (1 : Nat) ∧ (0 : Nat) = (0 : Nat) ∧ List.length (idxs (selK (GO.kernel g)) (GO.l g) g_2) + List.length ys = List.length (idxs
  (selK (GO.kernel g)) (GO.l g) g')) ∧ (↑g_2 : Int) + (1 : Int) = (↑g' : Int)) ∧ (LB.arr Int (0 : Int) encI (List.take (List.length (idxs (selK (GO.kernel g)) (GO.l g) g_2))
  (List.drop (0 : Nat) (idxs (selK (GO.kernel g)) (GO.l g) g_2)) ++ ys) = LB.arr Int (0 : Int) encI (idxs (selK (GO.kernel g)) (GO.l g) g') ∧ True) ∧ LB.cells [SV.ro Z dZ encZ (GO.l
  g)] = LB.cells [SV.ro Z dZ encZ (GO.l g)] ∧ LB.cells [SV.val (Value.int IntKind.i64 (GO.node g))] = LB.cells [SV.val (Value.int IntKind.i64 (GO.node g))] ∧ True) ∧ ((!GO.kernel g)
  = false → ((Z.kind (List.getD (GO.l g) (Int.toNat (↑g_2 : Int)) dZ) == (0 : Int)) = true → (0 : Nat) + List.length (idxs (selK (GO.kernel g)) (GO.l g) g_2) ≤ List.length (idxs
  (selK (GO.kernel g)) (GO.l g) g_2) ∧ ∃ (ys : List Int), [[SV.val (Value.int IntKind.i64 (↑g_2 : Int))]] = List.map encI ys ∧ (List.length (idxs (selK (GO.kernel g)) (GO.l g) g_2) +
  List.length ys) * (8 : Nat) ≤ (140737488355328 : Nat) ∧ inK IntKind.i64 ((↑g_2 : Int) + (1 : Int)) ∧ ∃ (g' : Nat), g' ≤ List.length (GO.l g) ∧ List.length (GO.l g) - g' <
  List.length (GO.l g) - g_2 ∧ (((1 : Nat) = (1 : Nat) ∧ (0 : Nat) = (0 : Nat) ∧ List.length (idxs (selK (GO.kernel g)) (GO.l g) g_2) + List.length ys = List.length (idxs (selK
  (GO.kernel g)) (GO.l g) g')) ∧ (↑g_2 : Int) + (1 : Int) = (↑g' : Int)) ∧ (LB.arr Int (0 : Int) encI (List.take (List.length (idxs (selK (GO.kernel g)) (GO.l g) g_2)) (List.drop (0
  : Nat) (idxs (selK (GO.kernel g)) (GO.l g) g_2)) ++ ys) = LB.arr Int (0 : Int) encI (idxs (selK (GO.kernel g)) (GO.l g) g') ∧ True) ∧ LB.cells [SV.ro Z dZ encZ (GO.l g)] = LB.cells
  [SV.ro Z dZ encZ (GO.l g)] ∧ LB.cells [SV.val (Value.int IntKind.i64 (GO.node g))] = LB.cells [SV.val (Value.int IntKind.i64 (GO.node g))] ∧ True) ∧ ((Z.kind (List.getD (GO.l g)
  (Int.toNat (↑g_2 : Int)) dZ) == (0 : Int)) = false → inK IntKind.i64 ((↑g_2 : Int) + (1 : Int)) ∧ ∃ (g' : Nat), g' ≤ List.length (GO.l g) ∧ List.length (GO.l g) - g' < List.length
  (GO.l g) - g_2 ∧ (((1 : Nat) = (1 : Nat) ∧ (0 : Nat) = (0 : Nat) ∧ List.length (idxs (selK (GO.kernel g)) (GO.l g) g_2) = List.length (idxs (selK (GO.kernel g)) (GO.l g) g')) ∧
  (↑g_2 : Int) + (1 : Int) = (↑g' : Int)) ∧ (LB.arr Int (0 : Int) encI (idxs (selK (GO.kernel g)) (GO.l g) g_2) = LB.arr Int (0 : Int) encI (idxs (selK (GO.kernel g)) (GO.l g) g') ∧
  True) ∧ LB.cells [SV.ro Z dZ encZ (GO.l g)] = LB.cells [SV.ro Z dZ encZ (GO.l g)] ∧ LB.cells [SV.val (Value.int IntKind.i64 (GO.node g))] = LB.cells [SV.val (Value.int IntKind.i64
  (GO.node g))] ∧ True))) ∧ (decide ((↑g_2 : Int) < (↑(List.length (GO.l g)) : Int)) = false → ∃ (g_3 : GOs), (((1 : Nat) = (1 : Nat) ∧ (0 : Nat) = (0 : Nat) ∧ List.length (idxs
  (selK (GO.kernel g)) (GO.l g) g_2) = List.length (GOs.L g_3)) ∧ (33 : Nat) = (33 : Nat) ∧ ((0 : Nat) = (0 : Nat) ∧ (∀ (x : GR), (1 : Nat) = (1 : Nat) ∧ allOne (encR x) = true) ∧
  ((0 : Nat) = (0 : Nat) ∧ (∀ (x : Int), (1 : Nat) = (1 : Nat) ∧ allOne (encI x) = true) ∧ SV.val (Value.int IntKind.i64 (GO.node g)) = SV.val (Value.int IntKind.i64 (GR.node (GOs.g
  g_3)))) ∧ (0 : Nat) = (0 : Nat) ∧ (∀ (x : List Z), (1 : Nat) = (1 : Nat) ∧ allOne (encZl x) = true) ∧ SV.ro Z dZ encZ (GO.l g) = SV.ro Z dZ encZ (GR.l (GOs.g g_3))) ∧ True) ∧ some
  (LB.arr Int (0 : Int) encI (idxs (selK (GO.kernel g)) (GO.l g) g_2)) = some (LB.arr Int (0 : Int) encI (GOs.L g_3)) ∧ (okR (GOs.g g_3) ∧ (∀ (x : Int), x ∈ GOs.L g_3 → (0 : Int) ≤ x
  ∧ x < (↑(List.length (GR.l (GOs.g g_3))) : Int)) ∧ List.length (GOs.L g_3) ≤ (12 : Nat)) ∧ ∀ (b : Unit), True → ∃ (b : Unit), True ∧ (((SV.sl (120 : Nat) (1 : Nat) (0 : Nat)
  (List.length (idxs (selK (GO.kernel g)) (GO.l g) g_2)) = SV.sl (120 : Nat) (1 : Nat) (0 : Nat) (List.length (idxs (selK (GO.kernel g)) (GO.l g) g_2)) ∧ (0 : Nat) = (0 : Nat) ∧ (1 :
  Nat) = (1 : Nat) ∧ List.length (idxs (selK (GO.kernel g)) (GO.l g) g_2) = List.length (ordO (GO.l g) (GO.node g) (GO.kernel g))) ∧ SV.val (Value.int IntKind.i64 (0 : Int)) = SV.val
  (Value.int IntKind.i64 (checkN (GO.l g) (GO.node g)))) ∧ (∀ (x : Int), allFlat (encI x) = true) ∧ (0 : Nat) + List.length (idxs (selK (GO.kernel g)) (GO.l g) g_2) ≤ List.length
  (isR (cfO (GOs.g g_3)) (GOs.L g_3)) ∧ LB.arr Int (0 : Int) encI (List.take (List.length (idxs (selK (GO.kernel g)) (GO.l g) g_2)) (List.drop (0 : Nat) (isR (cfO (GOs.g g_3)) (GOs.L
  g_3)))) = LB.arr Int (0 : Int) encI (ordO (GO.l g) (GO.node g) (GO.kernel g))) ∧ (0 : Nat) = (0 : Nat) ∧ True))) := by kernel_rfl
end Go.Zn
