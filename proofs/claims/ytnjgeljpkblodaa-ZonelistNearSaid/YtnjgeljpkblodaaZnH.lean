/- A PART OF THE PROOF. NO CONDITION. -/
import Derived.Test.YtnjgeljpkblodaaZnL
import Derived.Test.YtnjgeljpkblodaaSxAD
noncomputable section
set_option linter.unusedVariables false
set_option linter.unusedVariables false
set_option linter.unusedSimpArgs false
namespace Go.Zn
open Go.Proofs Go.SX
set_option maxRecDepth 100000

theorem nodesO_bad {l : List Z} {n : Int} (h : checkN l n ≠ 0) : nodesO l n = [] := by rw [nodesO, if_pos h]
theorem ordO_bad {l : List Z} {n : Int} {k : Bool} (h : checkN l n ≠ 0) : ordO l n k = [] := by rw [ordO, if_pos h]
theorem vNodes : cRNodes.body (fun g => env [(24, cCheckN), (25, cCont), (26, cSortN)] (lNodes g)) Try.f15 := by
  rw [vNodes_eq]
  rintro ⟨l, n⟩ hlen
  dsimp only at hlen ⊢
  refine ⟨(l, n), ⟨rfl, rfl⟩, trivial, hlen, fun _ _ => ⟨fun h => ?_, fun h => ⟨⟨0, Nat.zero_le _, ⟨⟨rfl, rfl⟩, rfl⟩, ⟨⟨rfl, okI'⟩, trivial⟩, rfl, trivial⟩, fun i hi => ⟨fun hlt => ?_, fun hge => ?_⟩⟩⟩⟩
  · have h : checkN l n ≠ 0 := by simpa using h
    rw [nodesO_bad h]
    exact ⟨(), trivial, ⟨⟨⟨rfl, rfl, rfl⟩, rfl⟩, flI, rfl, okI'⟩, rfl, trivial⟩
  · have h : checkN l n = 0 := by simpa using h
    obtain ⟨h0, h1, h2, h6⟩ := checkN_zero h
    have hlt : (i : Int) < l.length := of_decide_eq_true hlt
    have hi' : i < l.length := by omega
    have hl := ddTo_len l i
    rw [Int.toNat_natCast]
    refine ⟨⟨by omega, hlt⟩, hi', (ddTo l i, (l.getD i dZ).node), ⟨⟨Nat.le_of_eq (Nat.zero_add _), by rw [List.drop_zero, List.take_length]⟩, rfl⟩, trivial, by dsimp only; omega, fun _ _ => ⟨fun hc => ⟨Nat.le_of_eq (Nat.zero_add _), [(l.getD i dZ).node], rfl, by simp only [List.length_cons, List.length_nil]; omega, inI (by omega) (by omega), i + 1, hi', by omega, ⟨⟨rfl, rfl, ?_⟩, by omega⟩, ⟨?_, trivial⟩, rfl, trivial⟩, fun hc => ⟨inI (by omega) (by omega), i + 1, hi', by omega, ⟨⟨rfl, rfl, ?_⟩, by omega⟩, ⟨?_, trivial⟩, rfl, trivial⟩⟩⟩
    all_goals have e : ddTo l (i + 1) = if (ddTo l i).contains (l.getD i dZ).node = true then ddTo l i else ddTo l i ++ [(l.getD i dZ).node] := rfl
    · rw [e, if_neg (by simpa using hc), List.length_append]
    · rw [e, if_neg (by simpa using hc), List.drop_zero, List.take_length]
    · rw [e, if_pos (by simpa using hc)]
    · rw [e, if_pos (by simpa using hc)]
  · have h : checkN l n = 0 := by simpa using h
    obtain ⟨h0, h1, h2, h6⟩ := checkN_zero h
    have hge := of_decide_eq_false hge
    have hil : i = l.length := by omega
    subst hil
    have hl := ddTo_len l l.length
    have hlaw := law_N h
    refine ⟨⟨n, ddTo l l.length⟩, ⟨⟨rfl, rfl, rfl⟩, rfl, ⟨rfl, okI', rfl⟩, trivial⟩, rfl, ⟨⟨by dsimp only; omega, by dsimp only; omega⟩, fun x hx => ?_, by dsimp only; omega⟩, fun _ _ => ?_⟩
    · obtain ⟨z, hz, e⟩ := (ddTo_mem (Nat.le_refl _)).1 hx
      rw [List.take_length] at hz
      have := (chk_zero h0 z hz).1
      unfold small; omega
    · dsimp only
      have hlen2 : (isR (cfN n) (ddTo l l.length)).length = (ddTo l l.length).length := isR_length _ _
      rw [h, ← hlaw, hlen2]
      refine ⟨(), trivial, ⟨⟨⟨rfl, rfl, rfl, rfl⟩, rfl⟩, flI, Nat.le_of_eq (Nat.zero_add _), ?_⟩, rfl, trivial⟩
      rw [List.drop_zero, ← hlen2, List.take_length]
theorem sNodes : SpecOk P 15 cRNodes.spec := spec_of cRNodes (tab_cons sCheckN (tab_cons sCont (tab_cons sSortN (tab_nil P)))) mixed (fn := Try.f15) (by kernel_rfl) (by kernel_rfl) (by kernel_rfl) (Nat.zero_le _) (noIns fun _ => rfl) vNodes
theorem okRR : ∀ x : GR, 1 = 1 ∧ allOne (encR x) = true := fun _ => ⟨rfl, rfl⟩
theorem okZZ : ∀ x : List Z, 1 = 1 ∧ allOne (encZl x) = true := fun _ => ⟨rfl, rfl⟩
theorem vOrder : cROrder.body (fun g => env [(24, cCheckN), (32, cSSO)] (lOrder g)) Try.f17 := by
  rw [vOrder_eq]
  rintro ⟨l, n, k⟩ hlen
  dsimp only at hlen ⊢
  refine ⟨(l, n), ⟨rfl, rfl⟩, trivial, hlen, fun _ _ => ⟨fun h => ?_, fun h => ⟨⟨0, Nat.zero_le _, ⟨⟨rfl, rfl⟩, rfl⟩, ⟨⟨rfl, okI'⟩, trivial⟩, rfl, rfl, trivial⟩, fun i hi => ⟨fun hlt => ?_, fun hge => ?_⟩⟩⟩⟩
  · have h : checkN l n ≠ 0 := by simpa using h
    rw [ordO_bad h]
    exact ⟨(), trivial, ⟨⟨⟨rfl, rfl, rfl⟩, rfl⟩, flI, rfl, okI'⟩, rfl, trivial⟩
  · have h : checkN l n = 0 := by simpa using h
    obtain ⟨h0, h1, h2, h6⟩ := checkN_zero h
    have hlt : (i : Int) < l.length := of_decide_eq_true hlt
    have hi' : i < l.length := by omega
    have hl := idxs_length (selK k) l i
    rw [Int.toNat_natCast]
    have B : 0 ≤ (i : Int) ∧ (i : Int) < l.length := ⟨by omega, hlt⟩
    have nx : inK IntKind.i64 ((i : Int) + 1) := inI (by omega) (by omega)
    have hit : selK k (l.getD i dZ) = true → idxs (selK k) l (i + 1) = idxs (selK k) l i ++ [(i : Int)] := idxs_hit
    have miss : selK k (l.getD i dZ) = false → idxs (selK k) l (i + 1) = idxs (selK k) l i := idxs_miss
    have H : selK k (l.getD i dZ) = true → 0 + (idxs (selK k) l i).length ≤ (idxs (selK k) l i).length ∧ ∃ ys : List Int, [[SV.val (Value.int IntKind.i64 (i : Int))]] = List.map encI ys ∧ ((idxs (selK k) l i).length + ys.length) * 8 ≤ 140737488355328 ∧ inK IntKind.i64 ((i : Int) + 1) ∧ ∃ g' : Nat, g' ≤ l.length ∧ l.length - g' < l.length - i ∧ ((1 = 1 ∧ 0 = 0 ∧ (idxs (selK k) l i).length + ys.length = (idxs (selK k) l g').length) ∧ (i : Int) + 1 = (g' : Int)) ∧ (LB.arr Int 0 encI (List.take (idxs (selK k) l i).length (List.drop 0 (idxs (selK k) l i)) ++ ys) = LB.arr Int 0 encI (idxs (selK k) l g') ∧ True) ∧ LB.cells [SV.ro Z dZ encZ l] = LB.cells [SV.ro Z dZ encZ l] ∧ LB.cells [SV.val (Value.int IntKind.i64 n)] = LB.cells [SV.val (Value.int IntKind.i64 n)] ∧ True := fun hs => by
      refine ⟨Nat.le_of_eq (Nat.zero_add _), [(i : Int)], rfl, by simp only [List.length_cons, List.length_nil]; omega, nx, i + 1, hi', by omega, ⟨⟨rfl, rfl, ?_⟩, by omega⟩, ⟨?_, trivial⟩, rfl, rfl, trivial⟩
      · rw [hit hs, List.length_append]
      · rw [hit hs, List.drop_zero, List.take_length]
    refine ⟨B, hi', fun h3 => H ?_, fun h3 => ⟨fun h4 => H ?_, fun h4 => ⟨nx, i + 1, hi', by omega, ⟨⟨rfl, rfl, ?_⟩, by omega⟩, ⟨?_, trivial⟩, rfl, rfl, trivial⟩⟩⟩
    · unfold selK; rw [h3]; rfl
    · unfold selK; rw [h3]; exact h4
    · rw [miss (by unfold selK; rw [h3]; exact h4)]
    · rw [miss (by unfold selK; rw [h3]; exact h4)]
  · have h : checkN l n = 0 := by simpa using h
    obtain ⟨h0, h1, h2, h6⟩ := checkN_zero h
    have hge := of_decide_eq_false hge
    have hil : i = l.length := by omega
    subst hil
    have hl := idxs_length (selK k) l l.length
    have hlaw := law_O (k := k) h
    refine ⟨⟨⟨l, n⟩, idxs (selK k) l l.length⟩, ⟨⟨rfl, rfl, rfl⟩, rfl, ⟨rfl, okRR, ⟨rfl, okI', rfl⟩, rfl, okZZ, rfl⟩, trivial⟩, rfl, ⟨⟨⟨by dsimp only; omega, by dsimp only; omega⟩, fun z hz => ?_⟩, fun x hx => ?_, by dsimp only; omega⟩, fun _ _ => ?_⟩
    · have := (chk_zero h0 z hz).1
      unfold small; omega
    · obtain ⟨j, h1, h2, _⟩ := idxs_mem.1 hx
      dsimp only; omega
    · dsimp only
      have hlen2 : (isR (cfO ⟨l, n⟩) (idxs (selK k) l l.length)).length = (idxs (selK k) l l.length).length := isR_length _ _
      rw [h, ← hlaw, hlen2]
      refine ⟨(), trivial, ⟨⟨⟨rfl, rfl, rfl, rfl⟩, rfl⟩, flI, Nat.le_of_eq (Nat.zero_add _), ?_⟩, rfl, trivial⟩
      rw [List.drop_zero, ← hlen2, List.take_length]
theorem sOrder : SpecOk P 17 cROrder.spec := spec_of cROrder (tab_cons sCheckN (tab_cons sSSO (tab_nil P))) mixed (fn := Try.f17) (by kernel_rfl) (by kernel_rfl) (by kernel_rfl) (Nat.zero_le _) (noIns fun _ => rfl) vOrder

/-! DeleteFunc under a policy -/
structure GD where
  l : List Z
  p : Po
  L : List Int
def dPo : Po := ⟨0, 0, 0⟩
def bxP (p : Po) : SV := .rop Po dPo encPo [p] 0 0
def outB (l : List Z) (p : Po) (x : Int) : Bool := !inM p.nodes (l.getD x.toNat dZ).node
def preD (g : GD) : Prop := (1 ≤ g.p.nodes ∧ g.p.nodes ≤ 15) ∧ (∀ z ∈ g.l, 0 ≤ z.node ∧ z.node < 4) ∧ (∀ x ∈ g.L, 0 ≤ x ∧ x < g.l.length) ∧ g.L.length ≤ 1000000
structure G36 where
  l : List Z
  p : Po
  x : Int
def c36 : Con := pureCon G36 Unit (fun g => [I g.x, bxP g.p, bxZ g.l]) (fun g => (1 ≤ g.p.nodes ∧ g.p.nodes ≤ 15) ∧ (∀ z ∈ g.l, 0 ≤ z.node ∧ z.node < 4) ∧ (0 ≤ g.x ∧ g.x < g.l.length)) (fun _ _ => True) (fun g _ => Bo (outB g.l g.p g.x))
theorem v36_eq : (c36.body (fun g => env [] (noLoops g)) Try.f36) = (∀ (g : G36), ((1 : Int) ≤ Po.nodes (G36.p g) ∧ Po.nodes (G36.p g) ≤ (15 : Int)) ∧ (∀ (z : Z), z ∈ G36.l g → (0 : Int) ≤ Z.node z ∧ Z.node z < (4 : Int)) ∧ (0 : Int) ≤ G36.x g ∧
  G36.x g < (↑(List.length (G36.l g)) : Int) → (0 : Nat) < (1 : Nat) ∧ (0 : Nat) < (1 : Nat) ∧ ((0 : Int) ≤ G36.x g ∧ G36.x g < (↑(List.length (List.getD [G36.l g] (0 : Nat) [])) :
  Int)) ∧ Int.toNat (G36.x g) < List.length (List.getD [G36.l g] (0 : Nat) []) ∧ (0 : Int) ≤ Z.node (List.getD (List.getD [G36.l g] (0 : Nat) []) (Int.toNat (G36.x g)) dZ) ∧ ∃ (b :
  Unit), True ∧ SV.val (Value.bool (IntKind.wrap IntKind.i64 (↑(BitVec.toNat (BitVec.ofInt (64 : Nat) (Int.fdiv (Po.nodes (List.getD [G36.p g] (0 : Nat) dPo)) ((2 : Int) ^ min
  (Int.toNat (Z.node (List.getD (List.getD [G36.l g] (0 : Nat) []) (Int.toNat (G36.x g)) dZ))) (64 : Nat))) &&& BitVec.ofInt (64 : Nat) (1 : Int))) : Int) == (0 : Int))) = SV.val
  (Value.bool (outB (G36.l g) (G36.p g) (G36.x g))) ∧ (0 : Nat) = (0 : Nat) ∧ True) := by kernel_rfl
def idxF (f : Int → Bool) : List Int → Nat → Int
  | [], _ => -1
  | q :: r, i => if f q = true then i else idxF f r (i + 1)
def cIdxF : Con := pureCon GD Unit (fun g => [roI g.L, .clo 36 [bxP g.p, bxZ g.l]]) preD (fun _ _ => True) (fun g _ => I (idxF (outB g.l g.p) g.L 0))
def lIdxF (g : GD) : Loops := loop1 0 { γ := Nat, slots := [8], vals := fun _ i => [I i], inv := fun i => i ≤ g.L.length ∧ idxF (outB g.l g.p) (g.L.drop i) i = idxF (outB g.l g.p) g.L 0, μ := fun i => g.L.length - i }
theorem vIdxF_eq : (cIdxF.body (fun g => env [(36, c36)] (lIdxF g)) Try.f45) = (∀ (g : GD), ((1 : Int) ≤ Po.nodes (GD.p g) ∧ Po.nodes (GD.p g) ≤ (15 : Int)) ∧ (∀ (z : Z), z ∈ GD.l g → (0 : Int) ≤ Z.node z ∧ Z.node z < (4 : Int)) ∧ (∀ (x : Int), x ∈ GD.L g → (0
  : Int) ≤ x ∧ x < (↑(List.length (GD.l g)) : Int)) ∧ List.length (GD.L g) ≤ (1000000 : Nat) → (∃ (g_1 : Nat), (g_1 ≤ List.length (GD.L g) ∧ idxF (outB (GD.l g) (GD.p g)) (List.drop
  g_1 (GD.L g)) g_1 = idxF (outB (GD.l g) (GD.p g)) (GD.L g) (0 : Nat)) ∧ (0 : Int) = (↑g_1 : Int) ∧ True ∧ True) ∧ ∀ (g_1 : Nat), g_1 ≤ List.length (GD.L g) ∧ idxF (outB (GD.l g)
  (GD.p g)) (List.drop g_1 (GD.L g)) g_1 = idxF (outB (GD.l g) (GD.p g)) (GD.L g) (0 : Nat) → (decide ((↑g_1 : Int) < (↑(List.length (GD.L g)) : Int)) = true → ((0 : Int) ≤ (↑g_1 :
  Int) ∧ (↑g_1 : Int) < (↑(List.length (GD.L g)) : Int)) ∧ Int.toNat (↑g_1 : Int) < List.length (GD.L g) ∧ ∃ (g_2 : G36), (SV.val (Value.int IntKind.i64 (List.getD (GD.L g)
  (Int.toNat (↑g_1 : Int)) (0 : Int))) = SV.val (Value.int IntKind.i64 (G36.x g_2)) ∧ SV.rop Po dPo encPo [GD.p g] (0 : Nat) (0 : Nat) = SV.rop Po dPo encPo [G36.p g_2] (0 : Nat) (0
  : Nat) ∧ SV.rop (List Z) [] encZl [GD.l g] (0 : Nat) (0 : Nat) = SV.rop (List Z) [] encZl [G36.l g_2] (0 : Nat) (0 : Nat)) ∧ True ∧ (((1 : Int) ≤ Po.nodes (G36.p g_2) ∧ Po.nodes
  (G36.p g_2) ≤ (15 : Int)) ∧ (∀ (z : Z), z ∈ G36.l g_2 → (0 : Int) ≤ Z.node z ∧ Z.node z < (4 : Int)) ∧ (0 : Int) ≤ G36.x g_2 ∧ G36.x g_2 < (↑(List.length (G36.l g_2)) : Int)) ∧ ∀
  (b : Unit), True → (outB (G36.l g_2) (G36.p g_2) (G36.x g_2) = true → ∃ (b : Unit), True ∧ SV.val (Value.int IntKind.i64 (↑g_1 : Int)) = SV.val (Value.int IntKind.i64 (idxF (outB
  (GD.l g) (GD.p g)) (GD.L g) (0 : Nat))) ∧ (0 : Nat) = (0 : Nat) ∧ True) ∧ (outB (G36.l g_2) (G36.p g_2) (G36.x g_2) = false → inK IntKind.i64 ((↑g_1 : Int) + (1 : Int)) ∧ ∃ (g' :
  Nat), (g' ≤ List.length (GD.L g) ∧ idxF (outB (GD.l g) (GD.p g)) (List.drop g' (GD.L g)) g' = idxF (outB (GD.l g) (GD.p g)) (GD.L g) (0 : Nat)) ∧ List.length (GD.L g) - g' <
  List.length (GD.L g) - g_1 ∧ (↑g_1 : Int) + (1 : Int) = (↑g' : Int) ∧ True ∧ True)) ∧ (decide ((↑g_1 : Int) < (↑(List.length (GD.L g)) : Int)) = false → ∃ (b : Unit), True ∧ SV.val
  (Value.int IntKind.i64 (-1 : Int)) = SV.val (Value.int IntKind.i64 (idxF (outB (GD.l g) (GD.p g)) (GD.L g) (0 : Nat))) ∧ (0 : Nat) = (0 : Nat) ∧ True)) := by kernel_rfl
def keep (f : Int → Bool) (l : List Int) : List Int := l.filter fun p => !f p
structure JDel where
  i : Nat
  j : Nat
  ys : List Int
def invDel (f : Int → Bool) (l : List Int) (q : JDel) : Prop := q.i < q.j ∧ q.j ≤ l.length ∧ q.ys.length = l.length ∧ q.ys.take q.i = keep f (l.take q.j) ∧ q.ys.drop q.j = l.drop q.j
def lDel (f : Int → Bool) (l : List Int) : Loops := loop1 0 { γ := JDel, slots := [5, 6], vals := fun _ q => [I q.i, I q.j], blks := fun _ q => [(0, .arr Int 0 encI q.ys)], inv := invDel f l, μ := fun q => l.length - q.j }
def cDel : Con := { γ := GD, β := List Int, keys := slKeys0, m := 1, args := fun g => [.sl 0 1 0 g.L.length, .clo 36 [bxP g.p, bxZ g.l]], ins := fun g => [.arr Int 0 encI g.L], pre := preD, post := fun g ys => ys.length = g.L.length ∧ ys.take (keep (outB g.l g.p) g.L).length = keep (outB g.l g.p) g.L, res := fun g _ => .sl 0 1 0 (keep (outB g.l g.p) g.L).length, outs := fun g ys => [.arr Int 0 encI ys], new := fun _ _ => none }
theorem vDel_eq : (cDel.body (fun g => env [(36, c36), (45, cIdxF)] (lDel (outB g.l g.p) g.L)) Try.f35) = (∀ (g : GD), ((1 : Int) ≤ Po.nodes (GD.p g) ∧ Po.nodes (GD.p g) ≤ (15 : Int)) ∧ (∀ (z : Z), z ∈ GD.l g → (0 : Int) ≤ Z.node z ∧ Z.node z < (4 : Int)) ∧ (∀ (x : Int), x ∈ GD.L g → (0
  : Int) ≤ x ∧ x < (↑(List.length (GD.l g)) : Int)) ∧ List.length (GD.L g) ≤ (1000000 : Nat) → ∃ (g_1 : GD), (((0 : Nat) + List.length (GD.L g) ≤ List.length (GD.L g) ∧ SV.ro Int (0
  : Int) encI (List.take (List.length (GD.L g)) (List.drop (0 : Nat) (GD.L g))) = SV.ro Int (0 : Int) encI (GD.L g_1)) ∧ (36 : Nat) = (36 : Nat) ∧ SV.rop Po dPo encPo [GD.p g] (0 :
  Nat) (0 : Nat) = SV.rop Po dPo encPo [GD.p g_1] (0 : Nat) (0 : Nat) ∧ SV.rop (List Z) [] encZl [GD.l g] (0 : Nat) (0 : Nat) = SV.rop (List Z) [] encZl [GD.l g_1] (0 : Nat) (0 :
  Nat) ∧ True) ∧ True ∧ (((1 : Int) ≤ Po.nodes (GD.p g_1) ∧ Po.nodes (GD.p g_1) ≤ (15 : Int)) ∧ (∀ (z : Z), z ∈ GD.l g_1 → (0 : Int) ≤ Z.node z ∧ Z.node z < (4 : Int)) ∧ (∀ (x :
  Int), x ∈ GD.L g_1 → (0 : Int) ≤ x ∧ x < (↑(List.length (GD.l g_1)) : Int)) ∧ List.length (GD.L g_1) ≤ (1000000 : Nat)) ∧ ∀ (b : Unit), True → ((idxF (outB (GD.l g_1) (GD.p g_1))
  (GD.L g_1) (0 : Nat) == (-1 : Int)) = true → ∃ (b : List Int), (List.length b = List.length (GD.L g) ∧ List.take (List.length (keep (outB (GD.l g) (GD.p g)) (GD.L g))) b = keep
  (outB (GD.l g) (GD.p g)) (GD.L g)) ∧ ((1 : Nat) = (1 : Nat) ∧ (0 : Nat) = (0 : Nat) ∧ List.length (GD.L g) = List.length (keep (outB (GD.l g) (GD.p g)) (GD.L g))) ∧ (1 : Nat) = (1
  : Nat) ∧ some (LB.arr Int (0 : Int) encI (GD.L g)) = some (LB.arr Int (0 : Int) encI b) ∧ ∀ (x : Int), allFlat (encI x) = true) ∧ ((idxF (outB (GD.l g_1) (GD.p g_1)) (GD.L g_1) (0
  : Nat) == (-1 : Int)) = false → inK IntKind.i64 (idxF (outB (GD.l g_1) (GD.p g_1)) (GD.L g_1) (0 : Nat) + (1 : Int)) ∧ (∃ (g_2 : JDel), (JDel.i g_2 < JDel.j g_2 ∧ JDel.j g_2 ≤
  List.length (GD.L g) ∧ List.length (JDel.ys g_2) = List.length (GD.L g) ∧ List.take (JDel.i g_2) (JDel.ys g_2) = keep (outB (GD.l g) (GD.p g)) (List.take (JDel.j g_2) (GD.L g)) ∧
  List.drop (JDel.j g_2) (JDel.ys g_2) = List.drop (JDel.j g_2) (GD.L g)) ∧ (idxF (outB (GD.l g_1) (GD.p g_1)) (GD.L g_1) (0 : Nat) = (↑(JDel.i g_2) : Int) ∧ idxF (outB (GD.l g_1)
  (GD.p g_1)) (GD.L g_1) (0 : Nat) + (1 : Int) = (↑(JDel.j g_2) : Int)) ∧ (LB.arr Int (0 : Int) encI (GD.L g) = LB.arr Int (0 : Int) encI (JDel.ys g_2) ∧ True) ∧ True) ∧ ∀ (g_2 :
  JDel), JDel.i g_2 < JDel.j g_2 ∧ JDel.j g_2 ≤ List.length (GD.L g) ∧ List.length (JDel.ys g_2) = List.length (GD.L g) ∧ List.take (JDel.i g_2) (JDel.ys g_2) = keep (outB (GD.l g)
  (GD.p g)) (List.take (JDel.j g_2) (GD.L g)) ∧ List.drop (JDel.j g_2) (JDel.ys g_2) = List.drop (JDel.j g_2) (GD.L g) → (decide ((↑(JDel.j g_2) : Int) < (↑(List.length (GD.L g)) :
  Int)) = true → ((0 : Int) ≤ (↑(JDel.j g_2) : Int) ∧ (↑(JDel.j g_2) : Int) < (↑(List.length (GD.L g)) : Int)) ∧ (0 : Nat) + Int.toNat (↑(JDel.j g_2) : Int) < List.length (JDel.ys
  g_2) ∧ ∃ (g_3 : G36), (SV.val (Value.int IntKind.i64 (List.getD (JDel.ys g_2) ((0 : Nat) + Int.toNat (↑(JDel.j g_2) : Int)) (0 : Int))) = SV.val (Value.int IntKind.i64 (G36.x g_3))
  ∧ SV.rop Po dPo encPo [GD.p g] (0 : Nat) (0 : Nat) = SV.rop Po dPo encPo [G36.p g_3] (0 : Nat) (0 : Nat) ∧ SV.rop (List Z) [] encZl [GD.l g] (0 : Nat) (0 : Nat) = SV.rop (List Z)
  [] encZl [G36.l g_3] (0 : Nat) (0 : Nat)) ∧ True ∧ (((1 : Int) ≤ Po.nodes (G36.p g_3) ∧ Po.nodes (G36.p g_3) ≤ (15 : Int)) ∧ (∀ (z : Z), z ∈ G36.l g_3 → (0 : Int) ≤ Z.node z ∧
  Z.node z < (4 : Int)) ∧ (0 : Int) ≤ G36.x g_3 ∧ G36.x g_3 < (↑(List.length (G36.l g_3)) : Int)) ∧ ∀ (b : Unit), True → ((!outB (G36.l g_3) (G36.p g_3) (G36.x g_3)) = true → ((0 :
  Int) ≤ (↑(JDel.i g_2) : Int) ∧ (↑(JDel.i g_2) : Int) < (↑(List.length (GD.L g)) : Int)) ∧ (0 : Nat) + Int.toNat (↑(JDel.i g_2) : Int) < List.length (JDel.ys g_2) ∧ ∃ (x : Int),
  [SV.val (Value.int IntKind.i64 x)] = [SV.val (Value.int IntKind.i64 (List.getD (JDel.ys g_2) ((0 : Nat) + Int.toNat (↑(JDel.j g_2) : Int)) (0 : Int)))] ∧ inK IntKind.i64 ((↑(JDel.i
  g_2) : Int) + (1 : Int)) ∧ inK IntKind.i64 ((↑(JDel.j g_2) : Int) + (1 : Int)) ∧ ∃ (g' : JDel), (JDel.i g' < JDel.j g' ∧ JDel.j g' ≤ List.length (GD.L g) ∧ List.length (JDel.ys g')
  = List.length (GD.L g) ∧ List.take (JDel.i g') (JDel.ys g') = keep (outB (GD.l g) (GD.p g)) (List.take (JDel.j g') (GD.L g)) ∧ List.drop (JDel.j g') (JDel.ys g') = List.drop
  (JDel.j g') (GD.L g)) ∧ List.length (GD.L g) - JDel.j g' < List.length (GD.L g) - JDel.j g_2 ∧ ((↑(JDel.i g_2) : Int) + (1 : Int) = (↑(JDel.i g') : Int) ∧ (↑(JDel.j g_2) : Int) +
  (1 : Int) = (↑(JDel.j g') : Int)) ∧ (LB.arr Int (0 : Int) encI (List.set (JDel.ys g_2) ((0 : Nat) + Int.toNat (↑(JDel.i g_2) : Int)) x) = LB.arr Int (0 : Int) encI (JDel.ys g') ∧
  True) ∧ True) ∧ ((!outB (G36.l g_3) (G36.p g_3) (G36.x g_3)) = false → inK IntKind.i64 ((↑(JDel.j g_2) : Int) + (1 : Int)) ∧ ∃ (g' : JDel), (JDel.i g' < JDel.j g' ∧ JDel.j g' ≤
  List.length (GD.L g) ∧ List.length (JDel.ys g') = List.length (GD.L g) ∧ List.take (JDel.i g') (JDel.ys g') = keep (outB (GD.l g) (GD.p g)) (List.take (JDel.j g') (GD.L g)) ∧
  List.drop (JDel.j g') (JDel.ys g') = List.drop (JDel.j g') (GD.L g)) ∧ List.length (GD.L g) - JDel.j g' < List.length (GD.L g) - JDel.j g_2 ∧ ((↑(JDel.i g_2) : Int) = (↑(JDel.i g')
  : Int) ∧ (↑(JDel.j g_2) : Int) + (1 : Int) = (↑(JDel.j g') : Int)) ∧ (LB.arr Int (0 : Int) encI (JDel.ys g_2) = LB.arr Int (0 : Int) encI (JDel.ys g') ∧ True) ∧ True)) ∧ (decide
  ((↑(JDel.j g_2) : Int) < (↑(List.length (GD.L g)) : Int)) = false → ((0 : Int) ≤ (↑(JDel.i g_2) : Int) ∧ (↑(JDel.i g_2) : Int) ≤ (↑(List.length (GD.L g)) : Int)) ∧ (0 : Nat) +
  Int.toNat (↑(JDel.i g_2) : Int) + (List.length (GD.L g) - Int.toNat (↑(JDel.i g_2) : Int)) ≤ List.length (JDel.ys g_2) ∧ ∃ (z : Int), [SV.val (Value.int IntKind.i64 z)] = [SV.val
  (Value.int IntKind.i64 (0 : Int))] ∧ ((0 : Int) ≤ (↑(JDel.i g_2) : Int) ∧ (↑(JDel.i g_2) : Int) ≤ (↑(List.length (GD.L g)) : Int)) ∧ ∃ (b : List Int), (List.length b = List.length
  (GD.L g) ∧ List.take (List.length (keep (outB (GD.l g) (GD.p g)) (GD.L g))) b = keep (outB (GD.l g) (GD.p g)) (GD.L g)) ∧ ((1 : Nat) = (1 : Nat) ∧ (0 : Nat) = (0 : Nat) ∧ Int.toNat
  (↑(JDel.i g_2) : Int) - (0 : Nat) = List.length (keep (outB (GD.l g) (GD.p g)) (GD.L g))) ∧ (1 : Nat) = (1 : Nat) ∧ some (LB.arr Int (0 : Int) encI (List.take ((0 : Nat) +
  Int.toNat (↑(JDel.i g_2) : Int)) (JDel.ys g_2) ++ List.replicate (List.length (GD.L g) - Int.toNat (↑(JDel.i g_2) : Int)) z ++ List.drop ((0 : Nat) + Int.toNat (↑(JDel.i g_2) :
  Int) + (List.length (GD.L g) - Int.toNat (↑(JDel.i g_2) : Int))) (JDel.ys g_2))) = some (LB.arr Int (0 : Int) encI b) ∧ ∀ (x : Int), allFlat (encI x) = true))) := by kernel_rfl

theorem v36 : c36.body (fun g => env [] (noLoops g)) Try.f36 := by
  rw [v36_eq]
  rintro ⟨l, p, x⟩ ⟨⟨h1, h2⟩, h3, h4, h5⟩
  dsimp only at h1 h2 h3 h4 h5
  have hz := h3 _ (getD_mem (d := dZ) (show x.toNat < l.length by omega))
  have hb := bit_eq (m := p.nodes) (by omega) h2 (i := (l.getD x.toNat dZ).node.toNat) (by omega)
  rw [Int.toNat_of_nonneg hz.1] at hb
  refine ⟨by decide, by decide, ⟨h4, h5⟩, (show x.toNat < l.length by omega), hz.1, (), trivial, ?_, rfl, trivial⟩
  have e : ∀ y : Int, (y = 0 ∨ y = 1) → (y == 0) = !(y == 1) := fun y hy => by rcases hy with rfl | rfl <;> rfl
  have key : ∀ m : Fin 16, ∀ i : Fin 4, (IntKind.wrap IntKind.i64 (↑(BitVec.toNat (BitVec.ofInt 64 (Int.fdiv (m.val : Int) (2 ^ min i.val 64)) &&& BitVec.ofInt 64 1)) : Int) = 0 ∨ IntKind.wrap IntKind.i64 (↑(BitVec.toNat (BitVec.ofInt 64 (Int.fdiv (m.val : Int) (2 ^ min i.val 64)) &&& BitVec.ofInt 64 1)) : Int) = 1) := by decide +kernel
  have := key ⟨p.nodes.toNat, by omega⟩ ⟨(l.getD x.toNat dZ).node.toNat, by omega⟩
  dsimp only at this
  rw [Int.toNat_of_nonneg (show (0 : Int) ≤ p.nodes by omega)] at this
  have e2 := e _ this
  rw [hb] at e2
  exact congrArg (fun b => SV.val (.bool b)) e2
theorem s36 : SpecOk P 36 c36.spec := spec_of c36 (tab_nil P) mixed (fn := Try.f36) (by kernel_rfl) (by kernel_rfl) (by kernel_rfl) (Nat.zero_le _) (noIns fun _ => rfl) v36
theorem vIdxF : cIdxF.body (fun g => env [(36, c36)] (lIdxF g)) Try.f45 := by
  rw [vIdxF_eq]
  rintro ⟨l, p, L⟩ ⟨h1, h2, h3, h4⟩
  dsimp only at h1 h2 h3 h4 ⊢
  refine ⟨⟨0, ⟨Nat.zero_le _, rfl⟩, rfl, trivial, trivial⟩, fun i ⟨hi, ho⟩ => ⟨fun hlt => ?_, fun hge => ⟨(), trivial, ?_, rfl, trivial⟩⟩⟩
  · have hlt : (i : Int) < L.length := of_decide_eq_true hlt
    have hi' : i < L.length := by omega
    rw [drop_getD 0 hi', idxF] at ho
    rw [Int.toNat_natCast]
    refine ⟨⟨by omega, hlt⟩, hi', ⟨l, p, L.getD i 0⟩, ⟨rfl, rfl, rfl⟩, trivial, ⟨h1, h2, h3 _ (getD_mem hi')⟩, fun _ _ => ⟨fun h => ⟨(), trivial, ?_, rfl, trivial⟩, fun h => ⟨inI (by omega) (by omega), i + 1, ⟨hi', ?_⟩, by omega, by omega, trivial, trivial⟩⟩⟩
    · rw [if_pos (show outB l p (L.getD i 0) = true from h)] at ho; rw [ho]
    · rw [if_neg (by rw [show outB l p (L.getD i 0) = false from h]; decide)] at ho; exact ho
  · have hge : ¬ (i : Int) < L.length := of_decide_eq_false hge
    rw [List.drop_eq_nil_of_le (by omega)] at ho
    rw [← ho]; rfl
theorem sIdxF : SpecOk P 45 cIdxF.spec := spec_of cIdxF (tab_cons s36 (tab_nil P)) mixed (fn := Try.f45) (by kernel_rfl) (by kernel_rfl) (by kernel_rfl) (Nat.zero_le _) (noIns fun _ => rfl) vIdxF
section lists
variable {f : Int → Bool} {l : List Int}
theorem keep_next {j : Nat} (h : j < l.length) : keep f (l.take (j + 1)) = keep f (l.take j) ++ if f (l.getD j 0) = true then [] else [l.getD j 0] := by
  rw [take_next l 0 h, keep, keep, List.filter_append]
  congr 1
  cases hf : f (l.getD j 0) <;> simp [hf, -List.getD_eq_getElem?_getD]
theorem idxF_spec (f : Int → Bool) : ∀ (l : List Int) (k : Nat), (idxF f l k = -1 ∧ keep f l = l) ∨ ∃ i : Nat, i < l.length ∧ idxF f l k = ((k + i : Nat) : Int) ∧ keep f (l.take i) = l.take i ∧ f (l.getD i 0) = true
  | [], k => .inl ⟨rfl, rfl⟩
  | q :: r, k => by
    unfold idxF
    by_cases h : f q = true
    · rw [if_pos h]
      exact .inr ⟨0, by simp, by simp, by simp [keep], by simpa using h⟩
    · rw [if_neg h]
      have hq : f q = false := by simpa using h
      rcases idxF_spec f r (k + 1) with ⟨h1, h2⟩ | ⟨i, h1, h2, h3, h4⟩
      · refine .inl ⟨h1, ?_⟩
        have : keep f (q :: r) = q :: keep f r := by simp [keep, hq]
        rw [this, h2]
      · refine .inr ⟨i + 1, by simp; omega, by rw [h2]; congr 1; omega, ?_, by simpa using h4⟩
        have : keep f (q :: r.take i) = q :: keep f (r.take i) := by simp [keep, hq]
        rw [List.take_succ_cons, this, h3]
theorem del_start {i : Nat} (h1 : i < l.length) (h3 : keep f (l.take i) = l.take i) (h4 : f (l.getD i 0) = true) : invDel f l ⟨i, i + 1, l⟩ := by
  refine ⟨Nat.lt_succ_self _, h1, rfl, ?_, rfl⟩
  dsimp only
  rw [keep_next h1, if_pos h4, List.append_nil, h3]
theorem del_get {q : JDel} (h : invDel f l q) (hj : q.j < l.length) : q.ys.getD q.j 0 = l.getD q.j 0 := by
  obtain ⟨_, _, h3, _, h5⟩ := h
  have := congrArg (fun l => l[0]?) h5
  simp only [List.getElem?_drop, Nat.add_zero] at this
  rw [List.getD_eq_getElem?_getD, List.getD_eq_getElem?_getD, this]
theorem del_skip {q : JDel} (h : invDel f l q) (hj : q.j < l.length) (hf : f (q.ys.getD q.j 0) = true) : invDel f l ⟨q.i, q.j + 1, q.ys⟩ := by
  rw [del_get h hj] at hf
  obtain ⟨h1, h2, h3, h4, h5⟩ := h
  refine ⟨by dsimp only; omega, hj, h3, ?_, ?_⟩
  · dsimp only; rw [keep_next hj, if_pos hf, List.append_nil, h4]
  · dsimp only
    have := congrArg (List.drop 1) h5
    simpa [List.drop_drop] using this
theorem del_move {q : JDel} (h : invDel f l q) (hj : q.j < l.length) (hf : f (q.ys.getD q.j 0) = false) : invDel f l ⟨q.i + 1, q.j + 1, q.ys.set q.i (q.ys.getD q.j 0)⟩ := by
  have hg := del_get h hj
  rw [hg] at hf ⊢
  obtain ⟨h1, h2, h3, h4, h5⟩ := h
  refine ⟨by dsimp only; omega, hj, by simpa using h3, ?_, ?_⟩
  · dsimp only
    rw [keep_next hj, if_neg (by rw [hf]; decide), ← h4]
    rw [List.take_add_one, List.take_set_of_le (Nat.le_refl _), List.getElem?_set_self (by omega)]
    rfl
  · dsimp only
    rw [List.drop_set_of_lt (by omega)]
    have := congrArg (List.drop 1) h5
    simpa [List.drop_drop] using this
theorem del_end {q : JDel} (h : invDel f l q) (hj : ¬ q.j < l.length) : q.i = (keep f l).length ∧ q.ys.take q.i = keep f l ∧ q.i ≤ l.length := by
  obtain ⟨h1, h2, h3, h4, h5⟩ := h
  have he : q.j = l.length := by omega
  rw [he, List.take_length] at h4
  refine ⟨?_, h4, by omega⟩
  rw [← h4, List.length_take]; omega
theorem del_out {q : JDel} (h : invDel f l q) (hj : ¬ q.j < l.length) (r : List Int) (hr : r.length = l.length - q.i) : (q.ys.take q.i ++ r).length = l.length ∧ (q.ys.take q.i ++ r).take (keep f l).length = keep f l := by
  obtain ⟨h1, h2, h3⟩ := del_end h hj
  rw [h2]
  refine ⟨?_, List.take_left⟩
  rw [List.length_append, hr, ← h1]; omega
end lists
theorem vDel : cDel.body (fun g => env [(36, c36), (45, cIdxF)] (lDel (outB g.l g.p) g.L)) Try.f35 := by
  rw [vDel_eq]
  rintro ⟨l, p, L⟩ ⟨h1, h2, h3, h4⟩
  dsimp only at h1 h2 h3 h4 ⊢
  refine ⟨⟨l, p, L⟩, ⟨⟨Nat.le_of_eq (Nat.zero_add _), by rw [List.drop_zero, List.take_length]⟩, rfl, rfl, rfl, trivial⟩, trivial, ⟨h1, h2, h3, h4⟩, fun _ _ => ⟨fun hm => ?_, fun hm => ?_⟩⟩
  · have hm : idxF (outB l p) L 0 = -1 := by simpa using hm
    have hk : keep (outB l p) L = L := by
      rcases idxF_spec (outB l p) L 0 with ⟨_, h⟩ | ⟨i, _, h, _⟩
      · exact h
      · rw [h] at hm; omega
    exact ⟨L, ⟨rfl, by rw [hk, List.take_length]⟩, ⟨rfl, rfl, by rw [hk]⟩, rfl, rfl, flI⟩
  · have hm : idxF (outB l p) L 0 ≠ -1 := by simpa using hm
    rcases idxF_spec (outB l p) L 0 with ⟨h, _⟩ | ⟨i, i1, i2, i3, i4⟩
    · exact absurd h hm
    · rw [Nat.zero_add] at i2
      rw [i2]
      refine ⟨inI (by omega) (by omega), ⟨⟨i, i + 1, L⟩, del_start i1 i3 i4, ⟨rfl, by simp⟩, ⟨rfl, trivial⟩, trivial⟩, fun q hq => ⟨fun hj => ?_, fun hj => ?_⟩⟩
      · have hq := (show invDel (outB l p) L q from hq)
        have hj : (q.j : Int) < L.length := of_decide_eq_true hj
        have hj' : q.j < L.length := by omega
        have hij : q.i < q.j := hq.1
        have hys : q.ys.length = L.length := hq.2.2.1
        have hgm : q.ys.getD q.j 0 ∈ L := by rw [del_get hq hj']; exact getD_mem hj'
        rw [Int.toNat_natCast, Int.toNat_natCast, Nat.zero_add, Nat.zero_add]
        refine ⟨⟨by omega, hj⟩, by omega, ⟨l, p, q.ys.getD q.j 0⟩, ⟨rfl, rfl, rfl⟩, trivial, ⟨h1, h2, h3 _ hgm⟩, fun _ _ => ⟨fun h => ?_, fun h => ?_⟩⟩
        · have h : outB l p (q.ys.getD q.j 0) = false := by simpa using h
          exact ⟨⟨by omega, by omega⟩, by omega, q.ys.getD q.j 0, rfl, inI (by omega) (by omega), inI (by omega) (by omega), ⟨q.i + 1, q.j + 1, q.ys.set q.i (q.ys.getD q.j 0)⟩, del_move hq hj' h, by dsimp only; omega, ⟨rfl, rfl⟩, ⟨rfl, trivial⟩, trivial⟩
        · have h : outB l p (q.ys.getD q.j 0) = true := by simpa using h
          exact ⟨inI (by omega) (by omega), ⟨q.i, q.j + 1, q.ys⟩, del_skip hq hj' h, by dsimp only; omega, ⟨rfl, rfl⟩, ⟨rfl, trivial⟩, trivial⟩
      · have hq := (show invDel (outB l p) L q from hq)
        have hj : ¬ (q.j : Int) < L.length := of_decide_eq_false hj
        have hj' : ¬ q.j < L.length := by omega
        have hys : q.ys.length = L.length := hq.2.2.1
        obtain ⟨e1, e2, e3⟩ := del_end hq hj'
        rw [Int.toNat_natCast, Nat.zero_add, Nat.sub_zero]
        have hd : q.ys.drop (q.i + (L.length - q.i)) = [] := List.drop_eq_nil_of_le (by omega)
        rw [hd]
        have ho := del_out hq hj' (List.replicate (L.length - q.i) 0) (by simp)
        exact ⟨⟨by omega, by omega⟩, by omega, 0, rfl, ⟨by omega, by omega⟩, q.ys.take q.i ++ List.replicate (L.length - q.i) 0 ++ [], by rw [List.append_nil]; exact ho, ⟨rfl, rfl, e1⟩, rfl, rfl, flI⟩
theorem sDel : SpecOk P 35 cDel.spec := spec_of cDel (tab_cons s36 (tab_cons sIdxF (tab_nil P))) mixed (fn := Try.f35) (by kernel_rfl) (by kernel_rfl) (by kernel_rfl) (by decide) (fun g lb _ hm => one_in hm) vDel

/-! zonelist.Pick -/
theorem vPick_eq : (cRPick.body (fun g => env [(13, cCheck), (24, cCheckN), (34, cMasked), (17, cROrder), (35, cDel)] (noLoops g)) Try.f20) = (∀ (g : GP), List.length (GP.l g) ≤ (1000000000 : Nat) → ∃ (g_1 : List Z), SV.ro Z dZ encZ (GP.l g) = SV.ro Z dZ encZ g_1 ∧ True ∧ List.length g_1 ≤ (1000000000 : Nat) ∧ ∀ (b :
  Unit), True → ((chk g_1 != (0 : Int)) = true → ∃ (b : Unit), True ∧ (((SV.val (Value.slice none (0 : Nat) (0 : Nat)) = SV.val (Value.slice none (0 : Nat) (0 : Nat)) ∧ (0 : Nat) =
  (0 : Nat) ∧ List.length (pickO g) = (0 : Nat)) ∧ SV.val (Value.int IntKind.i64 (chk g_1)) = SV.val (Value.int IntKind.i64 (pickE (GP.l g) (GP.p g) (GP.node g)))) ∧ (∀ (x : Int),
  allFlat (encI x) = true) ∧ pickO g = [] ∧ ∀ (x : Int), (1 : Nat) = (1 : Nat) ∧ allOne (encI x) = true) ∧ (0 : Nat) = (0 : Nat) ∧ True) ∧ ((chk g_1 != (0 : Int)) = false → (decide
  (Po.kind (GP.p g) < (0 : Int)) = true → ∃ (b : Unit), True ∧ (((SV.val (Value.slice none (0 : Nat) (0 : Nat)) = SV.val (Value.slice none (0 : Nat) (0 : Nat)) ∧ (0 : Nat) = (0 :
  Nat) ∧ List.length (pickO g) = (0 : Nat)) ∧ SV.val (Value.int IntKind.i64 (1 : Int)) = SV.val (Value.int IntKind.i64 (pickE (GP.l g) (GP.p g) (GP.node g)))) ∧ (∀ (x : Int), allFlat
  (encI x) = true) ∧ pickO g = [] ∧ ∀ (x : Int), (1 : Nat) = (1 : Nat) ∧ allOne (encI x) = true) ∧ (0 : Nat) = (0 : Nat) ∧ True) ∧ (decide (Po.kind (GP.p g) < (0 : Int)) = false →
  (decide (Po.kind (GP.p g) > (3 : Int)) = true → ∃ (b : Unit), True ∧ (((SV.val (Value.slice none (0 : Nat) (0 : Nat)) = SV.val (Value.slice none (0 : Nat) (0 : Nat)) ∧ (0 : Nat) =
  (0 : Nat) ∧ List.length (pickO g) = (0 : Nat)) ∧ SV.val (Value.int IntKind.i64 (1 : Int)) = SV.val (Value.int IntKind.i64 (pickE (GP.l g) (GP.p g) (GP.node g)))) ∧ (∀ (x : Int),
  allFlat (encI x) = true) ∧ pickO g = [] ∧ ∀ (x : Int), (1 : Nat) = (1 : Nat) ∧ allOne (encI x) = true) ∧ (0 : Nat) = (0 : Nat) ∧ True) ∧ (decide (Po.kind (GP.p g) > (3 : Int)) =
  false → ((Po.kind (GP.p g) != (0 : Int)) = true → (decide (Po.nodes (GP.p g) < (1 : Int)) = true → ∃ (b : Unit), True ∧ (((SV.val (Value.slice none (0 : Nat) (0 : Nat)) = SV.val
  (Value.slice none (0 : Nat) (0 : Nat)) ∧ (0 : Nat) = (0 : Nat) ∧ List.length (pickO g) = (0 : Nat)) ∧ SV.val (Value.int IntKind.i64 (1 : Int)) = SV.val (Value.int IntKind.i64
  (pickE (GP.l g) (GP.p g) (GP.node g)))) ∧ (∀ (x : Int), allFlat (encI x) = true) ∧ pickO g = [] ∧ ∀ (x : Int), (1 : Nat) = (1 : Nat) ∧ allOne (encI x) = true) ∧ (0 : Nat) = (0 :
  Nat) ∧ True) ∧ (decide (Po.nodes (GP.p g) < (1 : Int)) = false → (decide (Po.nodes (GP.p g) > (15 : Int)) = true → ∃ (b : Unit), True ∧ (((SV.val (Value.slice none (0 : Nat) (0 :
  Nat)) = SV.val (Value.slice none (0 : Nat) (0 : Nat)) ∧ (0 : Nat) = (0 : Nat) ∧ List.length (pickO g) = (0 : Nat)) ∧ SV.val (Value.int IntKind.i64 (1 : Int)) = SV.val (Value.int
  IntKind.i64 (pickE (GP.l g) (GP.p g) (GP.node g)))) ∧ (∀ (x : Int), allFlat (encI x) = true) ∧ pickO g = [] ∧ ∀ (x : Int), (1 : Nat) = (1 : Nat) ∧ allOne (encI x) = true) ∧ (0 :
  Nat) = (0 : Nat) ∧ True) ∧ (decide (Po.nodes (GP.p g) > (15 : Int)) = false → ((Po.kind (GP.p g) == (3 : Int)) = true → (decide (Po.turn (GP.p g) < (0 : Int)) = true → ∃ (b :
  Unit), True ∧ (((SV.val (Value.slice none (0 : Nat) (0 : Nat)) = SV.val (Value.slice none (0 : Nat) (0 : Nat)) ∧ (0 : Nat) = (0 : Nat) ∧ List.length (pickO g) = (0 : Nat)) ∧ SV.val
  (Value.int IntKind.i64 (1 : Int)) = SV.val (Value.int IntKind.i64 (pickE (GP.l g) (GP.p g) (GP.node g)))) ∧ (∀ (x : Int), allFlat (encI x) = true) ∧ pickO g = [] ∧ ∀ (x : Int), (1
  : Nat) = (1 : Nat) ∧ allOne (encI x) = true) ∧ (0 : Nat) = (0 : Nat) ∧ True) ∧ (decide (Po.turn (GP.p g) < (0 : Int)) = false → ∃ (g_2 : List Z × Int), (SV.ro Z dZ encZ (GP.l g) =
  SV.ro Z dZ encZ (Prod.fst g_2) ∧ SV.val (Value.int IntKind.i64 (GP.node g)) = SV.val (Value.int IntKind.i64 (Prod.snd g_2))) ∧ True ∧ List.length (Prod.fst g_2) ≤ (1000000000 :
  Nat) ∧ ∀ (b : Unit), True → ((checkN (Prod.fst g_2) (Prod.snd g_2) != (0 : Int)) = true → ∃ (b : Unit), True ∧ (((SV.val (Value.slice none (0 : Nat) (0 : Nat)) = SV.val
  (Value.slice none (0 : Nat) (0 : Nat)) ∧ (0 : Nat) = (0 : Nat) ∧ List.length (pickO g) = (0 : Nat)) ∧ SV.val (Value.int IntKind.i64 (checkN (Prod.fst g_2) (Prod.snd g_2))) = SV.val
  (Value.int IntKind.i64 (pickE (GP.l g) (GP.p g) (GP.node g)))) ∧ (∀ (x : Int), allFlat (encI x) = true) ∧ pickO g = [] ∧ ∀ (x : Int), (1 : Nat) = (1 : Nat) ∧ allOne (encI x) =
  true) ∧ (0 : Nat) = (0 : Nat) ∧ True) ∧ ((checkN (Prod.fst g_2) (Prod.snd g_2) != (0 : Int)) = false → ((Po.kind (GP.p g) == (1 : Int)) = true → ∃ (g_3 : Int), SV.val (Value.int
  IntKind.i64 (Po.nodes (GP.p g))) = SV.val (Value.int IntKind.i64 g_3) ∧ True ∧ ((1 : Int) ≤ g_3 ∧ g_3 ≤ (15 : Int)) ∧ ∀ (b : Unit), True → ((0 : Int) ≤ (0 : Int) ∧ (0 : Int) <
  (↑(List.length (maskL g_3)) : Int)) ∧ (0 : Nat) < List.length (maskL g_3) ∧ ∃ (g_4 : GO), (SV.ro Z dZ encZ (GP.l g) = SV.ro Z dZ encZ (GO.l g_4) ∧ SV.val (Value.int IntKind.i64
  (List.getD (maskL g_3) (0 : Nat) (0 : Int))) = SV.val (Value.int IntKind.i64 (GO.node g_4)) ∧ SV.val (Value.bool (GP.kernel g)) = SV.val (Value.bool (GO.kernel g_4))) ∧ True ∧
  List.length (GO.l g_4) ≤ (1000000000 : Nat) ∧ ∀ (b : Unit), True → ∃ (b : Unit), True ∧ (((SV.sl (448 : Nat) (1 : Nat) (0 : Nat) (List.length (ordO (GO.l g_4) (GO.node g_4)
  (GO.kernel g_4))) = SV.sl (448 : Nat) (1 : Nat) (0 : Nat) (List.length (ordO (GO.l g_4) (GO.node g_4) (GO.kernel g_4))) ∧ (0 : Nat) = (0 : Nat) ∧ (1 : Nat) = (1 : Nat) ∧
  List.length (ordO (GO.l g_4) (GO.node g_4) (GO.kernel g_4)) = List.length (pickO g)) ∧ SV.val (Value.int IntKind.i64 (checkN (GO.l g_4) (GO.node g_4))) = SV.val (Value.int
  IntKind.i64 (pickE (GP.l g) (GP.p g) (GP.node g)))) ∧ (∀ (x : Int), allFlat (encI x) = true) ∧ (0 : Nat) + List.length (ordO (GO.l g_4) (GO.node g_4) (GO.kernel g_4)) ≤ List.length
  (ordO (GO.l g_4) (GO.node g_4) (GO.kernel g_4)) ∧ LB.arr Int (0 : Int) encI (List.take (List.length (ordO (GO.l g_4) (GO.node g_4) (GO.kernel g_4))) (List.drop (0 : Nat) (ordO
  (GO.l g_4) (GO.node g_4) (GO.kernel g_4)))) = LB.arr Int (0 : Int) encI (pickO g)) ∧ (0 : Nat) = (0 : Nat) ∧ True) ∧ ((Po.kind (GP.p g) == (1 : Int)) = false → ((Po.kind (GP.p g)
  == (3 : Int)) = true → ∃ (g_3 : Int), SV.val (Value.int IntKind.i64 (Po.nodes (GP.p g))) = SV.val (Value.int IntKind.i64 g_3) ∧ True ∧ ((1 : Int) ≤ g_3 ∧ g_3 ≤ (15 : Int)) ∧ ∀ (b :
  Unit), True → (↑(List.length (maskL g_3)) : Int) ≠ (0 : Int) ∧ ((0 : Int) ≤ Int.tmod (Po.turn (GP.p g)) (↑(List.length (maskL g_3)) : Int) ∧ Int.tmod (Po.turn (GP.p g))
  (↑(List.length (maskL g_3)) : Int) < (↑(List.length (maskL g_3)) : Int)) ∧ (0 : Nat) + Int.toNat (Int.tmod (Po.turn (GP.p g)) (↑(List.length (maskL g_3)) : Int)) < List.length
  (maskL g_3) ∧ ∃ (g_4 : GO), (SV.ro Z dZ encZ (GP.l g) = SV.ro Z dZ encZ (GO.l g_4) ∧ SV.val (Value.int IntKind.i64 (List.getD (maskL g_3) ((0 : Nat) + Int.toNat (Int.tmod (Po.turn
  (GP.p g)) (↑(List.length (maskL g_3)) : Int))) (0 : Int))) = SV.val (Value.int IntKind.i64 (GO.node g_4)) ∧ SV.val (Value.bool (GP.kernel g)) = SV.val (Value.bool (GO.kernel g_4)))
  ∧ True ∧ List.length (GO.l g_4) ≤ (1000000000 : Nat) ∧ ∀ (b : Unit), True → ∃ (b : Unit), True ∧ (((SV.sl (520 : Nat) (1 : Nat) (0 : Nat) (List.length (ordO (GO.l g_4) (GO.node
  g_4) (GO.kernel g_4))) = SV.sl (520 : Nat) (1 : Nat) (0 : Nat) (List.length (ordO (GO.l g_4) (GO.node g_4) (GO.kernel g_4))) ∧ (0 : Nat) = (0 : Nat) ∧ (1 : Nat) = (1 : Nat) ∧
  List.length (ordO (GO.l g_4) (GO.node g_4) (GO.kernel g_4)) = List.length (pickO g)) ∧ SV.val (Value.int IntKind.i64 (checkN (GO.l g_4) (GO.node g_4))) = SV.val (Value.int
  IntKind.i64 (pickE (GP.l g) (GP.p g) (GP.node g)))) ∧ (∀ (x : Int), allFlat (encI x) = true) ∧ (0 : Nat) + List.length (ordO (GO.l g_4) (GO.node g_4) (GO.kernel g_4)) ≤ List.length
  (ordO (GO.l g_4) (GO.node g_4) (GO.kernel g_4)) ∧ LB.arr Int (0 : Int) encI (List.take (List.length (ordO (GO.l g_4) (GO.node g_4) (GO.kernel g_4))) (List.drop (0 : Nat) (ordO
  (GO.l g_4) (GO.node g_4) (GO.kernel g_4)))) = LB.arr Int (0 : Int) encI (pickO g)) ∧ (0 : Nat) = (0 : Nat) ∧ True) ∧ ((Po.kind (GP.p g) == (3 : Int)) = false → ∃ (g_3 : GO), (SV.ro
  Z dZ encZ (GP.l g) = SV.ro Z dZ encZ (GO.l g_3) ∧ SV.val (Value.int IntKind.i64 (GP.node g)) = SV.val (Value.int IntKind.i64 (GO.node g_3)) ∧ SV.val (Value.bool (GP.kernel g)) =
  SV.val (Value.bool (GO.kernel g_3))) ∧ True ∧ List.length (GO.l g_3) ≤ (1000000000 : Nat) ∧ ∀ (b : Unit), True → ((Po.kind (GP.p g) == (2 : Int)) = true → ∃ (g_4 : GD), (((1 : Nat)
  = (1 : Nat) ∧ (0 : Nat) = (0 : Nat) ∧ List.length (ordO (GO.l g_3) (GO.node g_3) (GO.kernel g_3)) = List.length (GD.L g_4)) ∧ (36 : Nat) = (36 : Nat) ∧ ((0 : Nat) = (0 : Nat) ∧ (∀
  (x : Po), (3 : Nat) = (3 : Nat) ∧ allOne (encPo x) = true) ∧ SV.val (Value.int IntKind.i64 (Po.kind (GP.p g))) = SV.val (Value.int IntKind.i64 (Po.kind (GD.p g_4))) ∧ SV.val
  (Value.int IntKind.i64 (Po.nodes (GP.p g))) = SV.val (Value.int IntKind.i64 (Po.nodes (GD.p g_4))) ∧ SV.val (Value.int IntKind.i64 (Po.turn (GP.p g))) = SV.val (Value.int
  IntKind.i64 (Po.turn (GD.p g_4)))) ∧ ((0 : Nat) = (0 : Nat) ∧ (∀ (x : List Z), (1 : Nat) = (1 : Nat) ∧ allOne (encZl x) = true) ∧ SV.ro Z dZ encZ (GP.l g) = SV.ro Z dZ encZ (GD.l
  g_4)) ∧ True) ∧ some (LB.arr Int (0 : Int) encI (ordO (GO.l g_3) (GO.node g_3) (GO.kernel g_3))) = some (LB.arr Int (0 : Int) encI (GD.L g_4)) ∧ (((1 : Int) ≤ Po.nodes (GD.p g_4) ∧
  Po.nodes (GD.p g_4) ≤ (15 : Int)) ∧ (∀ (z : Z), z ∈ GD.l g_4 → (0 : Int) ≤ Z.node z ∧ Z.node z < (4 : Int)) ∧ (∀ (x : Int), x ∈ GD.L g_4 → (0 : Int) ≤ x ∧ x < (↑(List.length (GD.l
  g_4)) : Int)) ∧ List.length (GD.L g_4) ≤ (1000000 : Nat)) ∧ ∀ (b : List Int), List.length b = List.length (GD.L g_4) ∧ List.take (List.length (keep (outB (GD.l g_4) (GD.p g_4))
  (GD.L g_4))) b = keep (outB (GD.l g_4) (GD.p g_4)) (GD.L g_4) → ∃ (b_1 : Unit), True ∧ (((SV.sl (432 : Nat) (1 : Nat) (0 : Nat) (List.length (keep (outB (GD.l g_4) (GD.p g_4))
  (GD.L g_4))) = SV.sl (432 : Nat) (1 : Nat) (0 : Nat) (List.length (keep (outB (GD.l g_4) (GD.p g_4)) (GD.L g_4))) ∧ (0 : Nat) = (0 : Nat) ∧ (1 : Nat) = (1 : Nat) ∧ List.length
  (keep (outB (GD.l g_4) (GD.p g_4)) (GD.L g_4)) = List.length (pickO g)) ∧ SV.val (Value.int IntKind.i64 (checkN (GO.l g_3) (GO.node g_3))) = SV.val (Value.int IntKind.i64 (pickE
  (GP.l g) (GP.p g) (GP.node g)))) ∧ (∀ (x : Int), allFlat (encI x) = true) ∧ (0 : Nat) + List.length (keep (outB (GD.l g_4) (GD.p g_4)) (GD.L g_4)) ≤ List.length b ∧ LB.arr Int (0 :
  Int) encI (List.take (List.length (keep (outB (GD.l g_4) (GD.p g_4)) (GD.L g_4))) (List.drop (0 : Nat) b)) = LB.arr Int (0 : Int) encI (pickO g)) ∧ (0 : Nat) = (0 : Nat) ∧ True) ∧
  ((Po.kind (GP.p g) == (2 : Int)) = false → ∃ (b : Unit), True ∧ (((SV.sl (432 : Nat) (1 : Nat) (0 : Nat) (List.length (ordO (GO.l g_3) (GO.node g_3) (GO.kernel g_3))) = SV.sl (432
  : Nat) (1 : Nat) (0 : Nat) (List.length (ordO (GO.l g_3) (GO.node g_3) (GO.kernel g_3))) ∧ (0 : Nat) = (0 : Nat) ∧ (1 : Nat) = (1 : Nat) ∧ List.length (ordO (GO.l g_3) (GO.node
  g_3) (GO.kernel g_3)) = List.length (pickO g)) ∧ SV.val (Value.int IntKind.i64 (checkN (GO.l g_3) (GO.node g_3))) = SV.val (Value.int IntKind.i64 (pickE (GP.l g) (GP.p g) (GP.node
  g)))) ∧ (∀ (x : Int), allFlat (encI x) = true) ∧ (0 : Nat) + List.length (ordO (GO.l g_3) (GO.node g_3) (GO.kernel g_3)) ≤ List.length (ordO (GO.l g_3) (GO.node g_3) (GO.kernel
  g_3)) ∧ LB.arr Int (0 : Int) encI (List.take (List.length (ordO (GO.l g_3) (GO.node g_3) (GO.kernel g_3))) (List.drop (0 : Nat) (ordO (GO.l g_3) (GO.node g_3) (GO.kernel g_3)))) =
  LB.arr Int (0 : Int) encI (pickO g)) ∧ (0 : Nat) = (0 : Nat) ∧ True)))))) ∧ ((Po.kind (GP.p g) == (3 : Int)) = false → ∃ (g_2 : List Z × Int), (SV.ro Z dZ encZ (GP.l g) = SV.ro Z
  dZ encZ (Prod.fst g_2) ∧ SV.val (Value.int IntKind.i64 (GP.node g)) = SV.val (Value.int IntKind.i64 (Prod.snd g_2))) ∧ True ∧ List.length (Prod.fst g_2) ≤ (1000000000 : Nat) ∧ ∀ (b
  : Unit), True → ((checkN (Prod.fst g_2) (Prod.snd g_2) != (0 : Int)) = true → ∃ (b : Unit), True ∧ (((SV.val (Value.slice none (0 : Nat) (0 : Nat)) = SV.val (Value.slice none (0 :
  Nat) (0 : Nat)) ∧ (0 : Nat) = (0 : Nat) ∧ List.length (pickO g) = (0 : Nat)) ∧ SV.val (Value.int IntKind.i64 (checkN (Prod.fst g_2) (Prod.snd g_2))) = SV.val (Value.int IntKind.i64
  (pickE (GP.l g) (GP.p g) (GP.node g)))) ∧ (∀ (x : Int), allFlat (encI x) = true) ∧ pickO g = [] ∧ ∀ (x : Int), (1 : Nat) = (1 : Nat) ∧ allOne (encI x) = true) ∧ (0 : Nat) = (0 :
  Nat) ∧ True) ∧ ((checkN (Prod.fst g_2) (Prod.snd g_2) != (0 : Int)) = false → ((Po.kind (GP.p g) == (1 : Int)) = true → ∃ (g_3 : Int), SV.val (Value.int IntKind.i64 (Po.nodes (GP.p
  g))) = SV.val (Value.int IntKind.i64 g_3) ∧ True ∧ ((1 : Int) ≤ g_3 ∧ g_3 ≤ (15 : Int)) ∧ ∀ (b : Unit), True → ((0 : Int) ≤ (0 : Int) ∧ (0 : Int) < (↑(List.length (maskL g_3)) :
  Int)) ∧ (0 : Nat) < List.length (maskL g_3) ∧ ∃ (g_4 : GO), (SV.ro Z dZ encZ (GP.l g) = SV.ro Z dZ encZ (GO.l g_4) ∧ SV.val (Value.int IntKind.i64 (List.getD (maskL g_3) (0 : Nat)
  (0 : Int))) = SV.val (Value.int IntKind.i64 (GO.node g_4)) ∧ SV.val (Value.bool (GP.kernel g)) = SV.val (Value.bool (GO.kernel g_4))) ∧ True ∧ List.length (GO.l g_4) ≤ (1000000000
  : Nat) ∧ ∀ (b : Unit), True → ∃ (b : Unit), True ∧ (((SV.sl (448 : Nat) (1 : Nat) (0 : Nat) (List.length (ordO (GO.l g_4) (GO.node g_4) (GO.kernel g_4))) = SV.sl (448 : Nat) (1 :
  Nat) (0 : Nat) (List.length (ordO (GO.l g_4) (GO.node g_4) (GO.kernel g_4))) ∧ (0 : Nat) = (0 : Nat) ∧ (1 : Nat) = (1 : Nat) ∧ List.length (ordO (GO.l g_4) (GO.node g_4) (GO.kernel
  g_4)) = List.length (pickO g)) ∧ SV.val (Value.int IntKind.i64 (checkN (GO.l g_4) (GO.node g_4))) = SV.val (Value.int IntKind.i64 (pickE (GP.l g) (GP.p g) (GP.node g)))) ∧ (∀ (x :
  Int), allFlat (encI x) = true) ∧ (0 : Nat) + List.length (ordO (GO.l g_4) (GO.node g_4) (GO.kernel g_4)) ≤ List.length (ordO (GO.l g_4) (GO.node g_4) (GO.kernel g_4)) ∧ LB.arr Int
  (0 : Int) encI (List.take (List.length (ordO (GO.l g_4) (GO.node g_4) (GO.kernel g_4))) (List.drop (0 : Nat) (ordO (GO.l g_4) (GO.node g_4) (GO.kernel g_4)))) = LB.arr Int (0 :
  Int) encI (pickO g)) ∧ (0 : Nat) = (0 : Nat) ∧ True) ∧ ((Po.kind (GP.p g) == (1 : Int)) = false → ((Po.kind (GP.p g) == (3 : Int)) = true → ∃ (g_3 : Int), SV.val (Value.int
  IntKind.i64 (Po.nodes (GP.p g))) = SV.val (Value.int IntKind.i64 g_3) ∧ True ∧ ((1 : Int) ≤ g_3 ∧ g_3 ≤ (15 : Int)) ∧ ∀ (b : Unit), True → (↑(List.length (maskL g_3)) : Int) ≠ (0 :
  Int) ∧ ((0 : Int) ≤ Int.tmod (Po.turn (GP.p g)) (↑(List.length (maskL g_3)) : Int) ∧ Int.tmod (Po.turn (GP.p g)) (↑(List.length (maskL g_3)) : Int) < (↑(List.length (maskL g_3)) :
  Int)) ∧ (0 : Nat) + Int.toNat (Int.tmod (Po.turn (GP.p g)) (↑(List.length (maskL g_3)) : Int)) < List.length (maskL g_3) ∧ ∃ (g_4 : GO), (SV.ro Z dZ encZ (GP.l g) = SV.ro Z dZ encZ
  (GO.l g_4) ∧ SV.val (Value.int IntKind.i64 (List.getD (maskL g_3) ((0 : Nat) + Int.toNat (Int.tmod (Po.turn (GP.p g)) (↑(List.length (maskL g_3)) : Int))) (0 : Int))) = SV.val
  (Value.int IntKind.i64 (GO.node g_4)) ∧ SV.val (Value.bool (GP.kernel g)) = SV.val (Value.bool (GO.kernel g_4))) ∧ True ∧ List.length (GO.l g_4) ≤ (1000000000 : Nat) ∧ ∀ (b :
  Unit), True → ∃ (b : Unit), True ∧ (((SV.sl (520 : Nat) (1 : Nat) (0 : Nat) (List.length (ordO (GO.l g_4) (GO.node g_4) (GO.kernel g_4))) = SV.sl (520 : Nat) (1 : Nat) (0 : Nat)
  (List.length (ordO (GO.l g_4) (GO.node g_4) (GO.kernel g_4))) ∧ (0 : Nat) = (0 : Nat) ∧ (1 : Nat) = (1 : Nat) ∧ List.length (ordO (GO.l g_4) (GO.node g_4) (GO.kernel g_4)) =
  List.length (pickO g)) ∧ SV.val (Value.int IntKind.i64 (checkN (GO.l g_4) (GO.node g_4))) = SV.val (Value.int IntKind.i64 (pickE (GP.l g) (GP.p g) (GP.node g)))) ∧ (∀ (x : Int),
  allFlat (encI x) = true) ∧ (0 : Nat) + List.length (ordO (GO.l g_4) (GO.node g_4) (GO.kernel g_4)) ≤ List.length (ordO (GO.l g_4) (GO.node g_4) (GO.kernel g_4)) ∧ LB.arr Int (0 :
  Int) encI (List.take (List.length (ordO (GO.l g_4) (GO.node g_4) (GO.kernel g_4))) (List.drop (0 : Nat) (ordO (GO.l g_4) (GO.node g_4) (GO.kernel g_4)))) = LB.arr Int (0 : Int)
  encI (pickO g)) ∧ (0 : Nat) = (0 : Nat) ∧ True) ∧ ((Po.kind (GP.p g) == (3 : Int)) = false → ∃ (g_3 : GO), (SV.ro Z dZ encZ (GP.l g) = SV.ro Z dZ encZ (GO.l g_3) ∧ SV.val
  (Value.int IntKind.i64 (GP.node g)) = SV.val (Value.int IntKind.i64 (GO.node g_3)) ∧ SV.val (Value.bool (GP.kernel g)) = SV.val (Value.bool (GO.kernel g_3))) ∧ True ∧ List.length
  (GO.l g_3) ≤ (1000000000 : Nat) ∧ ∀ (b : Unit), True → ((Po.kind (GP.p g) == (2 : Int)) = true → ∃ (g_4 : GD), (((1 : Nat) = (1 : Nat) ∧ (0 : Nat) = (0 : Nat) ∧ List.length (ordO
  (GO.l g_3) (GO.node g_3) (GO.kernel g_3)) = List.length (GD.L g_4)) ∧ (36 : Nat) = (36 : Nat) ∧ ((0 : Nat) = (0 : Nat) ∧ (∀ (x : Po), (3 : Nat) = (3 : Nat) ∧ allOne (encPo x) =
  true) ∧ SV.val (Value.int IntKind.i64 (Po.kind (GP.p g))) = SV.val (Value.int IntKind.i64 (Po.kind (GD.p g_4))) ∧ SV.val (Value.int IntKind.i64 (Po.nodes (GP.p g))) = SV.val
  (Value.int IntKind.i64 (Po.nodes (GD.p g_4))) ∧ SV.val (Value.int IntKind.i64 (Po.turn (GP.p g))) = SV.val (Value.int IntKind.i64 (Po.turn (GD.p g_4)))) ∧ ((0 : Nat) = (0 : Nat) ∧
  (∀ (x : List Z), (1 : Nat) = (1 : Nat) ∧ allOne (encZl x) = true) ∧ SV.ro Z dZ encZ (GP.l g) = SV.ro Z dZ encZ (GD.l g_4)) ∧ True) ∧ some (LB.arr Int (0 : Int) encI (ordO (GO.l
  g_3) (GO.node g_3) (GO.kernel g_3))) = some (LB.arr Int (0 : Int) encI (GD.L g_4)) ∧ (((1 : Int) ≤ Po.nodes (GD.p g_4) ∧ Po.nodes (GD.p g_4) ≤ (15 : Int)) ∧ (∀ (z : Z), z ∈ GD.l
  g_4 → (0 : Int) ≤ Z.node z ∧ Z.node z < (4 : Int)) ∧ (∀ (x : Int), x ∈ GD.L g_4 → (0 : Int) ≤ x ∧ x < (↑(List.length (GD.l g_4)) : Int)) ∧ List.length (GD.L g_4) ≤ (1000000 : Nat))
  ∧ ∀ (b : List Int), List.length b = List.length (GD.L g_4) ∧ List.take (List.length (keep (outB (GD.l g_4) (GD.p g_4)) (GD.L g_4))) b = keep (outB (GD.l g_4) (GD.p g_4)) (GD.L g_4)
  → ∃ (b_1 : Unit), True ∧ (((SV.sl (432 : Nat) (1 : Nat) (0 : Nat) (List.length (keep (outB (GD.l g_4) (GD.p g_4)) (GD.L g_4))) = SV.sl (432 : Nat) (1 : Nat) (0 : Nat) (List.length
  (keep (outB (GD.l g_4) (GD.p g_4)) (GD.L g_4))) ∧ (0 : Nat) = (0 : Nat) ∧ (1 : Nat) = (1 : Nat) ∧ List.length (keep (outB (GD.l g_4) (GD.p g_4)) (GD.L g_4)) = List.length (pickO
  g)) ∧ SV.val (Value.int IntKind.i64 (checkN (GO.l g_3) (GO.node g_3))) = SV.val (Value.int IntKind.i64 (pickE (GP.l g) (GP.p g) (GP.node g)))) ∧ (∀ (x : Int), allFlat (encI x) =
  true) ∧ (0 : Nat) + List.length (keep (outB (GD.l g_4) (GD.p g_4)) (GD.L g_4)) ≤ List.length b ∧ LB.arr Int (0 : Int) encI (List.take (List.length (keep (outB (GD.l g_4) (GD.p
  g_4)) (GD.L g_4))) (List.drop (0 : Nat) b)) = LB.arr Int (0 : Int) encI (pickO g)) ∧ (0 : Nat) = (0 : Nat) ∧ True) ∧ ((Po.kind (GP.p g) == (2 : Int)) = false → ∃ (b : Unit), True ∧
  (((SV.sl (432 : Nat) (1 : Nat) (0 : Nat) (List.length (ordO (GO.l g_3) (GO.node g_3) (GO.kernel g_3))) = SV.sl (432 : Nat) (1 : Nat) (0 : Nat) (List.length (ordO (GO.l g_3)
  (GO.node g_3) (GO.kernel g_3))) ∧ (0 : Nat) = (0 : Nat) ∧ (1 : Nat) = (1 : Nat) ∧ List.length (ordO (GO.l g_3) (GO.node g_3) (GO.kernel g_3)) = List.length (pickO g)) ∧ SV.val
  (Value.int IntKind.i64 (checkN (GO.l g_3) (GO.node g_3))) = SV.val (Value.int IntKind.i64 (pickE (GP.l g) (GP.p g) (GP.node g)))) ∧ (∀ (x : Int), allFlat (encI x) = true) ∧ (0 :
  Nat) + List.length (ordO (GO.l g_3) (GO.node g_3) (GO.kernel g_3)) ≤ List.length (ordO (GO.l g_3) (GO.node g_3) (GO.kernel g_3)) ∧ LB.arr Int (0 : Int) encI (List.take (List.length
  (ordO (GO.l g_3) (GO.node g_3) (GO.kernel g_3))) (List.drop (0 : Nat) (ordO (GO.l g_3) (GO.node g_3) (GO.kernel g_3)))) = LB.arr Int (0 : Int) encI (pickO g)) ∧ (0 : Nat) = (0 :
  Nat) ∧ True)))))))) ∧ ((Po.kind (GP.p g) != (0 : Int)) = false → ((Po.kind (GP.p g) == (3 : Int)) = true → (decide (Po.turn (GP.p g) < (0 : Int)) = true → ∃ (b : Unit), True ∧
  (((SV.val (Value.slice none (0 : Nat) (0 : Nat)) = SV.val (Value.slice none (0 : Nat) (0 : Nat)) ∧ (0 : Nat) = (0 : Nat) ∧ List.length (pickO g) = (0 : Nat)) ∧ SV.val (Value.int
  IntKind.i64 (1 : Int)) = SV.val (Value.int IntKind.i64 (pickE (GP.l g) (GP.p g) (GP.node g)))) ∧ (∀ (x : Int), allFlat (encI x) = true) ∧ pickO g = [] ∧ ∀ (x : Int), (1 : Nat) = (1
  : Nat) ∧ allOne (encI x) = true) ∧ (0 : Nat) = (0 : Nat) ∧ True) ∧ (decide (Po.turn (GP.p g) < (0 : Int)) = false → ∃ (g_2 : List Z × Int), (SV.ro Z dZ encZ (GP.l g) = SV.ro Z dZ
  encZ (Prod.fst g_2) ∧ SV.val (Value.int IntKind.i64 (GP.node g)) = SV.val (Value.int IntKind.i64 (Prod.snd g_2))) ∧ True ∧ List.length (Prod.fst g_2) ≤ (1000000000 : Nat) ∧ ∀ (b :
  Unit), True → ((checkN (Prod.fst g_2) (Prod.snd g_2) != (0 : Int)) = true → ∃ (b : Unit), True ∧ (((SV.val (Value.slice none (0 : Nat) (0 : Nat)) = SV.val (Value.slice none (0 :
  Nat) (0 : Nat)) ∧ (0 : Nat) = (0 : Nat) ∧ List.length (pickO g) = (0 : Nat)) ∧ SV.val (Value.int IntKind.i64 (checkN (Prod.fst g_2) (Prod.snd g_2))) = SV.val (Value.int IntKind.i64
  (pickE (GP.l g) (GP.p g) (GP.node g)))) ∧ (∀ (x : Int), allFlat (encI x) = true) ∧ pickO g = [] ∧ ∀ (x : Int), (1 : Nat) = (1 : Nat) ∧ allOne (encI x) = true) ∧ (0 : Nat) = (0 :
  Nat) ∧ True) ∧ ((checkN (Prod.fst g_2) (Prod.snd g_2) != (0 : Int)) = false → ((Po.kind (GP.p g) == (1 : Int)) = true → ∃ (g_3 : Int), SV.val (Value.int IntKind.i64 (Po.nodes (GP.p
  g))) = SV.val (Value.int IntKind.i64 g_3) ∧ True ∧ ((1 : Int) ≤ g_3 ∧ g_3 ≤ (15 : Int)) ∧ ∀ (b : Unit), True → ((0 : Int) ≤ (0 : Int) ∧ (0 : Int) < (↑(List.length (maskL g_3)) :
  Int)) ∧ (0 : Nat) < List.length (maskL g_3) ∧ ∃ (g_4 : GO), (SV.ro Z dZ encZ (GP.l g) = SV.ro Z dZ encZ (GO.l g_4) ∧ SV.val (Value.int IntKind.i64 (List.getD (maskL g_3) (0 : Nat)
  (0 : Int))) = SV.val (Value.int IntKind.i64 (GO.node g_4)) ∧ SV.val (Value.bool (GP.kernel g)) = SV.val (Value.bool (GO.kernel g_4))) ∧ True ∧ List.length (GO.l g_4) ≤ (1000000000
  : Nat) ∧ ∀ (b : Unit), True → ∃ (b : Unit), True ∧ (((SV.sl (448 : Nat) (1 : Nat) (0 : Nat) (List.length (ordO (GO.l g_4) (GO.node g_4) (GO.kernel g_4))) = SV.sl (448 : Nat) (1 :
  Nat) (0 : Nat) (List.length (ordO (GO.l g_4) (GO.node g_4) (GO.kernel g_4))) ∧ (0 : Nat) = (0 : Nat) ∧ (1 : Nat) = (1 : Nat) ∧ List.length (ordO (GO.l g_4) (GO.node g_4) (GO.kernel
  g_4)) = List.length (pickO g)) ∧ SV.val (Value.int IntKind.i64 (checkN (GO.l g_4) (GO.node g_4))) = SV.val (Value.int IntKind.i64 (pickE (GP.l g) (GP.p g) (GP.node g)))) ∧ (∀ (x :
  Int), allFlat (encI x) = true) ∧ (0 : Nat) + List.length (ordO (GO.l g_4) (GO.node g_4) (GO.kernel g_4)) ≤ List.length (ordO (GO.l g_4) (GO.node g_4) (GO.kernel g_4)) ∧ LB.arr Int
  (0 : Int) encI (List.take (List.length (ordO (GO.l g_4) (GO.node g_4) (GO.kernel g_4))) (List.drop (0 : Nat) (ordO (GO.l g_4) (GO.node g_4) (GO.kernel g_4)))) = LB.arr Int (0 :
  Int) encI (pickO g)) ∧ (0 : Nat) = (0 : Nat) ∧ True) ∧ ((Po.kind (GP.p g) == (1 : Int)) = false → ((Po.kind (GP.p g) == (3 : Int)) = true → ∃ (g_3 : Int), SV.val (Value.int
  IntKind.i64 (Po.nodes (GP.p g))) = SV.val (Value.int IntKind.i64 g_3) ∧ True ∧ ((1 : Int) ≤ g_3 ∧ g_3 ≤ (15 : Int)) ∧ ∀ (b : Unit), True → (↑(List.length (maskL g_3)) : Int) ≠ (0 :
  Int) ∧ ((0 : Int) ≤ Int.tmod (Po.turn (GP.p g)) (↑(List.length (maskL g_3)) : Int) ∧ Int.tmod (Po.turn (GP.p g)) (↑(List.length (maskL g_3)) : Int) < (↑(List.length (maskL g_3)) :
  Int)) ∧ (0 : Nat) + Int.toNat (Int.tmod (Po.turn (GP.p g)) (↑(List.length (maskL g_3)) : Int)) < List.length (maskL g_3) ∧ ∃ (g_4 : GO), (SV.ro Z dZ encZ (GP.l g) = SV.ro Z dZ encZ
  (GO.l g_4) ∧ SV.val (Value.int IntKind.i64 (List.getD (maskL g_3) ((0 : Nat) + Int.toNat (Int.tmod (Po.turn (GP.p g)) (↑(List.length (maskL g_3)) : Int))) (0 : Int))) = SV.val
  (Value.int IntKind.i64 (GO.node g_4)) ∧ SV.val (Value.bool (GP.kernel g)) = SV.val (Value.bool (GO.kernel g_4))) ∧ True ∧ List.length (GO.l g_4) ≤ (1000000000 : Nat) ∧ ∀ (b :
  Unit), True → ∃ (b : Unit), True ∧ (((SV.sl (520 : Nat) (1 : Nat) (0 : Nat) (List.length (ordO (GO.l g_4) (GO.node g_4) (GO.kernel g_4))) = SV.sl (520 : Nat) (1 : Nat) (0 : Nat)
  (List.length (ordO (GO.l g_4) (GO.node g_4) (GO.kernel g_4))) ∧ (0 : Nat) = (0 : Nat) ∧ (1 : Nat) = (1 : Nat) ∧ List.length (ordO (GO.l g_4) (GO.node g_4) (GO.kernel g_4)) =
  List.length (pickO g)) ∧ SV.val (Value.int IntKind.i64 (checkN (GO.l g_4) (GO.node g_4))) = SV.val (Value.int IntKind.i64 (pickE (GP.l g) (GP.p g) (GP.node g)))) ∧ (∀ (x : Int),
  allFlat (encI x) = true) ∧ (0 : Nat) + List.length (ordO (GO.l g_4) (GO.node g_4) (GO.kernel g_4)) ≤ List.length (ordO (GO.l g_4) (GO.node g_4) (GO.kernel g_4)) ∧ LB.arr Int (0 :
  Int) encI (List.take (List.length (ordO (GO.l g_4) (GO.node g_4) (GO.kernel g_4))) (List.drop (0 : Nat) (ordO (GO.l g_4) (GO.node g_4) (GO.kernel g_4)))) = LB.arr Int (0 : Int)
  encI (pickO g)) ∧ (0 : Nat) = (0 : Nat) ∧ True) ∧ ((Po.kind (GP.p g) == (3 : Int)) = false → ∃ (g_3 : GO), (SV.ro Z dZ encZ (GP.l g) = SV.ro Z dZ encZ (GO.l g_3) ∧ SV.val
  (Value.int IntKind.i64 (GP.node g)) = SV.val (Value.int IntKind.i64 (GO.node g_3)) ∧ SV.val (Value.bool (GP.kernel g)) = SV.val (Value.bool (GO.kernel g_3))) ∧ True ∧ List.length
  (GO.l g_3) ≤ (1000000000 : Nat) ∧ ∀ (b : Unit), True → ((Po.kind (GP.p g) == (2 : Int)) = true → ∃ (g_4 : GD), (((1 : Nat) = (1 : Nat) ∧ (0 : Nat) = (0 : Nat) ∧ List.length (ordO
  (GO.l g_3) (GO.node g_3) (GO.kernel g_3)) = List.length (GD.L g_4)) ∧ (36 : Nat) = (36 : Nat) ∧ ((0 : Nat) = (0 : Nat) ∧ (∀ (x : Po), (3 : Nat) = (3 : Nat) ∧ allOne (encPo x) =
  true) ∧ SV.val (Value.int IntKind.i64 (Po.kind (GP.p g))) = SV.val (Value.int IntKind.i64 (Po.kind (GD.p g_4))) ∧ SV.val (Value.int IntKind.i64 (Po.nodes (GP.p g))) = SV.val
  (Value.int IntKind.i64 (Po.nodes (GD.p g_4))) ∧ SV.val (Value.int IntKind.i64 (Po.turn (GP.p g))) = SV.val (Value.int IntKind.i64 (Po.turn (GD.p g_4)))) ∧ ((0 : Nat) = (0 : Nat) ∧
  (∀ (x : List Z), (1 : Nat) = (1 : Nat) ∧ allOne (encZl x) = true) ∧ SV.ro Z dZ encZ (GP.l g) = SV.ro Z dZ encZ (GD.l g_4)) ∧ True) ∧ some (LB.arr Int (0 : Int) encI (ordO (GO.l
  g_3) (GO.node g_3) (GO.kernel g_3))) = some (LB.arr Int (0 : Int) encI (GD.L g_4)) ∧ (((1 : Int) ≤ Po.nodes (GD.p g_4) ∧ Po.nodes (GD.p g_4) ≤ (15 : Int)) ∧ (∀ (z : Z), z ∈ GD.l
  g_4 → (0 : Int) ≤ Z.node z ∧ Z.node z < (4 : Int)) ∧ (∀ (x : Int), x ∈ GD.L g_4 → (0 : Int) ≤ x ∧ x < (↑(List.length (GD.l g_4)) : Int)) ∧ List.length (GD.L g_4) ≤ (1000000 : Nat))
  ∧ ∀ (b : List Int), List.length b = List.length (GD.L g_4) ∧ List.take (List.length (keep (outB (GD.l g_4) (GD.p g_4)) (GD.L g_4))) b = keep (outB (GD.l g_4) (GD.p g_4)) (GD.L g_4)
  → ∃ (b_1 : Unit), True ∧ (((SV.sl (432 : Nat) (1 : Nat) (0 : Nat) (List.length (keep (outB (GD.l g_4) (GD.p g_4)) (GD.L g_4))) = SV.sl (432 : Nat) (1 : Nat) (0 : Nat) (List.length
  (keep (outB (GD.l g_4) (GD.p g_4)) (GD.L g_4))) ∧ (0 : Nat) = (0 : Nat) ∧ (1 : Nat) = (1 : Nat) ∧ List.length (keep (outB (GD.l g_4) (GD.p g_4)) (GD.L g_4)) = List.length (pickO
  g)) ∧ SV.val (Value.int IntKind.i64 (checkN (GO.l g_3) (GO.node g_3))) = SV.val (Value.int IntKind.i64 (pickE (GP.l g) (GP.p g) (GP.node g)))) ∧ (∀ (x : Int), allFlat (encI x) =
  true) ∧ (0 : Nat) + List.length (keep (outB (GD.l g_4) (GD.p g_4)) (GD.L g_4)) ≤ List.length b ∧ LB.arr Int (0 : Int) encI (List.take (List.length (keep (outB (GD.l g_4) (GD.p
  g_4)) (GD.L g_4))) (List.drop (0 : Nat) b)) = LB.arr Int (0 : Int) encI (pickO g)) ∧ (0 : Nat) = (0 : Nat) ∧ True) ∧ ((Po.kind (GP.p g) == (2 : Int)) = false → ∃ (b : Unit), True ∧
  (((SV.sl (432 : Nat) (1 : Nat) (0 : Nat) (List.length (ordO (GO.l g_3) (GO.node g_3) (GO.kernel g_3))) = SV.sl (432 : Nat) (1 : Nat) (0 : Nat) (List.length (ordO (GO.l g_3)
  (GO.node g_3) (GO.kernel g_3))) ∧ (0 : Nat) = (0 : Nat) ∧ (1 : Nat) = (1 : Nat) ∧ List.length (ordO (GO.l g_3) (GO.node g_3) (GO.kernel g_3)) = List.length (pickO g)) ∧ SV.val
  (Value.int IntKind.i64 (checkN (GO.l g_3) (GO.node g_3))) = SV.val (Value.int IntKind.i64 (pickE (GP.l g) (GP.p g) (GP.node g)))) ∧ (∀ (x : Int), allFlat (encI x) = true) ∧ (0 :
  Nat) + List.length (ordO (GO.l g_3) (GO.node g_3) (GO.kernel g_3)) ≤ List.length (ordO (GO.l g_3) (GO.node g_3) (GO.kernel g_3)) ∧ LB.arr Int (0 : Int) encI (List.take (List.length
  (ordO (GO.l g_3) (GO.node g_3) (GO.kernel g_3))) (List.drop (0 : Nat) (ordO (GO.l g_3) (GO.node g_3) (GO.kernel g_3)))) = LB.arr Int (0 : Int) encI (pickO g)) ∧ (0 : Nat) = (0 :
  Nat) ∧ True)))))) ∧ ((Po.kind (GP.p g) == (3 : Int)) = false → ∃ (g_2 : List Z × Int), (SV.ro Z dZ encZ (GP.l g) = SV.ro Z dZ encZ (Prod.fst g_2) ∧ SV.val (Value.int IntKind.i64
  (GP.node g)) = SV.val (Value.int IntKind.i64 (Prod.snd g_2))) ∧ True ∧ List.length (Prod.fst g_2) ≤ (1000000000 : Nat) ∧ ∀ (b : Unit), True → ((checkN (Prod.fst g_2) (Prod.snd g_2)
  != (0 : Int)) = true → ∃ (b : Unit), True ∧ (((SV.val (Value.slice none (0 : Nat) (0 : Nat)) = SV.val (Value.slice none (0 : Nat) (0 : Nat)) ∧ (0 : Nat) = (0 : Nat) ∧ List.length
  (pickO g) = (0 : Nat)) ∧ SV.val (Value.int IntKind.i64 (checkN (Prod.fst g_2) (Prod.snd g_2))) = SV.val (Value.int IntKind.i64 (pickE (GP.l g) (GP.p g) (GP.node g)))) ∧ (∀ (x :
  Int), allFlat (encI x) = true) ∧ pickO g = [] ∧ ∀ (x : Int), (1 : Nat) = (1 : Nat) ∧ allOne (encI x) = true) ∧ (0 : Nat) = (0 : Nat) ∧ True) ∧ ((checkN (Prod.fst g_2) (Prod.snd
  g_2) != (0 : Int)) = false → ((Po.kind (GP.p g) == (1 : Int)) = true → ∃ (g_3 : Int), SV.val (Value.int IntKind.i64 (Po.nodes (GP.p g))) = SV.val (Value.int IntKind.i64 g_3) ∧ True
  ∧ ((1 : Int) ≤ g_3 ∧ g_3 ≤ (15 : Int)) ∧ ∀ (b : Unit), True → ((0 : Int) ≤ (0 : Int) ∧ (0 : Int) < (↑(List.length (maskL g_3)) : Int)) ∧ (0 : Nat) < List.length (maskL g_3) ∧ ∃
  (g_4 : GO), (SV.ro Z dZ encZ (GP.l g) = SV.ro Z dZ encZ (GO.l g_4) ∧ SV.val (Value.int IntKind.i64 (List.getD (maskL g_3) (0 : Nat) (0 : Int))) = SV.val (Value.int IntKind.i64
  (GO.node g_4)) ∧ SV.val (Value.bool (GP.kernel g)) = SV.val (Value.bool (GO.kernel g_4))) ∧ True ∧ List.length (GO.l g_4) ≤ (1000000000 : Nat) ∧ ∀ (b : Unit), True → ∃ (b : Unit),
  True ∧ (((SV.sl (448 : Nat) (1 : Nat) (0 : Nat) (List.length (ordO (GO.l g_4) (GO.node g_4) (GO.kernel g_4))) = SV.sl (448 : Nat) (1 : Nat) (0 : Nat) (List.length (ordO (GO.l g_4)
  (GO.node g_4) (GO.kernel g_4))) ∧ (0 : Nat) = (0 : Nat) ∧ (1 : Nat) = (1 : Nat) ∧ List.length (ordO (GO.l g_4) (GO.node g_4) (GO.kernel g_4)) = List.length (pickO g)) ∧ SV.val
  (Value.int IntKind.i64 (checkN (GO.l g_4) (GO.node g_4))) = SV.val (Value.int IntKind.i64 (pickE (GP.l g) (GP.p g) (GP.node g)))) ∧ (∀ (x : Int), allFlat (encI x) = true) ∧ (0 :
  Nat) + List.length (ordO (GO.l g_4) (GO.node g_4) (GO.kernel g_4)) ≤ List.length (ordO (GO.l g_4) (GO.node g_4) (GO.kernel g_4)) ∧ LB.arr Int (0 : Int) encI (List.take (List.length
  (ordO (GO.l g_4) (GO.node g_4) (GO.kernel g_4))) (List.drop (0 : Nat) (ordO (GO.l g_4) (GO.node g_4) (GO.kernel g_4)))) = LB.arr Int (0 : Int) encI (pickO g)) ∧ (0 : Nat) = (0 :
  Nat) ∧ True) ∧ ((Po.kind (GP.p g) == (1 : Int)) = false → ((Po.kind (GP.p g) == (3 : Int)) = true → ∃ (g_3 : Int), SV.val (Value.int IntKind.i64 (Po.nodes (GP.p g))) = SV.val
  (Value.int IntKind.i64 g_3) ∧ True ∧ ((1 : Int) ≤ g_3 ∧ g_3 ≤ (15 : Int)) ∧ ∀ (b : Unit), True → (↑(List.length (maskL g_3)) : Int) ≠ (0 : Int) ∧ ((0 : Int) ≤ Int.tmod (Po.turn
  (GP.p g)) (↑(List.length (maskL g_3)) : Int) ∧ Int.tmod (Po.turn (GP.p g)) (↑(List.length (maskL g_3)) : Int) < (↑(List.length (maskL g_3)) : Int)) ∧ (0 : Nat) + Int.toNat
  (Int.tmod (Po.turn (GP.p g)) (↑(List.length (maskL g_3)) : Int)) < List.length (maskL g_3) ∧ ∃ (g_4 : GO), (SV.ro Z dZ encZ (GP.l g) = SV.ro Z dZ encZ (GO.l g_4) ∧ SV.val
  (Value.int IntKind.i64 (List.getD (maskL g_3) ((0 : Nat) + Int.toNat (Int.tmod (Po.turn (GP.p g)) (↑(List.length (maskL g_3)) : Int))) (0 : Int))) = SV.val (Value.int IntKind.i64
  (GO.node g_4)) ∧ SV.val (Value.bool (GP.kernel g)) = SV.val (Value.bool (GO.kernel g_4))) ∧ True ∧ List.length (GO.l g_4) ≤ (1000000000 : Nat) ∧ ∀ (b : Unit), True → ∃ (b : Unit),
  True ∧ (((SV.sl (520 : Nat) (1 : Nat) (0 : Nat) (List.length (ordO (GO.l g_4) (GO.node g_4) (GO.kernel g_4))) = SV.sl (520 : Nat) (1 : Nat) (0 : Nat) (List.length (ordO (GO.l g_4)
  (GO.node g_4) (GO.kernel g_4))) ∧ (0 : Nat) = (0 : Nat) ∧ (1 : Nat) = (1 : Nat) ∧ List.length (ordO (GO.l g_4) (GO.node g_4) (GO.kernel g_4)) = List.length (pickO g)) ∧ SV.val
  (Value.int IntKind.i64 (checkN (GO.l g_4) (GO.node g_4))) = SV.val (Value.int IntKind.i64 (pickE (GP.l g) (GP.p g) (GP.node g)))) ∧ (∀ (x : Int), allFlat (encI x) = true) ∧ (0 :
  Nat) + List.length (ordO (GO.l g_4) (GO.node g_4) (GO.kernel g_4)) ≤ List.length (ordO (GO.l g_4) (GO.node g_4) (GO.kernel g_4)) ∧ LB.arr Int (0 : Int) encI (List.take (List.length
  (ordO (GO.l g_4) (GO.node g_4) (GO.kernel g_4))) (List.drop (0 : Nat) (ordO (GO.l g_4) (GO.node g_4) (GO.kernel g_4)))) = LB.arr Int (0 : Int) encI (pickO g)) ∧ (0 : Nat) = (0 :
  Nat) ∧ True) ∧ ((Po.kind (GP.p g) == (3 : Int)) = false → ∃ (g_3 : GO), (SV.ro Z dZ encZ (GP.l g) = SV.ro Z dZ encZ (GO.l g_3) ∧ SV.val (Value.int IntKind.i64 (GP.node g)) = SV.val
  (Value.int IntKind.i64 (GO.node g_3)) ∧ SV.val (Value.bool (GP.kernel g)) = SV.val (Value.bool (GO.kernel g_3))) ∧ True ∧ List.length (GO.l g_3) ≤ (1000000000 : Nat) ∧ ∀ (b :
  Unit), True → ((Po.kind (GP.p g) == (2 : Int)) = true → ∃ (g_4 : GD), (((1 : Nat) = (1 : Nat) ∧ (0 : Nat) = (0 : Nat) ∧ List.length (ordO (GO.l g_3) (GO.node g_3) (GO.kernel g_3))
  = List.length (GD.L g_4)) ∧ (36 : Nat) = (36 : Nat) ∧ ((0 : Nat) = (0 : Nat) ∧ (∀ (x : Po), (3 : Nat) = (3 : Nat) ∧ allOne (encPo x) = true) ∧ SV.val (Value.int IntKind.i64
  (Po.kind (GP.p g))) = SV.val (Value.int IntKind.i64 (Po.kind (GD.p g_4))) ∧ SV.val (Value.int IntKind.i64 (Po.nodes (GP.p g))) = SV.val (Value.int IntKind.i64 (Po.nodes (GD.p
  g_4))) ∧ SV.val (Value.int IntKind.i64 (Po.turn (GP.p g))) = SV.val (Value.int IntKind.i64 (Po.turn (GD.p g_4)))) ∧ ((0 : Nat) = (0 : Nat) ∧ (∀ (x : List Z), (1 : Nat) = (1 : Nat)
  ∧ allOne (encZl x) = true) ∧ SV.ro Z dZ encZ (GP.l g) = SV.ro Z dZ encZ (GD.l g_4)) ∧ True) ∧ some (LB.arr Int (0 : Int) encI (ordO (GO.l g_3) (GO.node g_3) (GO.kernel g_3))) =
  some (LB.arr Int (0 : Int) encI (GD.L g_4)) ∧ (((1 : Int) ≤ Po.nodes (GD.p g_4) ∧ Po.nodes (GD.p g_4) ≤ (15 : Int)) ∧ (∀ (z : Z), z ∈ GD.l g_4 → (0 : Int) ≤ Z.node z ∧ Z.node z <
  (4 : Int)) ∧ (∀ (x : Int), x ∈ GD.L g_4 → (0 : Int) ≤ x ∧ x < (↑(List.length (GD.l g_4)) : Int)) ∧ List.length (GD.L g_4) ≤ (1000000 : Nat)) ∧ ∀ (b : List Int), List.length b =
  List.length (GD.L g_4) ∧ List.take (List.length (keep (outB (GD.l g_4) (GD.p g_4)) (GD.L g_4))) b = keep (outB (GD.l g_4) (GD.p g_4)) (GD.L g_4) → ∃ (b_1 : Unit), True ∧ (((SV.sl
  (432 : Nat) (1 : Nat) (0 : Nat) (List.length (keep (outB (GD.l g_4) (GD.p g_4)) (GD.L g_4))) = SV.sl (432 : Nat) (1 : Nat) (0 : Nat) (List.length (keep (outB (GD.l g_4) (GD.p g_4))
  (GD.L g_4))) ∧ (0 : Nat) = (0 : Nat) ∧ (1 : Nat) = (1 : Nat) ∧ List.length (keep (outB (GD.l g_4) (GD.p g_4)) (GD.L g_4)) = List.length (pickO g)) ∧ SV.val (Value.int IntKind.i64
  (checkN (GO.l g_3) (GO.node g_3))) = SV.val (Value.int IntKind.i64 (pickE (GP.l g) (GP.p g) (GP.node g)))) ∧ (∀ (x : Int), allFlat (encI x) = true) ∧ (0 : Nat) + List.length (keep
  (outB (GD.l g_4) (GD.p g_4)) (GD.L g_4)) ≤ List.length b ∧ LB.arr Int (0 : Int) encI (List.take (List.length (keep (outB (GD.l g_4) (GD.p g_4)) (GD.L g_4))) (List.drop (0 : Nat)
  b)) = LB.arr Int (0 : Int) encI (pickO g)) ∧ (0 : Nat) = (0 : Nat) ∧ True) ∧ ((Po.kind (GP.p g) == (2 : Int)) = false → ∃ (b : Unit), True ∧ (((SV.sl (432 : Nat) (1 : Nat) (0 :
  Nat) (List.length (ordO (GO.l g_3) (GO.node g_3) (GO.kernel g_3))) = SV.sl (432 : Nat) (1 : Nat) (0 : Nat) (List.length (ordO (GO.l g_3) (GO.node g_3) (GO.kernel g_3))) ∧ (0 : Nat)
  = (0 : Nat) ∧ (1 : Nat) = (1 : Nat) ∧ List.length (ordO (GO.l g_3) (GO.node g_3) (GO.kernel g_3)) = List.length (pickO g)) ∧ SV.val (Value.int IntKind.i64 (checkN (GO.l g_3)
  (GO.node g_3))) = SV.val (Value.int IntKind.i64 (pickE (GP.l g) (GP.p g) (GP.node g)))) ∧ (∀ (x : Int), allFlat (encI x) = true) ∧ (0 : Nat) + List.length (ordO (GO.l g_3) (GO.node
  g_3) (GO.kernel g_3)) ≤ List.length (ordO (GO.l g_3) (GO.node g_3) (GO.kernel g_3)) ∧ LB.arr Int (0 : Int) encI (List.take (List.length (ordO (GO.l g_3) (GO.node g_3) (GO.kernel
  g_3))) (List.drop (0 : Nat) (ordO (GO.l g_3) (GO.node g_3) (GO.kernel g_3)))) = LB.arr Int (0 : Int) encI (pickO g)) ∧ (0 : Nat) = (0 : Nat) ∧ True)))))))))) := by kernel_rfl

theorem pick_law {l : List Z} {p : Po} {node : Int} {k : Bool} (hp : polE p = 0) (hc : checkN l node = 0) :
    pickE l p node = 0 ∧ pickO ⟨l, p, node, k⟩ = (ordO l (firstI p node) k).filter (sel l p) ∧ checkN l (firstI p node) = 0 := by
  obtain ⟨h0, h1, h2, _⟩ := checkN_zero hc
  have e : pickE l p node = 0 := by rw [pickE, if_neg (by rw [h0]; decide), if_neg (by rw [hp]; decide), if_neg (by omega)]
  refine ⟨e, by rw [pickO, if_neg (by rw [e]; decide)], ?_⟩
  have hf := firstI_range hp h1 h2
  rw [checkN, if_neg (by rw [h0]; decide), if_neg (by omega)]
theorem sel_all {l : List Z} {p : Po} (h : ¬ p.kind = 2) (L : List Int) : L.filter (sel l p) = L := by
  rw [List.filter_eq_self]
  intro x _
  unfold sel
  have : (p.kind != 2) = true := by simpa using h
  rw [this]; rfl
theorem sel_bind {l : List Z} {p : Po} (h : p.kind = 2) (L : List Int) : keep (outB l p) L = L.filter (sel l p) := by
  unfold keep
  congr 1
  funext x
  unfold outB sel
  rw [h]
  simp
theorem vPick : cRPick.body (fun g => env [(13, cCheck), (24, cCheckN), (34, cMasked), (17, cROrder), (35, cDel)] (noLoops g)) Try.f20 := by
  rw [vPick_eq]
  rintro ⟨l, p, node, k⟩ hlen
  dsimp only at hlen ⊢
  have err : ∀ e : Int, pickE l p node = e → e ≠ 0 → ∃ _ : Unit, True ∧ (((SV.val (Value.slice none 0 0) = SV.val (Value.slice none 0 0) ∧ 0 = 0 ∧ (pickO ⟨l, p, node, k⟩).length = 0) ∧ SV.val (Value.int IntKind.i64 e) = SV.val (Value.int IntKind.i64 (pickE l p node))) ∧ (∀ x : Int, allFlat (encI x) = true) ∧ pickO ⟨l, p, node, k⟩ = [] ∧ ∀ x : Int, 1 = 1 ∧ allOne (encI x) = true) ∧ 0 = 0 ∧ True := fun e he h0 => by
    have hb : pickO ⟨l, p, node, k⟩ = [] := by rw [pickO, if_pos (by rw [he]; exact h0)]
    exact ⟨(), trivial, ⟨⟨⟨rfl, rfl, by rw [hb]; rfl⟩, by rw [he]⟩, flI, hb, okI'⟩, rfl, trivial⟩
  have OUT : ∀ (key : Nat) (L : List Int) (e : Int), L = pickO ⟨l, p, node, k⟩ → e = pickE l p node → ∃ _ : Unit, True ∧ (((SV.sl key 1 0 L.length = SV.sl key 1 0 L.length ∧ 0 = 0 ∧ 1 = 1 ∧ L.length = (pickO ⟨l, p, node, k⟩).length) ∧ SV.val (Value.int IntKind.i64 e) = SV.val (Value.int IntKind.i64 (pickE l p node))) ∧ (∀ x : Int, allFlat (encI x) = true) ∧ 0 + L.length ≤ L.length ∧ LB.arr Int 0 encI (List.take L.length (List.drop 0 L)) = LB.arr Int 0 encI (pickO ⟨l, p, node, k⟩)) ∧ 0 = 0 ∧ True := fun key L e hL he => by
    subst hL; subst he
    exact ⟨(), trivial, ⟨⟨⟨rfl, rfl, rfl, rfl⟩, rfl⟩, flI, Nat.le_of_eq (Nat.zero_add _), by rw [List.drop_zero, List.take_length]⟩, rfl, trivial⟩
  refine ⟨l, rfl, trivial, hlen, fun _ _ => ⟨fun h => ?_, fun h => ?_⟩⟩
  · have h : chk l ≠ 0 := by simpa using h
    exact err _ (by rw [pickE, if_pos h]) h
  have hch : chk l = 0 := by simpa using h
  have one : polE p = 1 → pickE l p node = 1 := fun hh => by rw [pickE, if_neg (by rw [hch]; decide), if_pos (by rw [hh]; decide), hh]
  refine ⟨fun a => err 1 (one ?_) (by decide), fun a => ⟨fun b => err 1 (one ?_) (by decide), fun b => ⟨fun c => ⟨fun d => err 1 (one ?_) (by decide), fun d => ⟨fun e => err 1 (one ?_) (by decide), fun e => ⟨fun f => ⟨fun i => err 1 (one ?_) (by decide), fun i => ?_⟩, fun f => ?_⟩⟩⟩, fun c => ⟨fun f => ⟨fun i => err 1 (one ?_) (by decide), fun i => ?_⟩, fun f => ?_⟩⟩⟩⟩
  · unfold polE; grind
  · unfold polE; grind
  · unfold polE; grind
  · unfold polE; grind
  · unfold polE; grind
  rotate_left 2
  · unfold polE; grind
  all_goals
    have hp : polE p = 0 := by unfold polE; grind
    clear err one
    refine ⟨(l, node), ⟨rfl, rfl⟩, trivial, hlen, fun _ _ => ⟨fun hc => ?_, fun hc => ?_⟩⟩
    · have hc : checkN l node ≠ 0 := by simpa using hc
      have he : pickE l p node = checkN l node := by
        have e1 : checkN l node = if node < 0 ∨ node ≥ 4 then 2 else 0 := by rw [checkN, if_neg (by rw [hch]; decide)]
        rw [pickE, if_neg (by rw [hch]; decide), if_neg (by rw [hp]; decide), e1]
      have hb : pickO ⟨l, p, node, k⟩ = [] := by rw [pickO, if_pos (by rw [he]; exact hc)]
      exact ⟨(), trivial, ⟨⟨⟨rfl, rfl, by rw [hb]; rfl⟩, by rw [he]⟩, flI, hb, okI'⟩, rfl, trivial⟩
    · have hc : checkN l node = 0 := by simpa using hc
      obtain ⟨q1, q2, q3⟩ := pick_law (k := k) hp hc
      obtain ⟨r1, r2, r3, r4⟩ := polE_zero hp
      obtain ⟨h0, h1, h2, _⟩ := checkN_zero hc
      refine ⟨fun k1 => ?_, fun k1 => ⟨fun k3 => ?_, fun k3 => ⟨⟨l, node, k⟩, ⟨rfl, rfl, rfl⟩, trivial, hlen, fun _ _ => ⟨fun k2 => ?_, fun k2 => ?_⟩⟩⟩⟩
      · have k1 : p.kind = 1 := by simpa using k1
        obtain ⟨n1, n2⟩ := r3 (by omega)
        obtain ⟨m1, m2, m3⟩ := mask_pos n1 n2
        have hf : firstI p node = (maskL p.nodes).getD 0 0 := by rw [firstI, if_neg (by omega), if_pos k1]
        rw [hf] at q2 q3
        exact ⟨p.nodes, rfl, trivial, ⟨n1, n2⟩, fun _ _ => ⟨⟨by omega, by omega⟩, m1, ⟨l, (maskL p.nodes).getD 0 0, k⟩, ⟨rfl, rfl, rfl⟩, trivial, hlen, fun _ _ => OUT _ _ _ (q2.trans (sel_all (by omega) _)).symm (q3.trans q1.symm)⟩⟩
      · have k1 : ¬ p.kind = 1 := by simpa using k1
        have k3 : p.kind = 3 := by simpa using k3
        obtain ⟨n1, n2⟩ := r3 (by omega)
        obtain ⟨m1, m2, m3⟩ := mask_pos n1 n2
        have ht := r4 k3
        have t1 := Int.tmod_nonneg ((maskL p.nodes).length : Int) ht
        have t2 := Int.tmod_lt_of_pos p.turn (b := ((maskL p.nodes).length : Int)) (by omega)
        have hf : firstI p node = (maskL p.nodes).getD (0 + Int.toNat (Int.tmod p.turn (maskL p.nodes).length)) 0 := by rw [firstI, if_neg (by omega), if_neg k1, Nat.zero_add]
        rw [hf] at q2 q3
        exact ⟨p.nodes, rfl, trivial, ⟨n1, n2⟩, fun _ _ => ⟨by omega, ⟨t1, t2⟩, by omega, ⟨l, _, k⟩, ⟨rfl, rfl, rfl⟩, trivial, hlen, fun _ _ => OUT _ _ _ (q2.trans (sel_all (by omega) _)).symm (q3.trans q1.symm)⟩⟩
      · have k2 : p.kind = 2 := by simpa using k2
        obtain ⟨n1, n2⟩ := r3 (by omega)
        have hf : firstI p node = node := by rw [firstI, if_pos (.inr k2)]
        rw [hf] at q2 q3
        have hL := @ordO_len l node k
        refine ⟨⟨l, p, ordO l node k⟩, ⟨⟨rfl, rfl, rfl⟩, rfl, ⟨rfl, fun _ => ⟨rfl, rfl⟩, rfl, rfl, rfl⟩, ⟨rfl, okZZ, rfl⟩, trivial⟩, rfl, ⟨⟨n1, n2⟩, fun z hz => (chk_zero h0 z hz).1, fun x hx => ordO_mem hx, by dsimp only; omega⟩, fun b hb => ?_⟩
        obtain ⟨hb1, hb2⟩ := hb
        dsimp only at hb1 hb2 ⊢
        have hk : keep (outB l p) (ordO l node k) = pickO ⟨l, p, node, k⟩ := by rw [sel_bind k2, q2]
        have hkl : (keep (outB l p) (ordO l node k)).length ≤ b.length := by
          rw [← hb2, List.length_take]; omega
        refine ⟨(), trivial, ⟨⟨⟨rfl, rfl, rfl, by rw [hk]⟩, by rw [q1, q3]⟩, flI, by omega, ?_⟩, rfl, trivial⟩
        rw [List.drop_zero, hb2, hk]
      · have k1 : ¬ p.kind = 1 := by simpa using k1
        have k2 : ¬ p.kind = 2 := by simpa using k2
        have k3 : ¬ p.kind = 3 := by simpa using k3
        have hf : firstI p node = node := by rw [firstI, if_pos (.inl (by omega))]
        rw [hf] at q2 q3
        exact OUT _ _ _ (q2.trans (sel_all k2 _)).symm (q3.trans q1.symm)
theorem sPick : SpecOk P 20 cRPick.spec := spec_of cRPick (tab_cons sCheck (tab_cons sCheckN (tab_cons sMasked (tab_cons sOrder (tab_cons sDel (tab_nil P)))))) mixed (fn := Try.f20) (by kernel_rfl) (by kernel_rfl) (by kernel_rfl) (Nat.zero_le _) (noIns fun _ => rfl) vPick
end Go.Zn
