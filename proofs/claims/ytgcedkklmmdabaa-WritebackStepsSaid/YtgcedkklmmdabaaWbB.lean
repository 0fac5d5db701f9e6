/- A PART OF THE PROOF. NO CONDITION. -/
import Derived.Test.YtgcedkklmmdabaaWbA
noncomputable section
set_option linter.unusedVariables false
set_option linter.unusedVariables false
set_option linter.unusedSimpArgs false
namespace Go.Wb
open Go.Proofs Go.SX
set_option maxRecDepth 100000

theorem noIns {c : Con} (h : ∀ g, c.ins g = []) : ∀ g lb, c.pre g → lb ∈ c.ins g → LBin lb := fun g lb _ hm => by rw [h] at hm; cases hm
theorem sFew : SpecOk P 10 cFew.spec := spec_of cFew (tab_nil P) mixed (fn := Try.f10) (by kernel_rfl) (by kernel_rfl) (by kernel_rfl) (Nat.zero_le _) (noIns fun _ => rfl) vFew
theorem sBefore : SpecOk P 32 cBefore.spec := spec_of cBefore (tab_nil P) mixed (fn := Try.f32) (by kernel_rfl) (by kernel_rfl) (by kernel_rfl) (Nat.zero_le _) (noIns fun _ => rfl) vBefore
theorem sHas : SpecOk P 45 cHas.spec := spec_of cHas (tab_nil P) mixed (fn := Try.f45) (by kernel_rfl) (by kernel_rfl) (by kernel_rfl) (Nat.zero_le _) (noIns fun _ => rfl) vHas
theorem sCheck : SpecOk P 15 cCheck.spec := spec_of cCheck (tab_nil P) mixed (fn := Try.f15) (by kernel_rfl) (by kernel_rfl) (by kernel_rfl) (Nat.zero_le _) (noIns fun _ => rfl) vCheck
def tabR : List (Nat × Con) := [(32, cBefore), (15, cCheck), (45, cHas), (10, cFew)]
theorem tabR_ok : TabOk P tabR := tab_cons sBefore (tab_cons sCheck (tab_cons sHas (tab_cons sFew (tab_nil P))))

/-! Next -/
def bestStep (l : List DP) (at' : Int) (i : Nat) : Int := if at' < 0 then i else if before (l.getD i dDP) (l.getD at'.toNat dDP) = true then i else at'
def best (l : List DP) : Nat → Int
  | 0 => -1
  | i + 1 => bestStep l (best l i) i
def nxt (l : List DP) : Int := if chk l = 0 then best l l.length else -1
def cNext : Con := pureCon (List DP) Unit (fun l => [roP l]) (fun l => l.length ≤ 1000000000) (fun _ _ => True) (fun l _ => I (nxt l))
def lNext (l : List DP) : Loops := loop1 0 { γ := Nat, slots := [11, 3], vals := fun _ i => [I i, I (best l i)], inv := fun i => i ≤ l.length, μ := fun i => l.length - i }
theorem vNext_eq : (cNext.body (fun g => env tabR (lNext g)) Try.f17) = (∀ (g : List DP), List.length g ≤ (1000000000 : Nat) → ∃ (g_1 : List DP), SV.ro DP dDP encDP g = SV.ro DP dDP encDP g_1 ∧ True ∧ List.length g_1 ≤ (1000000000 : Nat) ∧ ∀ (b : Unit),
  True → ((chk g_1 != (0 : Int)) = true → ∃ (b : Unit), True ∧ SV.val (Value.int IntKind.i64 (-1 : Int)) = SV.val (Value.int IntKind.i64 (nxt g)) ∧ (0 : Nat) = (0 : Nat) ∧ True) ∧
  ((chk g_1 != (0 : Int)) = false → (∃ (g_2 : Nat), g_2 ≤ List.length g ∧ ((0 : Int) = (↑g_2 : Int) ∧ (-1 : Int) = best g g_2) ∧ True ∧ True) ∧ ∀ (g_2 : Nat), g_2 ≤ List.length g →
  (decide ((↑g_2 : Int) < (↑(List.length g) : Int)) = true → ((0 : Int) ≤ (↑g_2 : Int) ∧ (↑g_2 : Int) < (↑(List.length g) : Int)) ∧ Int.toNat (↑g_2 : Int) < List.length g ∧ (decide
  (best g g_2 < (0 : Int)) = true → inK IntKind.i64 ((↑g_2 : Int) + (1 : Int)) ∧ ∃ (g' : Nat), g' ≤ List.length g ∧ List.length g - g' < List.length g - g_2 ∧ ((↑g_2 : Int) + (1 :
  Int) = (↑g' : Int) ∧ (↑g_2 : Int) = best g g') ∧ True ∧ True) ∧ (decide (best g g_2 < (0 : Int)) = false → ((0 : Int) ≤ best g g_2 ∧ best g g_2 < (↑(List.length g) : Int)) ∧
  Int.toNat (best g g_2) < List.length g ∧ ∃ (g_3 : DP × DP), ((SV.val (Value.int IntKind.i64 (DP.file (List.getD g (Int.toNat (↑g_2 : Int)) dDP))) = SV.val (Value.int IntKind.i64
  (DP.file (Prod.fst g_3))) ∧ SV.val (Value.int IntKind.i64 (DP.index (List.getD g (Int.toNat (↑g_2 : Int)) dDP))) = SV.val (Value.int IntKind.i64 (DP.index (Prod.fst g_3))) ∧ SV.val
  (Value.int IntKind.i64 (DP.since (List.getD g (Int.toNat (↑g_2 : Int)) dDP))) = SV.val (Value.int IntKind.i64 (DP.since (Prod.fst g_3))) ∧ True) ∧ SV.val (Value.int IntKind.i64
  (DP.file (List.getD g (Int.toNat (best g g_2)) dDP))) = SV.val (Value.int IntKind.i64 (DP.file (Prod.snd g_3))) ∧ SV.val (Value.int IntKind.i64 (DP.index (List.getD g (Int.toNat
  (best g g_2)) dDP))) = SV.val (Value.int IntKind.i64 (DP.index (Prod.snd g_3))) ∧ SV.val (Value.int IntKind.i64 (DP.since (List.getD g (Int.toNat (best g g_2)) dDP))) = SV.val
  (Value.int IntKind.i64 (DP.since (Prod.snd g_3))) ∧ True) ∧ True ∧ True ∧ ∀ (b : Unit), True → (before (Prod.fst g_3) (Prod.snd g_3) = true → inK IntKind.i64 ((↑g_2 : Int) + (1 :
  Int)) ∧ ∃ (g' : Nat), g' ≤ List.length g ∧ List.length g - g' < List.length g - g_2 ∧ ((↑g_2 : Int) + (1 : Int) = (↑g' : Int) ∧ (↑g_2 : Int) = best g g') ∧ True ∧ True) ∧ (before
  (Prod.fst g_3) (Prod.snd g_3) = false → inK IntKind.i64 ((↑g_2 : Int) + (1 : Int)) ∧ ∃ (g' : Nat), g' ≤ List.length g ∧ List.length g - g' < List.length g - g_2 ∧ ((↑g_2 : Int) +
  (1 : Int) = (↑g' : Int) ∧ best g g_2 = best g g') ∧ True ∧ True))) ∧ (decide ((↑g_2 : Int) < (↑(List.length g) : Int)) = false → ∃ (b : Unit), True ∧ SV.val (Value.int IntKind.i64
  (best g g_2)) = SV.val (Value.int IntKind.i64 (nxt g)) ∧ (0 : Nat) = (0 : Nat) ∧ True))) := by kernel_rfl

theorem best_bounds (l : List DP) : ∀ i, -1 ≤ best l i ∧ best l i < i
  | 0 => by simp [best]
  | i + 1 => by
    have := best_bounds l i
    simp only [best, bestStep]
    split
    · omega
    · split <;> omega
theorem vNext : cNext.body (fun g => env tabR (lNext g)) Try.f17 := by
  rw [vNext_eq]
  intro l hlen
  refine ⟨l, rfl, trivial, hlen, fun _ _ => ⟨fun h => ⟨(), trivial, ?_, rfl, trivial⟩, fun h => ⟨⟨0, Nat.zero_le _, ⟨rfl, rfl⟩, trivial, trivial⟩, fun i hi => ⟨fun hlt => ?_, fun hge => ⟨(), trivial, ?_, rfl, trivial⟩⟩⟩⟩⟩
  · have h : chk l ≠ 0 := by simpa using h
    rw [nxt, if_neg h]
  · have hlt : (i : Int) < l.length := of_decide_eq_true hlt
    have hi' : i < l.length := by omega
    have hb := best_bounds l i
    simp only [Int.toNat_natCast]
    refine ⟨⟨by omega, hlt⟩, hi', fun h1 => ⟨inI (by omega) (by omega), i + 1, hi', by omega, ⟨by simp, ?_⟩, trivial, trivial⟩, fun h1 => ⟨⟨?_, by omega⟩, ?_, (l.getD i dDP, l.getD (best l i).toNat dDP), ⟨⟨rfl, rfl, rfl, trivial⟩, rfl, rfl, rfl, trivial⟩, trivial, trivial, fun _ _ =>
      ⟨fun h2 => ⟨inI (by omega) (by omega), i + 1, hi', by omega, ⟨by simp, ?_⟩, trivial, trivial⟩, fun h2 => ⟨inI (by omega) (by omega), i + 1, hi', by omega, ⟨by simp, ?_⟩, trivial, trivial⟩⟩⟩⟩
    · have h1 := of_decide_eq_true h1
      simp only [best, bestStep, if_pos h1]
    · have h1 := of_decide_eq_false h1
      omega
    · have h1 := of_decide_eq_false h1
      omega
    · have h1 := of_decide_eq_false h1
      simp only [best, bestStep, if_neg h1]
      rw [if_pos h2]
    · have h1 := of_decide_eq_false h1
      simp only [best, bestStep, if_neg h1]
      rw [if_neg (by rw [show before (l.getD i dDP) (l.getD (best l i).toNat dDP) = false from h2]; decide)]
  · have hge : ¬ (i : Int) < l.length := of_decide_eq_false hge
    have he : i = l.length := by omega
    have h : chk l = 0 := by simpa using h
    rw [nxt, if_pos h, he]

/-! Order -/
def insAt (p : DP) (r : List DP) : Nat → Nat
  | 0 => 0
  | n + 1 => if before p (r.getD n dDP) = true then insAt p r n else n + 1
def insP (r : List DP) (p : DP) : List DP := r.take (insAt p r r.length) ++ ([p] ++ r.drop (insAt p r r.length))
def ordR (l : List DP) : List DP := l.foldl insP []
def ordO (l : List DP) : List DP := if chk l = 0 then ordR l else []
def cOrder : Con := newCon (List DP) Unit (fun l => [roP l]) (fun l => l.length ≤ 1000000000) (fun _ _ => True) (fun l _ => .tup [.sl 0 3 0 (ordO l).length, I (chk l)]) (fun l _ => .arr DP dDP encDP (ordO l))
def withInt (st : St) (i : Nat) (K : Int → Option LoopAnn) : Option LoopAnn := match getSlot st.tmps i with | .val (.int _ x) => K x | _ => none
def insInv (l : List DP) (i : Int) (k : Nat) : Prop := k ≤ (ordR (l.take i.toNat)).length ∧ insAt (l.getD i.toNat dDP) (ordR (l.take i.toNat)) k = insAt (l.getD i.toNat dDP) (ordR (l.take i.toNat)) (ordR (l.take i.toNat)).length
def lOrder (l : List DP) : Loops := fun id st => match Nat.beq id 0, Nat.beq id 2 with
  | true, _ => some { γ := Nat, slots := [17, 5], vals := fun b i => [I i, .sl b 3 0 (ordR (l.take i)).length], rekey := [5], blks := fun b i => [(b, .arr DP dDP encDP (ordR (l.take i)))], inv := fun i => i ≤ l.length, μ := fun i => l.length - i }
  | _, true => withInt st 17 fun x => some { γ := Nat, slots := [8], vals := fun _ k => [I k], inv := fun k => insInv l x k, μ := fun k => k }
  | _, _ => none
theorem vOrder_eq : (cOrder.body (fun g => env tabR (lOrder g)) Try.f13) = (∀ (g : List DP), List.length g ≤ (1000000000 : Nat) → ∃ (g_1 : List DP), SV.ro DP dDP encDP g = SV.ro DP dDP encDP g_1 ∧ True ∧ List.length g_1 ≤ (1000000000 : Nat) ∧ ∀ (b : Unit),
  True → ((chk g_1 != (0 : Int)) = true → ∃ (b : Unit), True ∧ (((SV.val (Value.slice none (0 : Nat) (0 : Nat)) = SV.val (Value.slice none (0 : Nat) (0 : Nat)) ∧ (0 : Nat) = (0 :
  Nat) ∧ List.length (ordO g) = (0 : Nat)) ∧ SV.val (Value.int IntKind.i64 (chk g_1)) = SV.val (Value.int IntKind.i64 (chk g))) ∧ (∀ (x : DP), allFlat (encDP x) = true) ∧ ordO g = []
  ∧ ∀ (x : DP), (3 : Nat) = (3 : Nat) ∧ allOne (encDP x) = true) ∧ (0 : Nat) = (0 : Nat) ∧ True) ∧ ((chk g_1 != (0 : Int)) = false → (∃ (g_2 : Nat), g_2 ≤ List.length g ∧ ((0 : Int)
  = (↑g_2 : Int) ∧ (0 : Nat) = (0 : Nat) ∧ List.length (ordR (List.take g_2 g)) = (0 : Nat)) ∧ ((ordR (List.take g_2 g) = [] ∧ ∀ (x : DP), (3 : Nat) = (3 : Nat) ∧ allOne (encDP x) =
  true) ∧ True) ∧ True) ∧ ∀ (g_2 : Nat), g_2 ≤ List.length g → (decide ((↑g_2 : Int) < (↑(List.length g) : Int)) = true → ((0 : Int) ≤ (↑g_2 : Int) ∧ (↑g_2 : Int) < (↑(List.length g)
  : Int)) ∧ Int.toNat (↑g_2 : Int) < List.length g ∧ (∃ (g_3 : Nat), insInv g (↑g_2 : Int) g_3 ∧ (↑(List.length (ordR (List.take g_2 g))) : Int) = (↑g_3 : Int) ∧ True ∧ LB.arr DP dDP
  encDP (ordR (List.take g_2 g)) = LB.arr DP dDP encDP (ordR (List.take g_2 g)) ∧ LB.cells [SV.val (Value.int IntKind.i64 (DP.file (List.getD g (Int.toNat (↑g_2 : Int)) dDP))),
  SV.val (Value.int IntKind.i64 (DP.index (List.getD g (Int.toNat (↑g_2 : Int)) dDP))), SV.val (Value.int IntKind.i64 (DP.since (List.getD g (Int.toNat (↑g_2 : Int)) dDP)))] =
  LB.cells [SV.val (Value.int IntKind.i64 (DP.file (List.getD g (Int.toNat (↑g_2 : Int)) dDP))), SV.val (Value.int IntKind.i64 (DP.index (List.getD g (Int.toNat (↑g_2 : Int)) dDP))),
  SV.val (Value.int IntKind.i64 (DP.since (List.getD g (Int.toNat (↑g_2 : Int)) dDP)))] ∧ True) ∧ ∀ (g_3 : Nat), insInv g (↑g_2 : Int) g_3 → (decide ((↑g_3 : Int) > (0 : Int)) = true
  → inK IntKind.i64 ((↑g_3 : Int) - (1 : Int)) ∧ ((0 : Int) ≤ (↑g_3 : Int) - (1 : Int) ∧ (↑g_3 : Int) - (1 : Int) < (↑(List.length (ordR (List.take g_2 g))) : Int)) ∧ (0 : Nat) +
  Int.toNat ((↑g_3 : Int) - (1 : Int)) < List.length (ordR (List.take g_2 g)) ∧ ∃ (g_4 : DP × DP), ((SV.val (Value.int IntKind.i64 (DP.file (List.getD g (Int.toNat (↑g_2 : Int))
  dDP))) = SV.val (Value.int IntKind.i64 (DP.file (Prod.fst g_4))) ∧ SV.val (Value.int IntKind.i64 (DP.index (List.getD g (Int.toNat (↑g_2 : Int)) dDP))) = SV.val (Value.int
  IntKind.i64 (DP.index (Prod.fst g_4))) ∧ SV.val (Value.int IntKind.i64 (DP.since (List.getD g (Int.toNat (↑g_2 : Int)) dDP))) = SV.val (Value.int IntKind.i64 (DP.since (Prod.fst
  g_4))) ∧ True) ∧ SV.val (Value.int IntKind.i64 (DP.file (List.getD (ordR (List.take g_2 g)) ((0 : Nat) + Int.toNat ((↑g_3 : Int) - (1 : Int))) dDP))) = SV.val (Value.int
  IntKind.i64 (DP.file (Prod.snd g_4))) ∧ SV.val (Value.int IntKind.i64 (DP.index (List.getD (ordR (List.take g_2 g)) ((0 : Nat) + Int.toNat ((↑g_3 : Int) - (1 : Int))) dDP))) =
  SV.val (Value.int IntKind.i64 (DP.index (Prod.snd g_4))) ∧ SV.val (Value.int IntKind.i64 (DP.since (List.getD (ordR (List.take g_2 g)) ((0 : Nat) + Int.toNat ((↑g_3 : Int) - (1 :
  Int))) dDP))) = SV.val (Value.int IntKind.i64 (DP.since (Prod.snd g_4))) ∧ True) ∧ True ∧ True ∧ ∀ (b : Unit), True → (before (Prod.fst g_4) (Prod.snd g_4) = true → inK IntKind.i64
  ((↑g_3 : Int) - (1 : Int)) ∧ ∃ (g' : Nat), insInv g (↑g_2 : Int) g' ∧ g' < g_3 ∧ (↑g_3 : Int) - (1 : Int) = (↑g' : Int) ∧ True ∧ LB.arr DP dDP encDP (ordR (List.take g_2 g)) =
  LB.arr DP dDP encDP (ordR (List.take g_2 g)) ∧ LB.cells [SV.val (Value.int IntKind.i64 (DP.file (List.getD g (Int.toNat (↑g_2 : Int)) dDP))), SV.val (Value.int IntKind.i64
  (DP.index (List.getD g (Int.toNat (↑g_2 : Int)) dDP))), SV.val (Value.int IntKind.i64 (DP.since (List.getD g (Int.toNat (↑g_2 : Int)) dDP)))] = LB.cells [SV.val (Value.int
  IntKind.i64 (DP.file (List.getD g (Int.toNat (↑g_2 : Int)) dDP))), SV.val (Value.int IntKind.i64 (DP.index (List.getD g (Int.toNat (↑g_2 : Int)) dDP))), SV.val (Value.int
  IntKind.i64 (DP.since (List.getD g (Int.toNat (↑g_2 : Int)) dDP)))] ∧ True) ∧ (before (Prod.fst g_4) (Prod.snd g_4) = false → ((0 : Int) ≤ (↑g_3 : Int) ∧ (↑g_3 : Int) ≤
  (↑(List.length (ordR (List.take g_2 g))) : Int)) ∧ (0 : Nat) + (Int.toNat (↑g_3 : Int) - (0 : Nat)) ≤ List.length (ordR (List.take g_2 g)) ∧ ∃ (ys : List (Enc.α (Enc.mk (DP) (dDP)
  (encDP)))), relaxL (Enc.enc (Enc.mk (DP) (dDP) (encDP)) (Enc.d (Enc.mk (DP) (dDP) (encDP)))) (List.map encDP (List.take (Int.toNat (↑g_3 : Int) - (0 : Nat)) (List.drop (0 : Nat)
  (ordR (List.take g_2 g))))) = List.map (Enc.enc (Enc.mk (DP) (dDP) (encDP))) ys ∧ (List.length ys * (24 : Nat) ≤ (140737488355328 : Nat) ∧ ∀ (x : Enc.α (Enc.mk (DP) (dDP)
  (encDP))), (3 : Nat) = (3 : Nat) ∧ allOne (Enc.enc (Enc.mk (DP) (dDP) (encDP)) x) = true) ∧ (0 : Nat) + List.length ys ≤ List.length ys ∧ ∃ (ys_1 : List (Enc.α (Enc.mk (DP) (dDP)
  (encDP)))), [[SV.val (Value.int IntKind.i64 (DP.file (List.getD g (Int.toNat (↑g_2 : Int)) dDP))), SV.val (Value.int IntKind.i64 (DP.index (List.getD g (Int.toNat (↑g_2 : Int))
  dDP))), SV.val (Value.int IntKind.i64 (DP.since (List.getD g (Int.toNat (↑g_2 : Int)) dDP)))]] = List.map (Enc.enc (Enc.mk (DP) (dDP) (encDP))) ys_1 ∧ (List.length ys + List.length
  ys_1) * (24 : Nat) ≤ (140737488355328 : Nat) ∧ ((0 : Int) ≤ (↑g_3 : Int) ∧ (↑g_3 : Int) ≤ (↑(List.length (ordR (List.take g_2 g))) : Int)) ∧ (0 : Nat) + Int.toNat (↑g_3 : Int) +
  (List.length (ordR (List.take g_2 g)) - Int.toNat (↑g_3 : Int)) ≤ List.length (ordR (List.take g_2 g)) ∧ (0 : Nat) + (List.length ys + List.length ys_1) ≤ List.length (List.take
  (List.length ys) (List.drop (0 : Nat) ys) ++ ys_1) ∧ ∃ (ys_2 : List (Enc.α (Enc.mk (DP) (dDP) (encDP)))), relaxL (Enc.enc (Enc.mk (DP) (dDP) (encDP)) (Enc.d (Enc.mk (DP) (dDP)
  (encDP)))) (List.map encDP (List.take (List.length (ordR (List.take g_2 g)) - Int.toNat (↑g_3 : Int)) (List.drop ((0 : Nat) + Int.toNat (↑g_3 : Int)) (ordR (List.take g_2 g))))) =
  List.map (Enc.enc (Enc.mk (DP) (dDP) (encDP))) ys_2 ∧ (List.length ys + List.length ys_1 + List.length ys_2) * (24 : Nat) ≤ (140737488355328 : Nat) ∧ inK IntKind.i64 ((↑g_2 : Int)
  + (1 : Int)) ∧ ∃ (g' : Nat), g' ≤ List.length g ∧ List.length g - g' < List.length g - g_2 ∧ ((↑g_2 : Int) + (1 : Int) = (↑g' : Int) ∧ (3 : Nat) = (3 : Nat) ∧ (0 : Nat) = (0 : Nat)
  ∧ List.length ys + List.length ys_1 + List.length ys_2 = List.length (ordR (List.take g' g))) ∧ (LB.arr (Enc.α (Enc.mk (DP) (dDP) (encDP))) (Enc.d (Enc.mk (DP) (dDP) (encDP)))
  (Enc.enc (Enc.mk (DP) (dDP) (encDP))) (List.take (List.length ys + List.length ys_1) (List.drop (0 : Nat) (List.take (List.length ys) (List.drop (0 : Nat) ys) ++ ys_1)) ++ ys_2) =
  LB.arr DP dDP encDP (ordR (List.take g' g)) ∧ True) ∧ True)) ∧ (decide ((↑g_3 : Int) > (0 : Int)) = false → ((0 : Int) ≤ (↑g_3 : Int) ∧ (↑g_3 : Int) ≤ (↑(List.length (ordR
  (List.take g_2 g))) : Int)) ∧ (0 : Nat) + (Int.toNat (↑g_3 : Int) - (0 : Nat)) ≤ List.length (ordR (List.take g_2 g)) ∧ ∃ (ys : List (Enc.α (Enc.mk (DP) (dDP) (encDP)))), relaxL
  (Enc.enc (Enc.mk (DP) (dDP) (encDP)) (Enc.d (Enc.mk (DP) (dDP) (encDP)))) (List.map encDP (List.take (Int.toNat (↑g_3 : Int) - (0 : Nat)) (List.drop (0 : Nat) (ordR (List.take g_2
  g))))) = List.map (Enc.enc (Enc.mk (DP) (dDP) (encDP))) ys ∧ (List.length ys * (24 : Nat) ≤ (140737488355328 : Nat) ∧ ∀ (x : Enc.α (Enc.mk (DP) (dDP) (encDP))), (3 : Nat) = (3 :
  Nat) ∧ allOne (Enc.enc (Enc.mk (DP) (dDP) (encDP)) x) = true) ∧ (0 : Nat) + List.length ys ≤ List.length ys ∧ ∃ (ys_1 : List (Enc.α (Enc.mk (DP) (dDP) (encDP)))), [[SV.val
  (Value.int IntKind.i64 (DP.file (List.getD g (Int.toNat (↑g_2 : Int)) dDP))), SV.val (Value.int IntKind.i64 (DP.index (List.getD g (Int.toNat (↑g_2 : Int)) dDP))), SV.val
  (Value.int IntKind.i64 (DP.since (List.getD g (Int.toNat (↑g_2 : Int)) dDP)))]] = List.map (Enc.enc (Enc.mk (DP) (dDP) (encDP))) ys_1 ∧ (List.length ys + List.length ys_1) * (24 :
  Nat) ≤ (140737488355328 : Nat) ∧ ((0 : Int) ≤ (↑g_3 : Int) ∧ (↑g_3 : Int) ≤ (↑(List.length (ordR (List.take g_2 g))) : Int)) ∧ (0 : Nat) + Int.toNat (↑g_3 : Int) + (List.length
  (ordR (List.take g_2 g)) - Int.toNat (↑g_3 : Int)) ≤ List.length (ordR (List.take g_2 g)) ∧ (0 : Nat) + (List.length ys + List.length ys_1) ≤ List.length (List.take (List.length
  ys) (List.drop (0 : Nat) ys) ++ ys_1) ∧ ∃ (ys_2 : List (Enc.α (Enc.mk (DP) (dDP) (encDP)))), relaxL (Enc.enc (Enc.mk (DP) (dDP) (encDP)) (Enc.d (Enc.mk (DP) (dDP) (encDP))))
  (List.map encDP (List.take (List.length (ordR (List.take g_2 g)) - Int.toNat (↑g_3 : Int)) (List.drop ((0 : Nat) + Int.toNat (↑g_3 : Int)) (ordR (List.take g_2 g))))) = List.map
  (Enc.enc (Enc.mk (DP) (dDP) (encDP))) ys_2 ∧ (List.length ys + List.length ys_1 + List.length ys_2) * (24 : Nat) ≤ (140737488355328 : Nat) ∧ inK IntKind.i64 ((↑g_2 : Int) + (1 :
  Int)) ∧ ∃ (g' : Nat), g' ≤ List.length g ∧ List.length g - g' < List.length g - g_2 ∧ ((↑g_2 : Int) + (1 : Int) = (↑g' : Int) ∧ (3 : Nat) = (3 : Nat) ∧ (0 : Nat) = (0 : Nat) ∧
  List.length ys + List.length ys_1 + List.length ys_2 = List.length (ordR (List.take g' g))) ∧ (LB.arr (Enc.α (Enc.mk (DP) (dDP) (encDP))) (Enc.d (Enc.mk (DP) (dDP) (encDP)))
  (Enc.enc (Enc.mk (DP) (dDP) (encDP))) (List.take (List.length ys + List.length ys_1) (List.drop (0 : Nat) (List.take (List.length ys) (List.drop (0 : Nat) ys) ++ ys_1)) ++ ys_2) =
  LB.arr DP dDP encDP (ordR (List.take g' g)) ∧ True) ∧ True)) ∧ (decide ((↑g_2 : Int) < (↑(List.length g) : Int)) = false → ∃ (b : Unit), True ∧ (((SV.sl (96 : Nat) (3 : Nat) (0 :
  Nat) (List.length (ordR (List.take g_2 g))) = SV.sl (96 : Nat) (3 : Nat) (0 : Nat) (List.length (ordR (List.take g_2 g))) ∧ (0 : Nat) = (0 : Nat) ∧ (3 : Nat) = (3 : Nat) ∧
  List.length (ordR (List.take g_2 g)) = List.length (ordO g)) ∧ SV.val (Value.int IntKind.i64 (0 : Int)) = SV.val (Value.int IntKind.i64 (chk g))) ∧ (∀ (x : DP), allFlat (encDP x) =
  true) ∧ (0 : Nat) + List.length (ordR (List.take g_2 g)) ≤ List.length (ordR (List.take g_2 g)) ∧ LB.arr DP dDP encDP (List.take (List.length (ordR (List.take g_2 g))) (List.drop
  (0 : Nat) (ordR (List.take g_2 g)))) = LB.arr DP dDP encDP (ordO g)) ∧ (0 : Nat) = (0 : Nat) ∧ True))) := by kernel_rfl
theorem ordR_next {l : List DP} {i : Nat} (h : i < l.length) : ordR (l.take (i + 1)) = insP (ordR (l.take i)) (l.getD i dDP) := by
  rw [take_next l dDP h, ordR, List.foldl_append]; rfl
theorem insAt_le (p : DP) (r : List DP) : ∀ n, insAt p r n ≤ n
  | 0 => Nat.le_refl _
  | n + 1 => by
    have := insAt_le p r n
    simp only [insAt]
    split <;> omega
theorem insP_length (r : List DP) (p : DP) : (insP r p).length = r.length + 1 := by
  have := insAt_le p r r.length
  simp only [insP, List.length_append, List.length_take, List.length_drop, List.length_cons, List.length_nil]
  omega
theorem ordR_length (l : List DP) : ∀ {i}, i ≤ l.length → (ordR (l.take i)).length = i
  | 0, _ => rfl
  | i + 1, h => by rw [ordR_next h, insP_length, ordR_length l (i := i) (by omega)]
theorem vOrder : cOrder.body (fun g => env tabR (lOrder g)) Try.f13 := by
  rw [vOrder_eq]
  intro l hlen
  refine ⟨l, rfl, trivial, hlen, fun _ _ => ⟨fun h => ?_, fun h => ⟨⟨0, Nat.zero_le _, ⟨rfl, rfl, rfl⟩, ⟨⟨rfl, okDP⟩, trivial⟩, trivial⟩, fun i hi => ⟨fun hlt => ?_, fun hge => ?_⟩⟩⟩⟩
  · have h : chk l ≠ 0 := by simpa using h
    have ho : ordO l = [] := by rw [ordO, if_neg h]
    rw [ho]
    exact ⟨(), trivial, ⟨⟨⟨rfl, rfl, rfl⟩, rfl⟩, fun _ => rfl, rfl, okDP⟩, rfl, trivial⟩
  · have hlt : (i : Int) < l.length := of_decide_eq_true hlt
    have hi' : i < l.length := by omega
    have hR := ordR_length l hi
    have hnext := ordR_next hi'
    generalize hRR : ordR (l.take i) = R at hR hnext ⊢
    have hinv : ∀ k : Nat, insInv l (i : Int) k ↔ (k ≤ R.length ∧ insAt (l.getD i dDP) R k = insAt (l.getD i dDP) R R.length) := fun k => by
      unfold insInv; rw [Int.toNat_natCast, hRR]
    refine ⟨⟨by omega, hlt⟩, hi', ⟨R.length, (hinv _).2 ⟨Nat.le_refl _, rfl⟩, rfl, trivial, rfl, rfl, trivial⟩, fun k hk => ?_⟩
    rw [hinv] at hk
    obtain ⟨hk1, hk2⟩ := hk
    have fin : ∀ L : List DP, insAt (l.getD i dDP) R R.length = k → L = R.take k ++ [l.getD i dDP] ++ R.drop k → L = ordR (l.take (i + 1)) := fun L he hL => by
      rw [hL, hnext, insP, he, List.append_assoc]
    have hlk : (R.take k).length = k := by rw [List.length_take]; omega
    have hle : insAt (l.getD i dDP) R R.length = k → (R.take k).length + [l.getD i dDP].length + (R.drop k).length = (ordR (l.take (i + 1))).length := fun he => by
      rw [ordR_length l hi', hlk, List.length_drop, hR]; simp only [List.length_cons, List.length_nil]; omega
    have hlist : List.take ((R.take k).length + [l.getD i dDP].length) (List.drop 0 (List.take (R.take k).length (List.drop 0 (R.take k)) ++ [l.getD i dDP])) ++ R.drop k = R.take k ++ [l.getD i dDP] ++ R.drop k := by
      rw [List.drop_zero, List.drop_zero, List.take_length, ← List.length_append, List.take_length]
    refine ⟨fun h1 => ?_, fun h1 => ?_⟩
    · have h1 : (k : Int) > 0 := of_decide_eq_true h1
      have hk0 : 0 + Int.toNat ((k : Int) - 1) = k - 1 := by omega
      refine ⟨inI (by omega) (by omega), ⟨by omega, by omega⟩, by omega, (l.getD i dDP, R.getD (0 + Int.toNat ((k : Int) - 1)) dDP), ⟨⟨rfl, rfl, rfl, trivial⟩, rfl, rfl, rfl, trivial⟩, trivial, trivial, fun _ _ => ⟨fun h2 => ?_, fun h2 => ?_⟩⟩
      · refine ⟨inI (by omega) (by omega), k - 1, (hinv _).2 ⟨by omega, ?_⟩, by omega, by omega, trivial, rfl, rfl, trivial⟩
        rw [← hk2]
        obtain ⟨m, rfl⟩ : ∃ m, k = m + 1 := ⟨k - 1, by omega⟩
        simp only [hk0] at h2
        simp only [Nat.add_sub_cancel] at h2 ⊢
        rw [insAt, if_pos h2]
      · have he : insAt (l.getD i dDP) R R.length = k := by
          rw [← hk2]
          obtain ⟨m, rfl⟩ : ∃ m, k = m + 1 := ⟨k - 1, by omega⟩
          simp only [hk0] at h2
          simp only [Nat.add_sub_cancel] at h2
          rw [insAt, if_neg (by rw [h2]; decide)]
        refine ⟨⟨by omega, by omega⟩, by omega, R.take k, rfl, ⟨by rw [hlk]; omega, okDP⟩, by omega, [l.getD i dDP], rfl, by rw [hlk]; simp only [List.length_cons, List.length_nil]; omega, ⟨by omega, by omega⟩, by omega, ?_, R.drop k, ?_, ?_, inI (by omega) (by omega), i + 1, hi', by omega, ⟨by omega, rfl, rfl, hle he⟩, ⟨?_, trivial⟩, trivial⟩
        · rw [hlk, List.length_append, List.length_take, List.drop_zero, hlk]; omega
        · rw [Int.toNat_natCast, Nat.zero_add, List.take_of_length_le (by rw [List.length_drop]; omega)]; first | done | exact rfl
        · rw [hlk, List.length_drop]; simp only [List.length_cons, List.length_nil]; omega
        · exact congrArg (LB.arr DP dDP encDP) (fin _ he hlist)
    · have h1 : ¬ (k : Int) > 0 := of_decide_eq_false h1
      have hk0 : k = 0 := by omega
      have he : insAt (l.getD i dDP) R R.length = k := by rw [← hk2, hk0]; rfl
      refine ⟨⟨by omega, by omega⟩, by omega, R.take k, rfl, ⟨by rw [hlk]; omega, okDP⟩, by omega, [l.getD i dDP], rfl, by rw [hlk]; simp only [List.length_cons, List.length_nil]; omega, ⟨by omega, by omega⟩, by omega, ?_, R.drop k, ?_, ?_, inI (by omega) (by omega), i + 1, hi', by omega, ⟨by omega, rfl, rfl, hle he⟩, ⟨?_, trivial⟩, trivial⟩
      · rw [hlk, List.length_append, List.length_take, List.drop_zero, hlk]; omega
      · rw [Int.toNat_natCast, Nat.zero_add, List.take_of_length_le (by rw [List.length_drop]; omega)]; first | done | exact rfl
      · rw [hlk, List.length_drop]; simp only [List.length_cons, List.length_nil]; omega
      · exact congrArg (LB.arr DP dDP encDP) (fin _ he hlist)
  · have hge : ¬ (i : Int) < l.length := of_decide_eq_false hge
    have he : i = l.length := by omega
    have h : chk l = 0 := by simpa using h
    have ho : ordO l = ordR (l.take i) := by rw [ordO, if_pos h, he, List.take_length]
    rw [ho, h]
    refine ⟨(), trivial, ⟨⟨⟨rfl, rfl, rfl, rfl⟩, rfl⟩, fun _ => rfl, by omega, ?_⟩, rfl, trivial⟩
    rw [List.drop_zero, List.take_length]
end Go.Wb
