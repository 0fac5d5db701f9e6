/- A PART OF THE PROOF. NO CONDITION. -/
import Derived.Test.YtgcedkklmmdabaaWbB
noncomputable section
set_option linter.unusedVariables false
set_option linter.unusedVariables false
set_option linter.unusedSimpArgs false
namespace Go.Wb
open Go.Proofs Go.SX
set_option maxRecDepth 100000

theorem sNext : SpecOk P 17 cNext.spec := spec_of cNext tabR_ok mixed (fn := Try.f17) (by kernel_rfl) (by kernel_rfl) (by kernel_rfl) (Nat.zero_le _) (noIns fun _ => rfl) vNext
theorem sOrder : SpecOk P 13 cOrder.spec := spec_of cOrder tabR_ok mixed (fn := Try.f13) (by kernel_rfl) (by kernel_rfl) (by kernel_rfl) (Nat.zero_le _) (noIns fun _ => rfl) vOrder
def tabS : List (Nat × Con) := (13, cOrder) :: (17, cNext) :: tabR
theorem tabS_ok : TabOk P tabS := tab_cons sOrder (tab_cons sNext tabR_ok)

/-! Expired -/
structure GExp where
  l : List DP
  now : Int
  age : Int
def old (now age : Int) (p : DP) : Bool := decide (now - p.since ≥ age)
def expE (g : GExp) : Int := if chk g.l = 0 then (if g.now < 0 ∨ g.age < 0 then 2 else 0) else chk g.l
def expO (g : GExp) : List DP := if expE g = 0 then (ordR g.l).filter (old g.now g.age) else []
def cExp : Con := newCon GExp Unit (fun g => [roP g.l, I g.now, I g.age]) (fun g => g.l.length ≤ 1000000000 ∧ g.now ≤ 9223372036854775807 ∧ ∀ p ∈ g.l, p.since ≤ 9223372036854775807) (fun _ _ => True)
  (fun g _ => .tup [.sl 0 3 0 (expO g).length, I (expE g)]) (fun g _ => .arr DP dDP encDP (expO g))
def lExp (g : GExp) : Loops := loop1 0 { γ := Nat, slots := [29, 10], vals := fun b i => [I i, .sl b 3 0 (((ordO g.l).take i).filter (old g.now g.age)).length], rekey := [10], blks := fun b i => [(b, .arr DP dDP encDP (((ordO g.l).take i).filter (old g.now g.age)))], inv := fun i => i ≤ (ordO g.l).length, μ := fun i => (ordO g.l).length - i }
theorem vExp_eq : (cExp.body (fun g => env tabS (lExp g)) Try.f20) = (∀ (g : GExp), (List.length (GExp.l g) ≤ (1000000000 : Nat) ∧ GExp.now g ≤ (9223372036854775807 : Int) ∧ ∀ (p : DP), p ∈ GExp.l g → DP.since p ≤ (9223372036854775807 : Int)) → ∃
  (g_1 : List DP), SV.ro DP dDP encDP (GExp.l g) = SV.ro DP dDP encDP g_1 ∧ True ∧ List.length g_1 ≤ (1000000000 : Nat) ∧ ∀ (b : Unit), True → ((chk g_1 != (0 : Int)) = true → ∃ (b :
  Unit), True ∧ (((SV.val (Value.slice none (0 : Nat) (0 : Nat)) = SV.val (Value.slice none (0 : Nat) (0 : Nat)) ∧ (0 : Nat) = (0 : Nat) ∧ List.length (expO g) = (0 : Nat)) ∧ SV.val
  (Value.int IntKind.i64 (chk g_1)) = SV.val (Value.int IntKind.i64 (expE g))) ∧ (∀ (x : DP), allFlat (encDP x) = true) ∧ expO g = [] ∧ ∀ (x : DP), (3 : Nat) = (3 : Nat) ∧ allOne
  (encDP x) = true) ∧ (0 : Nat) = (0 : Nat) ∧ True) ∧ ((chk g_1 != (0 : Int)) = false → (decide (GExp.now g < (0 : Int)) = true → ∃ (b : Unit), True ∧ (((SV.val (Value.slice none (0
  : Nat) (0 : Nat)) = SV.val (Value.slice none (0 : Nat) (0 : Nat)) ∧ (0 : Nat) = (0 : Nat) ∧ List.length (expO g) = (0 : Nat)) ∧ SV.val (Value.int IntKind.i64 (2 : Int)) = SV.val
  (Value.int IntKind.i64 (expE g))) ∧ (∀ (x : DP), allFlat (encDP x) = true) ∧ expO g = [] ∧ ∀ (x : DP), (3 : Nat) = (3 : Nat) ∧ allOne (encDP x) = true) ∧ (0 : Nat) = (0 : Nat) ∧
  True) ∧ (decide (GExp.now g < (0 : Int)) = false → (decide (GExp.age g < (0 : Int)) = true → ∃ (b : Unit), True ∧ (((SV.val (Value.slice none (0 : Nat) (0 : Nat)) = SV.val
  (Value.slice none (0 : Nat) (0 : Nat)) ∧ (0 : Nat) = (0 : Nat) ∧ List.length (expO g) = (0 : Nat)) ∧ SV.val (Value.int IntKind.i64 (2 : Int)) = SV.val (Value.int IntKind.i64 (expE
  g))) ∧ (∀ (x : DP), allFlat (encDP x) = true) ∧ expO g = [] ∧ ∀ (x : DP), (3 : Nat) = (3 : Nat) ∧ allOne (encDP x) = true) ∧ (0 : Nat) = (0 : Nat) ∧ True) ∧ (decide (GExp.age g <
  (0 : Int)) = false → (∃ (g_2 : Nat), g_2 ≤ List.length (ordO (GExp.l g)) ∧ ((0 : Int) = (↑g_2 : Int) ∧ (0 : Nat) = (0 : Nat) ∧ List.length (List.filter (old (GExp.now g) (GExp.age
  g)) (List.take g_2 (ordO (GExp.l g)))) = (0 : Nat)) ∧ ((List.filter (old (GExp.now g) (GExp.age g)) (List.take g_2 (ordO (GExp.l g))) = [] ∧ ∀ (x : DP), (3 : Nat) = (3 : Nat) ∧
  allOne (encDP x) = true) ∧ True) ∧ LB.arr DP dDP encDP (ordO g_1) = LB.arr DP dDP encDP (ordO g_1) ∧ True) ∧ ∀ (g_2 : Nat), g_2 ≤ List.length (ordO (GExp.l g)) → (decide ((↑g_2 :
  Int) < (↑(List.length (ordO g_1)) : Int)) = true → ((0 : Int) ≤ (↑g_2 : Int) ∧ (↑g_2 : Int) < (↑(List.length (ordO g_1)) : Int)) ∧ (0 : Nat) + Int.toNat (↑g_2 : Int) < List.length
  (ordO g_1) ∧ inK IntKind.i64 (GExp.now g - DP.since (List.getD (ordO g_1) ((0 : Nat) + Int.toNat (↑g_2 : Int)) dDP)) ∧ (decide (GExp.now g - DP.since (List.getD (ordO g_1) ((0 :
  Nat) + Int.toNat (↑g_2 : Int)) dDP) ≥ GExp.age g) = true → (0 : Nat) + List.length (List.filter (old (GExp.now g) (GExp.age g)) (List.take g_2 (ordO (GExp.l g)))) ≤ List.length
  (List.filter (old (GExp.now g) (GExp.age g)) (List.take g_2 (ordO (GExp.l g)))) ∧ ∃ (ys : List DP), [[SV.val (Value.int IntKind.i64 (DP.file (List.getD (ordO g_1) ((0 : Nat) +
  Int.toNat (↑g_2 : Int)) dDP))), SV.val (Value.int IntKind.i64 (DP.index (List.getD (ordO g_1) ((0 : Nat) + Int.toNat (↑g_2 : Int)) dDP))), SV.val (Value.int IntKind.i64 (DP.since
  (List.getD (ordO g_1) ((0 : Nat) + Int.toNat (↑g_2 : Int)) dDP)))]] = List.map encDP ys ∧ (List.length (List.filter (old (GExp.now g) (GExp.age g)) (List.take g_2 (ordO (GExp.l
  g)))) + List.length ys) * (24 : Nat) ≤ (140737488355328 : Nat) ∧ inK IntKind.i64 ((↑g_2 : Int) + (1 : Int)) ∧ ∃ (g' : Nat), g' ≤ List.length (ordO (GExp.l g)) ∧ List.length (ordO
  (GExp.l g)) - g' < List.length (ordO (GExp.l g)) - g_2 ∧ ((↑g_2 : Int) + (1 : Int) = (↑g' : Int) ∧ (3 : Nat) = (3 : Nat) ∧ (0 : Nat) = (0 : Nat) ∧ List.length (List.filter (old
  (GExp.now g) (GExp.age g)) (List.take g_2 (ordO (GExp.l g)))) + List.length ys = List.length (List.filter (old (GExp.now g) (GExp.age g)) (List.take g' (ordO (GExp.l g))))) ∧
  (LB.arr DP dDP encDP (List.take (List.length (List.filter (old (GExp.now g) (GExp.age g)) (List.take g_2 (ordO (GExp.l g))))) (List.drop (0 : Nat) (List.filter (old (GExp.now g)
  (GExp.age g)) (List.take g_2 (ordO (GExp.l g))))) ++ ys) = LB.arr DP dDP encDP (List.filter (old (GExp.now g) (GExp.age g)) (List.take g' (ordO (GExp.l g)))) ∧ True) ∧ LB.arr DP
  dDP encDP (ordO g_1) = LB.arr DP dDP encDP (ordO g_1) ∧ True) ∧ (decide (GExp.now g - DP.since (List.getD (ordO g_1) ((0 : Nat) + Int.toNat (↑g_2 : Int)) dDP) ≥ GExp.age g) = false
  → inK IntKind.i64 ((↑g_2 : Int) + (1 : Int)) ∧ ∃ (g' : Nat), g' ≤ List.length (ordO (GExp.l g)) ∧ List.length (ordO (GExp.l g)) - g' < List.length (ordO (GExp.l g)) - g_2 ∧ ((↑g_2
  : Int) + (1 : Int) = (↑g' : Int) ∧ (3 : Nat) = (3 : Nat) ∧ (0 : Nat) = (0 : Nat) ∧ List.length (List.filter (old (GExp.now g) (GExp.age g)) (List.take g_2 (ordO (GExp.l g)))) =
  List.length (List.filter (old (GExp.now g) (GExp.age g)) (List.take g' (ordO (GExp.l g))))) ∧ (LB.arr DP dDP encDP (List.filter (old (GExp.now g) (GExp.age g)) (List.take g_2 (ordO
  (GExp.l g)))) = LB.arr DP dDP encDP (List.filter (old (GExp.now g) (GExp.age g)) (List.take g' (ordO (GExp.l g)))) ∧ True) ∧ LB.arr DP dDP encDP (ordO g_1) = LB.arr DP dDP encDP
  (ordO g_1) ∧ True)) ∧ (decide ((↑g_2 : Int) < (↑(List.length (ordO g_1)) : Int)) = false → ∃ (b : Unit), True ∧ (((SV.sl (176 : Nat) (3 : Nat) (0 : Nat) (List.length (List.filter
  (old (GExp.now g) (GExp.age g)) (List.take g_2 (ordO (GExp.l g))))) = SV.sl (176 : Nat) (3 : Nat) (0 : Nat) (List.length (List.filter (old (GExp.now g) (GExp.age g)) (List.take g_2
  (ordO (GExp.l g))))) ∧ (0 : Nat) = (0 : Nat) ∧ (3 : Nat) = (3 : Nat) ∧ List.length (List.filter (old (GExp.now g) (GExp.age g)) (List.take g_2 (ordO (GExp.l g)))) = List.length
  (expO g)) ∧ SV.val (Value.int IntKind.i64 (0 : Int)) = SV.val (Value.int IntKind.i64 (expE g))) ∧ (∀ (x : DP), allFlat (encDP x) = true) ∧ (0 : Nat) + List.length (List.filter (old
  (GExp.now g) (GExp.age g)) (List.take g_2 (ordO (GExp.l g)))) ≤ List.length (List.filter (old (GExp.now g) (GExp.age g)) (List.take g_2 (ordO (GExp.l g)))) ∧ LB.arr DP dDP encDP
  (List.take (List.length (List.filter (old (GExp.now g) (GExp.age g)) (List.take g_2 (ordO (GExp.l g))))) (List.drop (0 : Nat) (List.filter (old (GExp.now g) (GExp.age g))
  (List.take g_2 (ordO (GExp.l g)))))) = LB.arr DP dDP encDP (expO g)) ∧ (0 : Nat) = (0 : Nat) ∧ True))))) := by kernel_rfl

theorem insP_mem {r : List DP} {p q : DP} : q ∈ insP r p ↔ q = p ∨ q ∈ r := by
  unfold insP
  rw [List.mem_append, List.mem_append, List.mem_singleton]
  conv => rhs; rw [← List.take_append_drop (insAt p r r.length) r, List.mem_append]
  constructor
  · rintro (h | h | h) <;> simp [h]
  · rintro (h | h | h) <;> simp [h]
theorem ordR_mem {q : DP} (l : List DP) : ∀ r, q ∈ l.foldl insP r ↔ q ∈ l ∨ q ∈ r := by
  induction l with
  | nil => simp
  | cons p l ih =>
    intro r
    rw [List.foldl_cons, ih, insP_mem, List.mem_cons]
    constructor
    · rintro (h | h | h) <;> simp [h]
    · rintro ((h | h) | h) <;> simp [h]
theorem ordO_mem {l : List DP} (h : chk l = 0) {q : DP} : q ∈ ordO l ↔ q ∈ l := by
  rw [ordO, if_pos h, ordR, ordR_mem]; simp
theorem chk_ok {l : List DP} (h : chk l = 0) : l.all okP = true := by
  unfold chk at h
  split at h
  · assumption
  · cases h
theorem ordO_length (l : List DP) : (ordO l).length ≤ l.length := by
  unfold ordO
  split
  · have := ordR_length l (i := l.length) (Nat.le_refl _)
    rw [List.take_length] at this; omega
  · simp
theorem filter_next {α : Type} (f : α → Bool) (l : List α) (d : α) {i : Nat} (h : i < l.length) : (l.take (i + 1)).filter f = (l.take i).filter f ++ (if f (l.getD i d) = true then [l.getD i d] else []) := by
  rw [take_next l d h, List.filter_append]
  congr 1
  by_cases hf : f (l.getD i d) = true
  · rw [if_pos hf, List.filter_cons_of_pos hf, List.filter_nil]
  · rw [if_neg hf, List.filter_cons_of_neg hf, List.filter_nil]
theorem vExp : cExp.body (fun g => env tabS (lExp g)) Try.f20 := by
  rw [vExp_eq]
  rintro ⟨l, now, age⟩ ⟨hlen, hnow, hsince⟩
  simp only at hlen hnow hsince
  dsimp only
  have none : ∀ x : Int, expE ⟨l, now, age⟩ = x → x ≠ 0 → expO ⟨l, now, age⟩ = [] := fun x h1 h2 => by rw [expO, if_neg (by rw [h1]; exact h2)]
  refine ⟨l, rfl, trivial, hlen, fun _ _ => ⟨fun h => ?_, fun h => ⟨fun h1 => ?_, fun h1 => ⟨fun h2 => ?_, fun h2 => ⟨⟨0, Nat.zero_le _, ⟨rfl, rfl, rfl⟩, ⟨⟨rfl, okDP⟩, trivial⟩, rfl, trivial⟩, fun i hi => ⟨fun hlt => ?_, fun hge => ?_⟩⟩⟩⟩⟩⟩
  · have h : chk l ≠ 0 := by simpa using h
    have he : expE ⟨l, now, age⟩ = chk l := by rw [expE, if_neg h]
    rw [none _ he h, he]
    exact ⟨(), trivial, ⟨⟨⟨rfl, rfl, rfl⟩, rfl⟩, fun _ => rfl, rfl, okDP⟩, rfl, trivial⟩
  · have h : chk l = 0 := by simpa using h
    have h1 : now < 0 := of_decide_eq_true h1
    have he : expE ⟨l, now, age⟩ = 2 := by rw [expE, if_pos h, if_pos (.inl h1)]
    rw [none _ he (by decide), he]
    exact ⟨(), trivial, ⟨⟨⟨rfl, rfl, rfl⟩, rfl⟩, fun _ => rfl, rfl, okDP⟩, rfl, trivial⟩
  · have h : chk l = 0 := by simpa using h
    have h2 : age < 0 := of_decide_eq_true h2
    have he : expE ⟨l, now, age⟩ = 2 := by rw [expE, if_pos h, if_pos (.inr h2)]
    rw [none _ he (by decide), he]
    exact ⟨(), trivial, ⟨⟨⟨rfl, rfl, rfl⟩, rfl⟩, fun _ => rfl, rfl, okDP⟩, rfl, trivial⟩
  · have h : chk l = 0 := by simpa using h
    have hlt : (i : Int) < (ordO l).length := of_decide_eq_true hlt
    have h1 : ¬ now < 0 := of_decide_eq_false h1
    have hi' : i < (ordO l).length := by omega
    have hol := ordO_length l
    have hm := (ordO_mem h).1 (getD_mem hi')
    have hs1 := hsince _ hm
    have hs0 := (okP_iff.1 (List.all_eq_true.1 (chk_ok h) _ hm)).2.2.2.2
    have hn := filter_next (old now age) (ordO l) dDP hi'
    have hfl : ((List.take i (ordO l)).filter (old now age)).length ≤ i := by
      have := List.length_filter_le (old now age) (List.take i (ordO l))
      rw [List.length_take] at this; omega
    rw [Int.toNat_natCast, Nat.zero_add]
    refine ⟨⟨by omega, hlt⟩, hi', inI (by omega) (by omega), fun h3 => ⟨by omega, [(ordO l).getD i dDP], rfl, ?_, inI (by omega) (by omega), i + 1, hi', by omega, ⟨by omega, rfl, rfl, ?_⟩, ⟨?_, trivial⟩, rfl, trivial⟩, fun h3 => ⟨inI (by omega) (by omega), i + 1, hi', by omega, ⟨by omega, rfl, rfl, ?_⟩, ⟨?_, trivial⟩, rfl, trivial⟩⟩
    · simp only [List.length_cons, List.length_nil]; omega
    · rw [hn, if_pos (show old now age ((ordO l).getD i dDP) = true from h3), List.length_append]
    · rw [hn, if_pos (show old now age ((ordO l).getD i dDP) = true from h3), List.drop_zero, List.take_length]
    · rw [hn, if_neg (by rw [show old now age ((ordO l).getD i dDP) = false from h3]; decide), List.append_nil]
    · rw [hn, if_neg (by rw [show old now age ((ordO l).getD i dDP) = false from h3]; decide), List.append_nil]
  · have h : chk l = 0 := by simpa using h
    have hge : ¬ (i : Int) < (ordO l).length := of_decide_eq_false hge
    have h1 : ¬ now < 0 := of_decide_eq_false h1
    have h2 : ¬ age < 0 := of_decide_eq_false h2
    have he : i = (ordO l).length := by omega
    have hee : expE ⟨l, now, age⟩ = 0 := by rw [expE, if_pos h, if_neg (by simp only; omega)]
    have ho : expO ⟨l, now, age⟩ = (List.take i (ordO l)).filter (old now age) := by rw [expO, if_pos hee, he, List.take_length, ordO, if_pos h]
    rw [ho, hee]
    refine ⟨(), trivial, ⟨⟨⟨rfl, rfl, rfl, rfl⟩, rfl⟩, fun _ => rfl, by omega, ?_⟩, rfl, trivial⟩
    rw [List.drop_zero, List.take_length]

/-! Written -/
structure GWr where
  l : List DP
  r : DR
def inRun (r : DR) (p : DP) : Bool := decide (p.file = r.file) && decide (r.index ≤ p.index) && decide (p.index < r.index + r.count)
def badRun (r : DR) : Bool := decide (r.file < 0) || decide (r.file ≥ 4) || decide (r.index < 0) || decide (r.index ≥ 16) || decide (r.count < 1) || decide (r.count > 16 - r.index)
def hasRun (l : List DP) (r : DR) (k : Nat) : Prop := ∀ j : Nat, j < k → has l r.file (r.index + j) = true
open Classical in
def wrE (g : GWr) : Int := if chk g.l = 0 then (if badRun g.r = true then 2 else if hasRun g.l g.r g.r.count.toNat then 0 else 6) else chk g.l
def wrO (g : GWr) : List DP := if wrE g = 0 then g.l.filter (fun p => !inRun g.r p) else []
def cWr : Con := newCon GWr Unit (fun g => [roP g.l, .agg (encDR g.r)]) (fun g => g.l.length ≤ 1000000000) (fun _ _ => True)
  (fun g _ => .tup [.sl 0 3 0 (wrO g).length, I (wrE g)]) (fun g _ => .arr DP dDP encDP (wrO g))
def lWr (g : GWr) : Loops := loop2
  0 { γ := Nat, slots := [7], vals := fun b i => [I i], inv := fun i => (i : Int) ≤ g.r.count ∧ hasRun g.l g.r i, μ := fun i => g.r.count.toNat - i }
  2 { γ := Nat, slots := [64, 8], vals := fun b i => [I i, .sl b 3 0 ((g.l.take i).filter (fun p => !inRun g.r p)).length], rekey := [8], blks := fun b i => [(b, .arr DP dDP encDP ((g.l.take i).filter (fun p => !inRun g.r p)))], inv := fun i => i ≤ g.l.length, μ := fun i => g.l.length - i }
theorem vWr_eq : (cWr.body (fun g => env tabS (lWr g)) Try.f25) = (∀ (g : GWr), List.length (GWr.l g) ≤ (1000000000 : Nat) → ∃ (g_1 : List DP), SV.ro DP dDP encDP (GWr.l g) = SV.ro DP dDP encDP g_1 ∧ True ∧ List.length g_1 ≤ (1000000000 : Nat) ∧ ∀
  (b : Unit), True → ((chk g_1 != (0 : Int)) = true → ∃ (b : Unit), True ∧ (((SV.val (Value.slice none (0 : Nat) (0 : Nat)) = SV.val (Value.slice none (0 : Nat) (0 : Nat)) ∧ (0 :
  Nat) = (0 : Nat) ∧ List.length (wrO g) = (0 : Nat)) ∧ SV.val (Value.int IntKind.i64 (chk g_1)) = SV.val (Value.int IntKind.i64 (wrE g))) ∧ (∀ (x : DP), allFlat (encDP x) = true) ∧
  wrO g = [] ∧ ∀ (x : DP), (3 : Nat) = (3 : Nat) ∧ allOne (encDP x) = true) ∧ (0 : Nat) = (0 : Nat) ∧ True) ∧ ((chk g_1 != (0 : Int)) = false → (decide (DR.file (GWr.r g) < (0 :
  Int)) = true → ∃ (b : Unit), True ∧ (((SV.val (Value.slice none (0 : Nat) (0 : Nat)) = SV.val (Value.slice none (0 : Nat) (0 : Nat)) ∧ (0 : Nat) = (0 : Nat) ∧ List.length (wrO g) =
  (0 : Nat)) ∧ SV.val (Value.int IntKind.i64 (2 : Int)) = SV.val (Value.int IntKind.i64 (wrE g))) ∧ (∀ (x : DP), allFlat (encDP x) = true) ∧ wrO g = [] ∧ ∀ (x : DP), (3 : Nat) = (3 :
  Nat) ∧ allOne (encDP x) = true) ∧ (0 : Nat) = (0 : Nat) ∧ True) ∧ (decide (DR.file (GWr.r g) < (0 : Int)) = false → (decide (DR.file (GWr.r g) ≥ (4 : Int)) = true → ∃ (b : Unit),
  True ∧ (((SV.val (Value.slice none (0 : Nat) (0 : Nat)) = SV.val (Value.slice none (0 : Nat) (0 : Nat)) ∧ (0 : Nat) = (0 : Nat) ∧ List.length (wrO g) = (0 : Nat)) ∧ SV.val
  (Value.int IntKind.i64 (2 : Int)) = SV.val (Value.int IntKind.i64 (wrE g))) ∧ (∀ (x : DP), allFlat (encDP x) = true) ∧ wrO g = [] ∧ ∀ (x : DP), (3 : Nat) = (3 : Nat) ∧ allOne
  (encDP x) = true) ∧ (0 : Nat) = (0 : Nat) ∧ True) ∧ (decide (DR.file (GWr.r g) ≥ (4 : Int)) = false → (decide (DR.index (GWr.r g) < (0 : Int)) = true → ∃ (b : Unit), True ∧
  (((SV.val (Value.slice none (0 : Nat) (0 : Nat)) = SV.val (Value.slice none (0 : Nat) (0 : Nat)) ∧ (0 : Nat) = (0 : Nat) ∧ List.length (wrO g) = (0 : Nat)) ∧ SV.val (Value.int
  IntKind.i64 (2 : Int)) = SV.val (Value.int IntKind.i64 (wrE g))) ∧ (∀ (x : DP), allFlat (encDP x) = true) ∧ wrO g = [] ∧ ∀ (x : DP), (3 : Nat) = (3 : Nat) ∧ allOne (encDP x) =
  true) ∧ (0 : Nat) = (0 : Nat) ∧ True) ∧ (decide (DR.index (GWr.r g) < (0 : Int)) = false → (decide (DR.index (GWr.r g) ≥ (16 : Int)) = true → ∃ (b : Unit), True ∧ (((SV.val
  (Value.slice none (0 : Nat) (0 : Nat)) = SV.val (Value.slice none (0 : Nat) (0 : Nat)) ∧ (0 : Nat) = (0 : Nat) ∧ List.length (wrO g) = (0 : Nat)) ∧ SV.val (Value.int IntKind.i64 (2
  : Int)) = SV.val (Value.int IntKind.i64 (wrE g))) ∧ (∀ (x : DP), allFlat (encDP x) = true) ∧ wrO g = [] ∧ ∀ (x : DP), (3 : Nat) = (3 : Nat) ∧ allOne (encDP x) = true) ∧ (0 : Nat) =
  (0 : Nat) ∧ True) ∧ (decide (DR.index (GWr.r g) ≥ (16 : Int)) = false → (decide (DR.count (GWr.r g) < (1 : Int)) = true → ∃ (b : Unit), True ∧ (((SV.val (Value.slice none (0 : Nat)
  (0 : Nat)) = SV.val (Value.slice none (0 : Nat) (0 : Nat)) ∧ (0 : Nat) = (0 : Nat) ∧ List.length (wrO g) = (0 : Nat)) ∧ SV.val (Value.int IntKind.i64 (2 : Int)) = SV.val (Value.int
  IntKind.i64 (wrE g))) ∧ (∀ (x : DP), allFlat (encDP x) = true) ∧ wrO g = [] ∧ ∀ (x : DP), (3 : Nat) = (3 : Nat) ∧ allOne (encDP x) = true) ∧ (0 : Nat) = (0 : Nat) ∧ True) ∧ (decide
  (DR.count (GWr.r g) < (1 : Int)) = false → inK IntKind.i64 ((16 : Int) - DR.index (GWr.r g)) ∧ (decide (DR.count (GWr.r g) > (16 : Int) - DR.index (GWr.r g)) = true → ∃ (b : Unit),
  True ∧ (((SV.val (Value.slice none (0 : Nat) (0 : Nat)) = SV.val (Value.slice none (0 : Nat) (0 : Nat)) ∧ (0 : Nat) = (0 : Nat) ∧ List.length (wrO g) = (0 : Nat)) ∧ SV.val
  (Value.int IntKind.i64 (2 : Int)) = SV.val (Value.int IntKind.i64 (wrE g))) ∧ (∀ (x : DP), allFlat (encDP x) = true) ∧ wrO g = [] ∧ ∀ (x : DP), (3 : Nat) = (3 : Nat) ∧ allOne
  (encDP x) = true) ∧ (0 : Nat) = (0 : Nat) ∧ True) ∧ (decide (DR.count (GWr.r g) > (16 : Int) - DR.index (GWr.r g)) = false → (∃ (g_2 : Nat), ((↑g_2 : Int) ≤ DR.count (GWr.r g) ∧
  hasRun (GWr.l g) (GWr.r g) g_2) ∧ (0 : Int) = (↑g_2 : Int) ∧ True ∧ LB.cells [SV.val (Value.int IntKind.i64 (DR.file (GWr.r g))), SV.val (Value.int IntKind.i64 (DR.index (GWr.r
  g))), SV.val (Value.int IntKind.i64 (DR.count (GWr.r g)))] = LB.cells [SV.val (Value.int IntKind.i64 (DR.file (GWr.r g))), SV.val (Value.int IntKind.i64 (DR.index (GWr.r g))),
  SV.val (Value.int IntKind.i64 (DR.count (GWr.r g)))] ∧ True) ∧ ∀ (g_2 : Nat), (↑g_2 : Int) ≤ DR.count (GWr.r g) ∧ hasRun (GWr.l g) (GWr.r g) g_2 → (decide ((↑g_2 : Int) < DR.count
  (GWr.r g)) = true → inK IntKind.i64 (DR.index (GWr.r g) + (↑g_2 : Int)) ∧ ∃ (g_3 : GHas), (SV.ro DP dDP encDP (GWr.l g) = SV.ro DP dDP encDP (GHas.l g_3) ∧ SV.val (Value.int
  IntKind.i64 (DR.file (GWr.r g))) = SV.val (Value.int IntKind.i64 (GHas.f g_3)) ∧ SV.val (Value.int IntKind.i64 (DR.index (GWr.r g) + (↑g_2 : Int))) = SV.val (Value.int IntKind.i64
  (GHas.i g_3))) ∧ True ∧ List.length (GHas.l g_3) ≤ (1000000000 : Nat) ∧ ∀ (b : Unit), True → ((!has (GHas.l g_3) (GHas.f g_3) (GHas.i g_3)) = true → ∃ (b : Unit), True ∧ (((SV.val
  (Value.slice none (0 : Nat) (0 : Nat)) = SV.val (Value.slice none (0 : Nat) (0 : Nat)) ∧ (0 : Nat) = (0 : Nat) ∧ List.length (wrO g) = (0 : Nat)) ∧ SV.val (Value.int IntKind.i64 (6
  : Int)) = SV.val (Value.int IntKind.i64 (wrE g))) ∧ (∀ (x : DP), allFlat (encDP x) = true) ∧ wrO g = [] ∧ ∀ (x : DP), (3 : Nat) = (3 : Nat) ∧ allOne (encDP x) = true) ∧ (0 : Nat) =
  (0 : Nat) ∧ True) ∧ ((!has (GHas.l g_3) (GHas.f g_3) (GHas.i g_3)) = false → inK IntKind.i64 ((↑g_2 : Int) + (1 : Int)) ∧ ∃ (g' : Nat), ((↑g' : Int) ≤ DR.count (GWr.r g) ∧ hasRun
  (GWr.l g) (GWr.r g) g') ∧ Int.toNat (DR.count (GWr.r g)) - g' < Int.toNat (DR.count (GWr.r g)) - g_2 ∧ (↑g_2 : Int) + (1 : Int) = (↑g' : Int) ∧ True ∧ LB.cells [SV.val (Value.int
  IntKind.i64 (DR.file (GWr.r g))), SV.val (Value.int IntKind.i64 (DR.index (GWr.r g))), SV.val (Value.int IntKind.i64 (DR.count (GWr.r g)))] = LB.cells [SV.val (Value.int
  IntKind.i64 (DR.file (GWr.r g))), SV.val (Value.int IntKind.i64 (DR.index (GWr.r g))), SV.val (Value.int IntKind.i64 (DR.count (GWr.r g)))] ∧ True)) ∧ (decide ((↑g_2 : Int) <
  DR.count (GWr.r g)) = false → (∃ (g_3 : Nat), g_3 ≤ List.length (GWr.l g) ∧ ((0 : Int) = (↑g_3 : Int) ∧ (0 : Nat) = (0 : Nat) ∧ List.length (List.filter (fun (p : DP) => !inRun
  (GWr.r g) p) (List.take g_3 (GWr.l g))) = (0 : Nat)) ∧ ((List.filter (fun (p : DP) => !inRun (GWr.r g) p) (List.take g_3 (GWr.l g)) = [] ∧ ∀ (x : DP), (3 : Nat) = (3 : Nat) ∧
  allOne (encDP x) = true) ∧ True) ∧ LB.cells [SV.val (Value.int IntKind.i64 (DR.file (GWr.r g))), SV.val (Value.int IntKind.i64 (DR.index (GWr.r g))), SV.val (Value.int IntKind.i64
  (DR.count (GWr.r g)))] = LB.cells [SV.val (Value.int IntKind.i64 (DR.file (GWr.r g))), SV.val (Value.int IntKind.i64 (DR.index (GWr.r g))), SV.val (Value.int IntKind.i64 (DR.count
  (GWr.r g)))] ∧ True) ∧ ∀ (g_3 : Nat), g_3 ≤ List.length (GWr.l g) → (decide ((↑g_3 : Int) < (↑(List.length (GWr.l g)) : Int)) = true → ((0 : Int) ≤ (↑g_3 : Int) ∧ (↑g_3 : Int) <
  (↑(List.length (GWr.l g)) : Int)) ∧ Int.toNat (↑g_3 : Int) < List.length (GWr.l g) ∧ ((DP.file (List.getD (GWr.l g) (Int.toNat (↑g_3 : Int)) dDP) != DR.file (GWr.r g)) = true → (0
  : Nat) + List.length (List.filter (fun (p : DP) => !inRun (GWr.r g) p) (List.take g_3 (GWr.l g))) ≤ List.length (List.filter (fun (p : DP) => !inRun (GWr.r g) p) (List.take g_3
  (GWr.l g))) ∧ ∃ (ys : List DP), [[SV.val (Value.int IntKind.i64 (DP.file (List.getD (GWr.l g) (Int.toNat (↑g_3 : Int)) dDP))), SV.val (Value.int IntKind.i64 (DP.index (List.getD
  (GWr.l g) (Int.toNat (↑g_3 : Int)) dDP))), SV.val (Value.int IntKind.i64 (DP.since (List.getD (GWr.l g) (Int.toNat (↑g_3 : Int)) dDP)))]] = List.map encDP ys ∧ (List.length
  (List.filter (fun (p : DP) => !inRun (GWr.r g) p) (List.take g_3 (GWr.l g))) + List.length ys) * (24 : Nat) ≤ (140737488355328 : Nat) ∧ inK IntKind.i64 ((↑g_3 : Int) + (1 : Int)) ∧
  ∃ (g' : Nat), g' ≤ List.length (GWr.l g) ∧ List.length (GWr.l g) - g' < List.length (GWr.l g) - g_3 ∧ ((↑g_3 : Int) + (1 : Int) = (↑g' : Int) ∧ (3 : Nat) = (3 : Nat) ∧ (0 : Nat) =
  (0 : Nat) ∧ List.length (List.filter (fun (p : DP) => !inRun (GWr.r g) p) (List.take g_3 (GWr.l g))) + List.length ys = List.length (List.filter (fun (p : DP) => !inRun (GWr.r g)
  p) (List.take g' (GWr.l g)))) ∧ (LB.arr DP dDP encDP (List.take (List.length (List.filter (fun (p : DP) => !inRun (GWr.r g) p) (List.take g_3 (GWr.l g)))) (List.drop (0 : Nat)
  (List.filter (fun (p : DP) => !inRun (GWr.r g) p) (List.take g_3 (GWr.l g)))) ++ ys) = LB.arr DP dDP encDP (List.filter (fun (p : DP) => !inRun (GWr.r g) p) (List.take g' (GWr.l
  g))) ∧ True) ∧ LB.cells [SV.val (Value.int IntKind.i64 (DR.file (GWr.r g))), SV.val (Value.int IntKind.i64 (DR.index (GWr.r g))), SV.val (Value.int IntKind.i64 (DR.count (GWr.r
  g)))] = LB.cells [SV.val (Value.int IntKind.i64 (DR.file (GWr.r g))), SV.val (Value.int IntKind.i64 (DR.index (GWr.r g))), SV.val (Value.int IntKind.i64 (DR.count (GWr.r g)))] ∧
  True) ∧ ((DP.file (List.getD (GWr.l g) (Int.toNat (↑g_3 : Int)) dDP) != DR.file (GWr.r g)) = false → (decide (DP.index (List.getD (GWr.l g) (Int.toNat (↑g_3 : Int)) dDP) < DR.index
  (GWr.r g)) = true → (0 : Nat) + List.length (List.filter (fun (p : DP) => !inRun (GWr.r g) p) (List.take g_3 (GWr.l g))) ≤ List.length (List.filter (fun (p : DP) => !inRun (GWr.r
  g) p) (List.take g_3 (GWr.l g))) ∧ ∃ (ys : List DP), [[SV.val (Value.int IntKind.i64 (DP.file (List.getD (GWr.l g) (Int.toNat (↑g_3 : Int)) dDP))), SV.val (Value.int IntKind.i64
  (DP.index (List.getD (GWr.l g) (Int.toNat (↑g_3 : Int)) dDP))), SV.val (Value.int IntKind.i64 (DP.since (List.getD (GWr.l g) (Int.toNat (↑g_3 : Int)) dDP)))]] = List.map encDP ys ∧
  (List.length (List.filter (fun (p : DP) => !inRun (GWr.r g) p) (List.take g_3 (GWr.l g))) + List.length ys) * (24 : Nat) ≤ (140737488355328 : Nat) ∧ inK IntKind.i64 ((↑g_3 : Int) +
  (1 : Int)) ∧ ∃ (g' : Nat), g' ≤ List.length (GWr.l g) ∧ List.length (GWr.l g) - g' < List.length (GWr.l g) - g_3 ∧ ((↑g_3 : Int) + (1 : Int) = (↑g' : Int) ∧ (3 : Nat) = (3 : Nat) ∧
  (0 : Nat) = (0 : Nat) ∧ List.length (List.filter (fun (p : DP) => !inRun (GWr.r g) p) (List.take g_3 (GWr.l g))) + List.length ys = List.length (List.filter (fun (p : DP) => !inRun
  (GWr.r g) p) (List.take g' (GWr.l g)))) ∧ (LB.arr DP dDP encDP (List.take (List.length (List.filter (fun (p : DP) => !inRun (GWr.r g) p) (List.take g_3 (GWr.l g)))) (List.drop (0 :
  Nat) (List.filter (fun (p : DP) => !inRun (GWr.r g) p) (List.take g_3 (GWr.l g)))) ++ ys) = LB.arr DP dDP encDP (List.filter (fun (p : DP) => !inRun (GWr.r g) p) (List.take g'
  (GWr.l g))) ∧ True) ∧ LB.cells [SV.val (Value.int IntKind.i64 (DR.file (GWr.r g))), SV.val (Value.int IntKind.i64 (DR.index (GWr.r g))), SV.val (Value.int IntKind.i64 (DR.count
  (GWr.r g)))] = LB.cells [SV.val (Value.int IntKind.i64 (DR.file (GWr.r g))), SV.val (Value.int IntKind.i64 (DR.index (GWr.r g))), SV.val (Value.int IntKind.i64 (DR.count (GWr.r
  g)))] ∧ True) ∧ (decide (DP.index (List.getD (GWr.l g) (Int.toNat (↑g_3 : Int)) dDP) < DR.index (GWr.r g)) = false → inK IntKind.i64 (DR.index (GWr.r g) + DR.count (GWr.r g)) ∧
  (decide (DP.index (List.getD (GWr.l g) (Int.toNat (↑g_3 : Int)) dDP) ≥ DR.index (GWr.r g) + DR.count (GWr.r g)) = true → (0 : Nat) + List.length (List.filter (fun (p : DP) =>
  !inRun (GWr.r g) p) (List.take g_3 (GWr.l g))) ≤ List.length (List.filter (fun (p : DP) => !inRun (GWr.r g) p) (List.take g_3 (GWr.l g))) ∧ ∃ (ys : List DP), [[SV.val (Value.int
  IntKind.i64 (DP.file (List.getD (GWr.l g) (Int.toNat (↑g_3 : Int)) dDP))), SV.val (Value.int IntKind.i64 (DP.index (List.getD (GWr.l g) (Int.toNat (↑g_3 : Int)) dDP))), SV.val
  (Value.int IntKind.i64 (DP.since (List.getD (GWr.l g) (Int.toNat (↑g_3 : Int)) dDP)))]] = List.map encDP ys ∧ (List.length (List.filter (fun (p : DP) => !inRun (GWr.r g) p)
  (List.take g_3 (GWr.l g))) + List.length ys) * (24 : Nat) ≤ (140737488355328 : Nat) ∧ inK IntKind.i64 ((↑g_3 : Int) + (1 : Int)) ∧ ∃ (g' : Nat), g' ≤ List.length (GWr.l g) ∧
  List.length (GWr.l g) - g' < List.length (GWr.l g) - g_3 ∧ ((↑g_3 : Int) + (1 : Int) = (↑g' : Int) ∧ (3 : Nat) = (3 : Nat) ∧ (0 : Nat) = (0 : Nat) ∧ List.length (List.filter (fun
  (p : DP) => !inRun (GWr.r g) p) (List.take g_3 (GWr.l g))) + List.length ys = List.length (List.filter (fun (p : DP) => !inRun (GWr.r g) p) (List.take g' (GWr.l g)))) ∧ (LB.arr DP
  dDP encDP (List.take (List.length (List.filter (fun (p : DP) => !inRun (GWr.r g) p) (List.take g_3 (GWr.l g)))) (List.drop (0 : Nat) (List.filter (fun (p : DP) => !inRun (GWr.r g)
  p) (List.take g_3 (GWr.l g)))) ++ ys) = LB.arr DP dDP encDP (List.filter (fun (p : DP) => !inRun (GWr.r g) p) (List.take g' (GWr.l g))) ∧ True) ∧ LB.cells [SV.val (Value.int
  IntKind.i64 (DR.file (GWr.r g))), SV.val (Value.int IntKind.i64 (DR.index (GWr.r g))), SV.val (Value.int IntKind.i64 (DR.count (GWr.r g)))] = LB.cells [SV.val (Value.int
  IntKind.i64 (DR.file (GWr.r g))), SV.val (Value.int IntKind.i64 (DR.index (GWr.r g))), SV.val (Value.int IntKind.i64 (DR.count (GWr.r g)))] ∧ True) ∧ (decide (DP.index (List.getD
  (GWr.l g) (Int.toNat (↑g_3 : Int)) dDP) ≥ DR.index (GWr.r g) + DR.count (GWr.r g)) = false → inK IntKind.i64 ((↑g_3 : Int) + (1 : Int)) ∧ ∃ (g' : Nat), g' ≤ List.length (GWr.l g) ∧
  List.length (GWr.l g) - g' < List.length (GWr.l g) - g_3 ∧ ((↑g_3 : Int) + (1 : Int) = (↑g' : Int) ∧ (3 : Nat) = (3 : Nat) ∧ (0 : Nat) = (0 : Nat) ∧ List.length (List.filter (fun
  (p : DP) => !inRun (GWr.r g) p) (List.take g_3 (GWr.l g))) = List.length (List.filter (fun (p : DP) => !inRun (GWr.r g) p) (List.take g' (GWr.l g)))) ∧ (LB.arr DP dDP encDP
  (List.filter (fun (p : DP) => !inRun (GWr.r g) p) (List.take g_3 (GWr.l g))) = LB.arr DP dDP encDP (List.filter (fun (p : DP) => !inRun (GWr.r g) p) (List.take g' (GWr.l g))) ∧
  True) ∧ LB.cells [SV.val (Value.int IntKind.i64 (DR.file (GWr.r g))), SV.val (Value.int IntKind.i64 (DR.index (GWr.r g))), SV.val (Value.int IntKind.i64 (DR.count (GWr.r g)))] =
  LB.cells [SV.val (Value.int IntKind.i64 (DR.file (GWr.r g))), SV.val (Value.int IntKind.i64 (DR.index (GWr.r g))), SV.val (Value.int IntKind.i64 (DR.count (GWr.r g)))] ∧ True)))) ∧
  (decide ((↑g_3 : Int) < (↑(List.length (GWr.l g)) : Int)) = false → ∃ (b : Unit), True ∧ (((SV.sl (392 : Nat) (3 : Nat) (0 : Nat) (List.length (List.filter (fun (p : DP) => !inRun
  (GWr.r g) p) (List.take g_3 (GWr.l g)))) = SV.sl (392 : Nat) (3 : Nat) (0 : Nat) (List.length (List.filter (fun (p : DP) => !inRun (GWr.r g) p) (List.take g_3 (GWr.l g)))) ∧ (0 :
  Nat) = (0 : Nat) ∧ (3 : Nat) = (3 : Nat) ∧ List.length (List.filter (fun (p : DP) => !inRun (GWr.r g) p) (List.take g_3 (GWr.l g))) = List.length (wrO g)) ∧ SV.val (Value.int
  IntKind.i64 (0 : Int)) = SV.val (Value.int IntKind.i64 (wrE g))) ∧ (∀ (x : DP), allFlat (encDP x) = true) ∧ (0 : Nat) + List.length (List.filter (fun (p : DP) => !inRun (GWr.r g)
  p) (List.take g_3 (GWr.l g))) ≤ List.length (List.filter (fun (p : DP) => !inRun (GWr.r g) p) (List.take g_3 (GWr.l g))) ∧ LB.arr DP dDP encDP (List.take (List.length (List.filter
  (fun (p : DP) => !inRun (GWr.r g) p) (List.take g_3 (GWr.l g)))) (List.drop (0 : Nat) (List.filter (fun (p : DP) => !inRun (GWr.r g) p) (List.take g_3 (GWr.l g))))) = LB.arr DP dDP
  encDP (wrO g)) ∧ (0 : Nat) = (0 : Nat) ∧ True)))))))))) := by kernel_rfl
theorem vWr : cWr.body (fun g => env tabS (lWr g)) Try.f25 := by
  rw [vWr_eq]
  rintro ⟨l, r⟩ hlen
  simp only at hlen
  dsimp only
  have nonE : ∀ x : Int, wrE ⟨l, r⟩ = x → x ≠ 0 → wrO ⟨l, r⟩ = [] := fun x h1 h2 => by rw [wrO, if_neg (by rw [h1]; exact h2)]
  refine ⟨l, rfl, trivial, hlen, fun _ _ => ⟨fun h => ?_, fun h => ?_⟩⟩
  · have h : chk l ≠ 0 := by simpa using h
    have he : wrE ⟨l, r⟩ = chk l := by rw [wrE, if_neg h]
    rw [nonE _ he h, he]
    exact ⟨(), trivial, ⟨⟨⟨rfl, rfl, rfl⟩, rfl⟩, fun _ => rfl, rfl, okDP⟩, rfl, trivial⟩
  have h : chk l = 0 := by simpa using h
  have bad2 : badRun r = true → wrE ⟨l, r⟩ = 2 := fun hb => by rw [wrE, if_pos h, if_pos hb]
  have out : ∀ x : Int, wrE ⟨l, r⟩ = x → x ≠ 0 → ∃ _ : Unit, True ∧ (((SV.val (Value.slice none 0 0) = SV.val (Value.slice none 0 0) ∧ 0 = 0 ∧ List.length (wrO ⟨l, r⟩) = 0) ∧ SV.val (Value.int IntKind.i64 x) = SV.val (Value.int IntKind.i64 (wrE ⟨l, r⟩))) ∧
      (∀ x : DP, allFlat (encDP x) = true) ∧ wrO ⟨l, r⟩ = [] ∧ ∀ x : DP, 3 = 3 ∧ allOne (encDP x) = true) ∧ 0 = 0 ∧ True := fun x he hx => by
    rw [nonE _ he hx, he]
    exact ⟨(), trivial, ⟨⟨⟨rfl, rfl, rfl⟩, rfl⟩, fun _ => rfl, rfl, okDP⟩, rfl, trivial⟩
  refine ⟨fun h1 => out 2 (bad2 (by simp only [badRun, h1, Bool.true_or, Bool.or_true])) (by decide), fun h1 => ⟨fun h2 => out 2 (bad2 (by simp only [badRun, h2, Bool.true_or, Bool.or_true])) (by decide), fun h2 =>
    ⟨fun h3 => out 2 (bad2 (by simp only [badRun, h3, Bool.true_or, Bool.or_true])) (by decide), fun h3 => ⟨fun h4 => out 2 (bad2 (by simp only [badRun, h4, Bool.true_or, Bool.or_true])) (by decide), fun h4 =>
    ⟨fun h5 => out 2 (bad2 (by simp only [badRun, h5, Bool.true_or, Bool.or_true])) (by decide), fun h5 => ?_⟩⟩⟩⟩⟩
  have e1 := of_decide_eq_false h1
  have e2 := of_decide_eq_false h2
  have e3 := of_decide_eq_false h3
  have e4 := of_decide_eq_false h4
  have e5 := of_decide_eq_false h5
  refine ⟨inI (by omega) (by omega), fun h6 => out 2 (bad2 (by simp only [badRun, h6, Bool.true_or, Bool.or_true])) (by decide), fun h6 => ?_⟩
  have e6 := of_decide_eq_false h6
  have hgood : ¬ badRun r = true := by
    simp only [badRun, h1, h2, h3, h4, h5, h6, Bool.or_self]; decide
  refine ⟨⟨0, ⟨by omega, fun j hj => absurd hj (by omega)⟩, rfl, trivial, rfl, trivial⟩, fun k hk => ⟨fun hlt => ?_, fun hge => ?_⟩⟩
  · obtain ⟨hk1, hk2⟩ := hk
    have hlt := of_decide_eq_true hlt
    refine ⟨inI (by omega) (by omega), ⟨l, r.file, r.index + k⟩, ⟨rfl, rfl, rfl⟩, trivial, hlen, fun _ _ => ⟨fun hh => out 6 ?_ (by decide), fun hh => ⟨inI (by omega) (by omega), k + 1, ⟨by omega, fun j hj => ?_⟩, by omega, by omega, trivial, rfl, trivial⟩⟩⟩
    · have hn : ¬ hasRun l r r.count.toNat := fun hr => by
        have := hr k (by omega)
        rw [show has l r.file (r.index + ↑k) = false by simpa using hh] at this
        cases this
      rw [wrE, if_pos h, if_neg hgood, if_neg hn]
    · by_cases hjk : j = k
      · subst hjk; simpa using hh
      · exact hk2 j (by omega)
  obtain ⟨hk1, hk2⟩ := hk
  have hge := of_decide_eq_false hge
  have hkc : k = r.count.toNat := by omega
  have hwE : wrE ⟨l, r⟩ = 0 := by rw [wrE, if_pos h, if_neg hgood, if_pos (by rw [← hkc]; exact hk2)]
  refine ⟨⟨0, Nat.zero_le _, ⟨rfl, rfl, rfl⟩, ⟨⟨rfl, okDP⟩, trivial⟩, rfl, trivial⟩, fun i hi => ⟨fun hlt => ?_, fun hge => ?_⟩⟩
  · have hlt : (i : Int) < l.length := of_decide_eq_true hlt
    have hi' : i < l.length := by omega
    have hn := filter_next (fun p => !inRun r p) l dDP hi'
    have hfl : ((List.take i l).filter (fun p => !inRun r p)).length ≤ i := by
      have := List.length_filter_le (fun p => !inRun r p) (List.take i l)
      rw [List.length_take] at this; omega
    rw [Int.toNat_natCast]
    have app : (!inRun r (l.getD i dDP)) = true → ((List.take i l).filter (fun p => !inRun r p)).length + [l.getD i dDP].length = ((List.take (i + 1) l).filter (fun p => !inRun r p)).length ∧
        LB.arr DP dDP encDP (List.take ((List.take i l).filter (fun p => !inRun r p)).length (List.drop 0 ((List.take i l).filter (fun p => !inRun r p))) ++ [l.getD i dDP]) = LB.arr DP dDP encDP ((List.take (i + 1) l).filter (fun p => !inRun r p)) := fun hq => by
      rw [hn, if_pos hq, List.length_append, List.drop_zero, List.take_length]
      exact ⟨rfl, rfl⟩
    have skip : (!inRun r (l.getD i dDP)) = false → (List.take (i + 1) l).filter (fun p => !inRun r p) = (List.take i l).filter (fun p => !inRun r p) := fun hq => by
      rw [hn, if_neg (by rw [hq]; decide), List.append_nil]
    have hsz : (((List.take i l).filter (fun p => !inRun r p)).length + [l.getD i dDP].length) * 24 ≤ 140737488355328 := by simp only [List.length_cons, List.length_nil]; omega
    refine ⟨⟨by omega, hlt⟩, hi', fun c1 => ?_, fun c1 => ⟨fun c2 => ?_, fun c2 => ⟨inI (by omega) (by omega), fun c3 => ?_, fun c3 => ?_⟩⟩⟩
    · have hq : (!inRun r (l.getD i dDP)) = true := by
        have c1 : (l.getD i dDP).file ≠ r.file := by simpa only [bne_iff_ne, ne_eq] using c1
        unfold inRun; rw [decide_eq_false c1]; rfl
      exact ⟨by omega, [l.getD i dDP], rfl, hsz, inI (by omega) (by omega), i + 1, hi', by omega, ⟨by omega, rfl, rfl, (app hq).1⟩, ⟨(app hq).2, trivial⟩, rfl, trivial⟩
    · have hq : (!inRun r (l.getD i dDP)) = true := by
        have c2 := of_decide_eq_true c2
        unfold inRun; rw [decide_eq_false (p := r.index ≤ (l.getD i dDP).index) (by omega), Bool.and_false]; rfl
      exact ⟨by omega, [l.getD i dDP], rfl, hsz, inI (by omega) (by omega), i + 1, hi', by omega, ⟨by omega, rfl, rfl, (app hq).1⟩, ⟨(app hq).2, trivial⟩, rfl, trivial⟩
    · have hq : (!inRun r (l.getD i dDP)) = true := by
        have c3 := of_decide_eq_true c3
        unfold inRun; rw [decide_eq_false (p := (l.getD i dDP).index < r.index + r.count) (by omega), Bool.and_false]; rfl
      exact ⟨by omega, [l.getD i dDP], rfl, hsz, inI (by omega) (by omega), i + 1, hi', by omega, ⟨by omega, rfl, rfl, (app hq).1⟩, ⟨(app hq).2, trivial⟩, rfl, trivial⟩
    · have hq : (!inRun r (l.getD i dDP)) = false := by
        have c1 : (l.getD i dDP).file = r.file := by simpa only [bne_eq_false_iff_eq] using c1
        have c2 := of_decide_eq_false c2
        have c3 := of_decide_eq_false c3
        unfold inRun; rw [decide_eq_true c1, decide_eq_true (p := r.index ≤ (l.getD i dDP).index) (by omega), decide_eq_true (p := (l.getD i dDP).index < r.index + r.count) (by omega)]; rfl
      have hs := skip hq
      exact ⟨inI (by omega) (by omega), i + 1, hi', by omega, ⟨by omega, rfl, rfl, by rw [hs]⟩, ⟨by rw [hs], trivial⟩, rfl, trivial⟩
  · have hge : ¬ (i : Int) < l.length := of_decide_eq_false hge
    have he : i = l.length := by omega
    have ho : wrO ⟨l, r⟩ = (List.take i l).filter (fun p => !inRun r p) := by rw [wrO, if_pos hwE, he, List.take_length]
    rw [ho, hwE]
    refine ⟨(), trivial, ⟨⟨⟨rfl, rfl, rfl, rfl⟩, rfl⟩, fun _ => rfl, by omega, ?_⟩, rfl, trivial⟩
    rw [List.drop_zero, List.take_length]
end Go.Wb
