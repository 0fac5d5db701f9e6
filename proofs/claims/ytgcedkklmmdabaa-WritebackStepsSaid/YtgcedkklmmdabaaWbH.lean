/- A PART OF THE PROOF. NO CONDITION. -/
import Derived.Test.YtgcedkklmmdabaaWbH0
import Derived.Test.YtgcedkklmmdabaaSxAD
noncomputable section
set_option linter.unusedVariables false
set_option linter.unusedSimpArgs false
namespace Go.Wb
open Go.Proofs Go.SX
set_option maxRecDepth 100000

/-! writeback.Check -/
def encsM (t : Nat) : Option Enc := match Nat.beq t 4 with | true => some ⟨Bool, false, encB⟩ | false => encs t
def mk (t : Nat) : Option (Bool × Nat) := match Nat.beq t 55 with | true => some (true, 2) | false => none
theorem mk_ok : ∀ k isA n, mk k = some (isA, n) → KeyOk P k isA n := fun k isA n h => by
  unfold mk at h
  split at h
  · rename_i hb
    cases h
    rw [Nat.eq_of_beq_eq_true hb]; exact key55
  · cases h
abbrev envM (tab : List (Nat × Con)) (loops : Loops) : Env := envOfM P encsM mk tab loops
def putP (es : List (List Int × Bool)) (p : DP) : List (List Int × Bool) := putE [p.file, p.index] true es
def seenE (l : List DP) : List (List Int × Bool) := l.foldl putP []
def cWCheck : Con := pureCon (List DP) Unit (fun l => [roP l]) (fun l => l.length ≤ 1000000000) (fun _ _ => True) (fun l _ => I (chk l))
def lWCheck (l : List DP) : Loops := loop1
  0 { γ := Nat, slots := [9], vals := fun _ i => [I i], blks := fun _ i => [(16, .mp true 2 Bool false encB (seenE (l.take i)))], inv := fun i => i ≤ l.length ∧ (l.take i).all okP = true, μ := fun i => l.length - i }
theorem vWCheck_eq : (cWCheck.body (fun g => envM [(33, cPage), (34, cAt)] (lWCheck g)) Try.f14) = (∀ (g : List DP), List.length g ≤ (1000000000 : Nat) → (∀ (x : Enc.α (Enc.mk (Bool) (false) (encB))), (1 : Nat) = (1 : Nat) ∧ allOne (Enc.enc (Enc.mk (Bool) (false) (encB)) x) =
  true) ∧ (∃ (g_1 : Nat), (g_1 ≤ List.length g ∧ List.all (List.take g_1 g) okP = true) ∧ (0 : Int) = (↑g_1 : Int) ∧ (LB.mp true (2 : Nat) (Enc.α (Enc.mk (Bool) (false) (encB)))
  (Enc.d (Enc.mk (Bool) (false) (encB))) (Enc.enc (Enc.mk (Bool) (false) (encB))) [] = LB.mp true (2 : Nat) Bool false encB (seenE (List.take g_1 g)) ∧ True) ∧ True) ∧ ∀ (g_1 : Nat),
  g_1 ≤ List.length g ∧ List.all (List.take g_1 g) okP = true → (decide ((↑g_1 : Int) < (↑(List.length g) : Int)) = true → ((0 : Int) ≤ (↑g_1 : Int) ∧ (↑g_1 : Int) < (↑(List.length
  g) : Int)) ∧ Int.toNat (↑g_1 : Int) < List.length g ∧ ∃ (g_2 : Int × Int), (SV.val (Value.int IntKind.i64 (DP.file (List.getD g (Int.toNat (↑g_1 : Int)) dDP))) = SV.val (Value.int
  IntKind.i64 (Prod.fst g_2)) ∧ SV.val (Value.int IntKind.i64 (DP.index (List.getD g (Int.toNat (↑g_1 : Int)) dDP))) = SV.val (Value.int IntKind.i64 (Prod.snd g_2))) ∧ True ∧ True ∧
  ∀ (b : Unit), True → ((!isPage (Prod.fst g_2) (Prod.snd g_2)) = true → ∃ (b : Unit), True ∧ SV.val (Value.int IntKind.i64 (2 : Int)) = SV.val (Value.int IntKind.i64 (chk g)) ∧ (0 :
  Nat) = (0 : Nat) ∧ True) ∧ ((!isPage (Prod.fst g_2) (Prod.snd g_2)) = false → (decide (DP.since (List.getD g (Int.toNat (↑g_1 : Int)) dDP) < (0 : Int)) = true → ∃ (b : Unit), True
  ∧ SV.val (Value.int IntKind.i64 (2 : Int)) = SV.val (Value.int IntKind.i64 (chk g)) ∧ (0 : Nat) = (0 : Nat) ∧ True) ∧ (decide (DP.since (List.getD g (Int.toNat (↑g_1 : Int)) dDP) <
  (0 : Int)) = false → ∃ (g_3 : DP), (SV.val (Value.int IntKind.i64 (DP.file (List.getD g (Int.toNat (↑g_1 : Int)) dDP))) = SV.val (Value.int IntKind.i64 (DP.file g_3)) ∧ SV.val
  (Value.int IntKind.i64 (DP.index (List.getD g (Int.toNat (↑g_1 : Int)) dDP))) = SV.val (Value.int IntKind.i64 (DP.index g_3)) ∧ SV.val (Value.int IntKind.i64 (DP.since (List.getD g
  (Int.toNat (↑g_1 : Int)) dDP))) = SV.val (Value.int IntKind.i64 (DP.since g_3)) ∧ True) ∧ True ∧ True ∧ ∀ (b : Unit), True → (inK IntKind.i64 (DP.file g_3) ∧ lo IntKind.i64 ≤
  DP.index g_3 ∧ DP.index g_3 ≤ hi IntKind.i64) ∧ ∃ (y : Bool), [SV.val (Value.bool y)] = [SV.val (Value.bool true)] ∧ inK IntKind.i64 ((↑g_1 : Int) + (1 : Int)) ∧ ∃ (g' : Nat), (g'
  ≤ List.length g ∧ List.all (List.take g' g) okP = true) ∧ List.length g - g' < List.length g - g_1 ∧ (↑g_1 : Int) + (1 : Int) = (↑g' : Int) ∧ (LB.mp true (2 : Nat) Bool false encB
  (putE [DP.file g_3, DP.index g_3] y (seenE (List.take g_1 g))) = LB.mp true (2 : Nat) Bool false encB (seenE (List.take g' g)) ∧ True) ∧ True))) ∧ (decide ((↑g_1 : Int) <
  (↑(List.length g) : Int)) = false → (((↑(List.length (seenE (List.take g_1 g))) : Int) != (↑(List.length g) : Int)) = true → ∃ (b : Unit), True ∧ SV.val (Value.int IntKind.i64 (7 :
  Int)) = SV.val (Value.int IntKind.i64 (chk g)) ∧ (0 : Nat) = (0 : Nat) ∧ True) ∧ (((↑(List.length (seenE (List.take g_1 g))) : Int) != (↑(List.length g) : Int)) = false → ∃ (b :
  Unit), True ∧ SV.val (Value.int IntKind.i64 (0 : Int)) = SV.val (Value.int IntKind.i64 (chk g)) ∧ (0 : Nat) = (0 : Nat) ∧ True))) := by kernel_rfl

theorem putE_len {α : Type} (k : List Int) (y : α) : ∀ es : List (List Int × α), (putE k y es).length = if hasE k es = true then es.length else es.length + 1
  | [] => rfl
  | (k', x) :: r => by
    unfold putE hasE
    by_cases h : k' = k
    · simp [h]
    · simp only [h, if_false, List.length_cons, putE_len k y r]
      split <;> rfl
theorem hasE_put {α : Type} (k k2 : List Int) (y : α) : ∀ es : List (List Int × α), hasE k2 (putE k y es) = true ↔ k = k2 ∨ hasE k2 es = true
  | [] => by simp [putE, hasE]
  | (k', x) :: r => by
    unfold putE
    by_cases h : k' = k
    · subst h
      simp only [if_true, hasE]
      by_cases h2 : k' = k2 <;> simp [h2]
    · simp only [h, if_false, hasE]
      by_cases h2 : k' = k2
      · simp [h2]
      · simp only [h2, if_false]; exact hasE_put k k2 y r
theorem seenE_next (l : List DP) (p : DP) : seenE (l ++ [p]) = putE [p.file, p.index] true (seenE l) := by simp [seenE, putP]
theorem seenE_rev (r : List DP) : (∀ f i : Int, hasE [f, i] (seenE r.reverse) = true ↔ (f, i) ∈ r.map plc) ∧ (seenE r.reverse).length ≤ r.length ∧ ((seenE r.reverse).length = r.length ↔ (r.map plc).Nodup) := by
  induction r with
  | nil => exact ⟨fun f i => by simp [seenE, hasE], Nat.le_refl _, by simp [seenE]⟩
  | cons p r ih =>
    obtain ⟨h1, h2, h3⟩ := ih
    rw [List.reverse_cons, seenE_next]
    refine ⟨fun f i => ?_, ?_, ?_⟩
    · rw [hasE_put, h1, List.map_cons, List.mem_cons]
      refine or_congr ?_ Iff.rfl
      constructor
      · intro h; cases h; rfl
      · intro h; cases h; rfl
    · rw [putE_len]; split <;> simp <;> omega
    · rw [putE_len, List.map_cons, List.nodup_cons]
      by_cases h : hasE [p.file, p.index] (seenE r.reverse) = true
      · rw [if_pos h]
        have hm := (h1 _ _).1 h
        constructor
        · intro he; simp only [List.length_cons] at he; omega
        · intro he; exact absurd hm he.1
      · rw [if_neg h]
        have hm : plc p ∉ r.map plc := fun hm => h ((h1 _ _).2 hm)
        rw [List.length_cons]
        constructor
        · intro he; exact ⟨hm, h3.1 (by omega)⟩
        · intro he; rw [h3.2 he.2]
theorem seenE_len (l : List DP) : (seenE l).length = l.length ↔ (l.map plc).Nodup := by
  have := (seenE_rev l.reverse).2.2
  rw [List.reverse_reverse, List.length_reverse, List.map_reverse] at this
  exact this.trans (List.reverse_perm _).nodup_iff
theorem isPage_iff {f i : Int} : isPage f i = true ↔ 0 ≤ f ∧ f < 4 ∧ 0 ≤ i ∧ i < 16 := by
  simp [isPage, and_assoc]
theorem vWCheck : cWCheck.body (fun g => envM [(33, cPage), (34, cAt)] (lWCheck g)) Try.f14 := by
  rw [vWCheck_eq]
  intro l hlen
  refine ⟨fun _ => ⟨rfl, rfl⟩, ⟨0, ⟨Nat.zero_le _, rfl⟩, rfl, ⟨rfl, trivial⟩, trivial⟩, fun i ⟨hi, hall⟩ => ⟨fun h => ?_, fun h => ?_⟩⟩
  · have h : (i : Int) < l.length := of_decide_eq_true h
    have hi' : i < l.length := by omega
    rw [Int.toNat_natCast]
    have two : okP (l.getD i dDP) = false → ∃ _ : Unit, True ∧ SV.val (Value.int IntKind.i64 2) = SV.val (Value.int IntKind.i64 (chk l)) ∧ 0 = 0 ∧ True := fun hb => ⟨(), trivial, by rw [chk_bad hi' hb], rfl, trivial⟩
    refine ⟨⟨by omega, h⟩, hi', ((l.getD i dDP).file, (l.getD i dDP).index), ⟨rfl, rfl⟩, trivial, trivial, fun _ _ => ⟨fun h1 => two ?_, fun h1 => ⟨fun h2 => two ?_, fun h2 => ⟨l.getD i dDP, ⟨rfl, rfl, rfl, trivial⟩, trivial, trivial, fun _ _ => ?_⟩⟩⟩⟩
    · cases ho : okP (l.getD i dDP) with
      | false => rfl
      | true =>
        have := okP_iff.1 ho
        rw [Bool.not_eq_true'] at h1
        rw [isPage_iff.2 ⟨this.1, this.2.1, this.2.2.1, this.2.2.2.1⟩] at h1
        cases h1
    · cases ho : okP (l.getD i dDP) with
      | false => rfl
      | true =>
        have := okP_iff.1 ho
        have h2 := of_decide_eq_true h2
        omega
    · have h1 : isPage (l.getD i dDP).file (l.getD i dDP).index = true := by simpa using h1
      have h1 := isPage_iff.1 h1
      have h2 := of_decide_eq_false h2
      have hok : okP (l.getD i dDP) = true := okP_iff.2 ⟨h1.1, h1.2.1, h1.2.2.1, h1.2.2.2, by omega⟩
      refine ⟨⟨inI (by omega) (by omega), inI (by omega) (by omega)⟩, true, rfl, inI (by omega) (by omega), i + 1, ⟨hi', all_next hi' hall hok⟩, by omega, by simp, ⟨?_, trivial⟩, trivial⟩
      rw [take_next l dDP hi', seenE_next]
  · have h : ¬ (i : Int) < l.length := of_decide_eq_false h
    have he : i = l.length := by omega
    subst he
    rw [List.take_length] at hall
    simp only [List.take_length]
    have hs := seenE_len l
    refine ⟨fun h1 => ⟨(), trivial, ?_, trivial, trivial⟩, fun h1 => ⟨(), trivial, ?_, trivial, trivial⟩⟩
    · have h1 : ¬ ((seenE l).length : Int) = l.length := by simpa using h1
      rw [chk, if_pos hall, if_neg (fun hn => h1 (by rw [hs.2 hn]))]
    · have h1 : ((seenE l).length : Int) = l.length := by simpa using h1
      rw [chk, if_pos hall, if_pos (hs.1 (by omega))]
theorem sWCheck : SpecOk P 14 cWCheck.spec := spec_ofM cWCheck mk_ok (tab_cons sPage (tab_cons sAt (tab_nil P))) mixed (fn := Try.f14) (by kernel_rfl) (by kernel_rfl) (by kernel_rfl) (Nat.zero_le _) (noIns fun _ => rfl) vWCheck
end Go.Wb
