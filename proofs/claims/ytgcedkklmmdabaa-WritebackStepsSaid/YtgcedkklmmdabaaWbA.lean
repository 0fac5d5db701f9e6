/- A PART OF THE PROOF. NO CONDITION. -/
import Derived.Test.YtgcedkklmmdabaaSxAD
import Derived.Test.YtgcedkklmmdabaaProg
noncomputable section
set_option linter.unusedVariables false
set_option linter.unusedSimpArgs false
namespace Go.Wb
open Go.Proofs Go.SX

structure DP where
  file : Int
  index : Int
  since : Int
structure DR where
  file : Int
  index : Int
  count : Int
structure PL where
  file : Int
  index : Int
abbrev I (x : Int) : SV := .val (.int .i64 x)
abbrev Bo (b : Bool) : SV := .val (.bool b)
def encDP (p : DP) : List SV := [I p.file, I p.index, I p.since]
def encDR (p : DR) : List SV := [I p.file, I p.index, I p.count]
def encPL (p : PL) : List SV := [I p.file, I p.index]
def encI (x : Int) : List SV := [I x]
def dDP : DP := ⟨0, 0, 0⟩
def dDR : DR := ⟨0, 0, 0⟩
def dPL : PL := ⟨0, 0⟩
abbrev roP (l : List DP) : SV := .ro DP dDP encDP l
abbrev roR (l : List DR) : SV := .ro DR dDR encDR l
theorem okDP : EncOk dDP encDP := fun _ => ⟨rfl, rfl⟩
theorem okDR : EncOk dDR encDR := fun _ => ⟨rfl, rfl⟩

def encs (t : Nat) : Option Enc :=
  match Nat.beq t 30, Nat.beq t 38, Nat.beq t 55, Nat.beq t 3 with
  | true, _, _, _ => some ⟨DP, dDP, encDP⟩
  | _, true, _, _ => some ⟨DR, dDR, encDR⟩
  | _, _, true, _ => some ⟨PL, dPL, encPL⟩
  | _, _, _, true => some ⟨Int, 0, encI⟩
  | _, _, _, _ => none

abbrev P := Try.prog
theorem mixed : P.follows .mixedOrders = true := by kernel_rfl
abbrev Loops := Nat → St → Option LoopAnn
def noLoops {γ : Type} : γ → Loops := fun _ _ _ => none
def loop1 (b : Nat) (an : LoopAnn) : Loops := fun i _ => match Nat.beq i b with | true => some an | false => none
def loop2 (b : Nat) (an : LoopAnn) (b' : Nat) (an' : LoopAnn) : Loops := fun i _ => match Nat.beq i b, Nat.beq i b' with | true, _ => some an | _, true => some an' | _, _ => none
abbrev env (tab : List (Nat × Con)) (loops : Loops) : Env := envOf P encs tab loops

set_option maxRecDepth 100000

/-! Few -/
def cFew : Con := pureCon (List DP) Unit (fun l => [roP l]) (fun _ => True) (fun _ _ => True) (fun l _ => Bo (decide ((l.length : Int) ≤ 100)))
theorem vFew_eq : (cFew.body (fun g => env [] (noLoops g)) Try.f10) = (∀ (g : List DP), True → ∃ (b : Unit), True ∧ SV.val (Value.bool (decide ((↑(List.length g) : Int) ≤ (100 : Int)))) = SV.val (Value.bool (decide ((↑(List.length g) : Int) ≤ (100 :
  Int)))) ∧ (0 : Nat) = (0 : Nat) ∧ True) := by kernel_rfl

theorem vFew : cFew.body (fun g => env [] (noLoops g)) Try.f10 := by
  rw [vFew_eq]
  exact fun l _ => ⟨(), trivial, rfl, rfl, trivial⟩

/-! before -/
def before (a b : DP) : Bool := if a.since ≠ b.since then decide (a.since < b.since) else if a.file ≠ b.file then decide (a.file < b.file) else decide (a.index < b.index)
def cBefore : Con := pureCon (DP × DP) Unit (fun g => [.agg (encDP g.1), .agg (encDP g.2)]) (fun _ => True) (fun _ _ => True) (fun g _ => Bo (before g.1 g.2))
theorem vBefore_eq : (cBefore.body (fun g => env [] (noLoops g)) Try.f32) = (∀ (g : DP × DP), True → ((DP.since (Prod.fst g) != DP.since (Prod.snd g)) = true → ∃ (b : Unit), True ∧ SV.val (Value.bool (decide (DP.since (Prod.fst g) < DP.since (Prod.snd g))))
  = SV.val (Value.bool (before (Prod.fst g) (Prod.snd g))) ∧ (0 : Nat) = (0 : Nat) ∧ True) ∧ ((DP.since (Prod.fst g) != DP.since (Prod.snd g)) = false → ((DP.file (Prod.fst g) !=
  DP.file (Prod.snd g)) = true → ∃ (b : Unit), True ∧ SV.val (Value.bool (decide (DP.file (Prod.fst g) < DP.file (Prod.snd g)))) = SV.val (Value.bool (before (Prod.fst g) (Prod.snd
  g))) ∧ (0 : Nat) = (0 : Nat) ∧ True) ∧ ((DP.file (Prod.fst g) != DP.file (Prod.snd g)) = false → ∃ (b : Unit), True ∧ SV.val (Value.bool (decide (DP.index (Prod.fst g) < DP.index
  (Prod.snd g)))) = SV.val (Value.bool (before (Prod.fst g) (Prod.snd g))) ∧ (0 : Nat) = (0 : Nat) ∧ True))) := by kernel_rfl

theorem vBefore : cBefore.body (fun g => env [] (noLoops g)) Try.f32 := by
  rw [vBefore_eq]
  rintro ⟨a, b⟩ _
  simp only [bne_iff_ne, ne_eq, bne_eq_false_iff_eq]
  refine ⟨fun h => ⟨(), trivial, ?_, trivial, trivial⟩, fun h => ⟨fun h2 => ⟨(), trivial, ?_, trivial, trivial⟩, fun h2 => ⟨(), trivial, ?_, trivial, trivial⟩⟩⟩ <;> simp [before, *]

theorem take_next {α : Type} (l : List α) (d : α) {i : Nat} (h : i < l.length) : l.take (i + 1) = l.take i ++ [l.getD i d] := by
  rw [List.take_add_one, List.getD_eq_getElem?_getD]
  simp [h]
theorem inI {x : Int} (h1 : -9223372036854775808 ≤ x) (h2 : x ≤ 9223372036854775807) : inK .i64 x := ⟨h1, h2⟩

/-! Has -/
structure GHas where
  l : List DP
  f : Int
  i : Int
def isAt (f i : Int) (p : DP) : Bool := decide (p.file = f) && decide (p.index = i)
def has (l : List DP) (f i : Int) : Bool := l.any (isAt f i)
def cHas : Con := pureCon GHas Unit (fun g => [roP g.l, I g.f, I g.i]) (fun g => g.l.length ≤ 1000000000) (fun _ _ => True) (fun g _ => Bo (has g.l g.f g.i))
def lHas (g : GHas) : Loops := loop1 0 { γ := Nat, slots := [11], vals := fun _ i => [I i], inv := fun i => i ≤ g.l.length ∧ has (g.l.take i) g.f g.i = false, μ := fun i => g.l.length - i }
theorem vHas_eq : (cHas.body (fun g => env [] (lHas g)) Try.f45) = (∀ (g : GHas), List.length (GHas.l g) ≤ (1000000000 : Nat) → (∃ (g_1 : Nat), (g_1 ≤ List.length (GHas.l g) ∧ has (List.take g_1 (GHas.l g)) (GHas.f g) (GHas.i g) = false) ∧ (0 :
  Int) = (↑g_1 : Int) ∧ True ∧ True) ∧ ∀ (g_1 : Nat), g_1 ≤ List.length (GHas.l g) ∧ has (List.take g_1 (GHas.l g)) (GHas.f g) (GHas.i g) = false → (decide ((↑g_1 : Int) <
  (↑(List.length (GHas.l g)) : Int)) = true → ((0 : Int) ≤ (↑g_1 : Int) ∧ (↑g_1 : Int) < (↑(List.length (GHas.l g)) : Int)) ∧ Int.toNat (↑g_1 : Int) < List.length (GHas.l g) ∧
  ((DP.file (List.getD (GHas.l g) (Int.toNat (↑g_1 : Int)) dDP) == GHas.f g) = true → ((DP.index (List.getD (GHas.l g) (Int.toNat (↑g_1 : Int)) dDP) == GHas.i g) = true → ∃ (b :
  Unit), True ∧ has (GHas.l g) (GHas.f g) (GHas.i g) = true ∧ (0 : Nat) = (0 : Nat) ∧ True) ∧ ((DP.index (List.getD (GHas.l g) (Int.toNat (↑g_1 : Int)) dDP) == GHas.i g) = false →
  inK IntKind.i64 ((↑g_1 : Int) + (1 : Int)) ∧ ∃ (g' : Nat), (g' ≤ List.length (GHas.l g) ∧ has (List.take g' (GHas.l g)) (GHas.f g) (GHas.i g) = false) ∧ List.length (GHas.l g) - g'
  < List.length (GHas.l g) - g_1 ∧ (↑g_1 : Int) + (1 : Int) = (↑g' : Int) ∧ True ∧ True)) ∧ ((DP.file (List.getD (GHas.l g) (Int.toNat (↑g_1 : Int)) dDP) == GHas.f g) = false → inK
  IntKind.i64 ((↑g_1 : Int) + (1 : Int)) ∧ ∃ (g' : Nat), (g' ≤ List.length (GHas.l g) ∧ has (List.take g' (GHas.l g)) (GHas.f g) (GHas.i g) = false) ∧ List.length (GHas.l g) - g' <
  List.length (GHas.l g) - g_1 ∧ (↑g_1 : Int) + (1 : Int) = (↑g' : Int) ∧ True ∧ True)) ∧ (decide ((↑g_1 : Int) < (↑(List.length (GHas.l g)) : Int)) = false → ∃ (b : Unit), True ∧
  has (GHas.l g) (GHas.f g) (GHas.i g) = false ∧ (0 : Nat) = (0 : Nat) ∧ True)) := by kernel_rfl

theorem has_next {l : List DP} {f i : Int} {j : Nat} (h : j < l.length) : has (l.take (j + 1)) f i = (has (l.take j) f i || isAt f i (l.getD j dDP)) := by
  rw [take_next l dDP h]; simp [has]
theorem has_take {l : List DP} {f i : Int} {j : Nat} (h : has (l.take j) f i = true) : has l f i = true := by
  unfold has at *
  rw [List.any_eq_true] at *
  obtain ⟨p, hp, hh⟩ := h
  exact ⟨p, List.mem_of_mem_take hp, hh⟩
theorem vHas : cHas.body (fun g => env [] (lHas g)) Try.f45 := by
  rw [vHas_eq]
  rintro ⟨l, f, x⟩ hlen
  simp only at hlen
  refine ⟨⟨0, ⟨Nat.zero_le _, by simp [has]⟩, rfl, trivial, trivial⟩, fun i hinv => ?_⟩
  change Nat at i
  obtain ⟨hi, hno⟩ := hinv
  simp only at hi hno
  simp only [decide_eq_true_eq, decide_eq_false_iff_not, Int.toNat_natCast, beq_iff_eq, beq_eq_false_iff_ne]
  refine ⟨fun h => ?_, fun h => ⟨(), trivial, ?_, trivial, trivial⟩⟩
  · have hi' : i < l.length := by omega
    have hn := has_next (f := f) (i := x) hi'
    rw [hno, Bool.false_or] at hn
    have next : isAt f x (l.getD i dDP) = false → ∃ g' : Nat, (g' ≤ l.length ∧ has (l.take g') f x = false) ∧ l.length - g' < l.length - i ∧ (i : Int) + 1 = g' ∧ True ∧ True := fun hf =>
      ⟨i + 1, ⟨hi', by rw [hn]; exact hf⟩, by omega, by simp, trivial, trivial⟩
    refine ⟨⟨by omega, h⟩, hi', fun h1 => ⟨fun h2 => ⟨(), trivial, ?_, trivial, trivial⟩, fun h2 => ⟨inI (by omega) (by omega), next ?_⟩⟩, fun h1 => ⟨inI (by omega) (by omega), next ?_⟩⟩
    · exact has_take (j := i + 1) (by rw [hn]; unfold isAt; rw [h1, h2]; simp)
    · simp only [isAt, h2, decide_false, Bool.and_false]
    · simp only [isAt, h1, decide_false, Bool.false_and]
  · have : i = l.length := by omega
    rw [this, List.take_length] at hno
    exact hno

/-! Check -/
def okP (p : DP) : Bool := decide (0 ≤ p.file) && decide (p.file < 4) && decide (0 ≤ p.index) && decide (p.index < 16) && decide (0 ≤ p.since)
abbrev plc (p : DP) : Int × Int := (p.file, p.index)
def chk (l : List DP) : Int := if l.all okP = true then (if (l.map plc).Nodup then 0 else 7) else 2
def encB (b : Bool) : List SV := [Bo b]
def cell (p : DP) : Nat := p.file.toNat * 16 + p.index.toNat
def marks (l : List DP) : List Bool := (List.range 64).map fun k => l.any fun p => cell p == k
def cCheck : Con := pureCon (List DP) Unit (fun l => [roP l]) (fun l => l.length ≤ 1000000000) (fun _ _ => True) (fun l _ => I (chk l))
def lCheck (l : List DP) : Loops := loop2
  0 { γ := Nat, slots := [10], vals := fun _ i => [I i], inv := fun i => i ≤ l.length ∧ (l.take i).all okP = true, μ := fun i => l.length - i }
  2 { γ := Nat, slots := [40], vals := fun _ i => [I i], blks := fun _ i => [(48, .arr Bool false encB (marks (l.take i)))], inv := fun i => i ≤ l.length ∧ l.all okP = true ∧ ((l.take i).map plc).Nodup, μ := fun i => l.length - i }
theorem vCheck_eq : (cCheck.body (fun g => env [] (lCheck g)) Try.f15) = (∀ (g : List DP), List.length g ≤ (1000000000 : Nat) → (∃ (g_1 : Nat), (g_1 ≤ List.length g ∧ List.all (List.take g_1 g) okP = true) ∧ (0 : Int) = (↑g_1 : Int) ∧ True ∧ True) ∧ ∀
  (g_1 : Nat), g_1 ≤ List.length g ∧ List.all (List.take g_1 g) okP = true → (decide ((↑g_1 : Int) < (↑(List.length g) : Int)) = true → ((0 : Int) ≤ (↑g_1 : Int) ∧ (↑g_1 : Int) <
  (↑(List.length g) : Int)) ∧ Int.toNat (↑g_1 : Int) < List.length g ∧ (decide (DP.file (List.getD g (Int.toNat (↑g_1 : Int)) dDP) < (0 : Int)) = true → ∃ (b : Unit), True ∧ SV.val
  (Value.int IntKind.i64 (2 : Int)) = SV.val (Value.int IntKind.i64 (chk g)) ∧ (0 : Nat) = (0 : Nat) ∧ True) ∧ (decide (DP.file (List.getD g (Int.toNat (↑g_1 : Int)) dDP) < (0 :
  Int)) = false → (decide (DP.file (List.getD g (Int.toNat (↑g_1 : Int)) dDP) ≥ (4 : Int)) = true → ∃ (b : Unit), True ∧ SV.val (Value.int IntKind.i64 (2 : Int)) = SV.val (Value.int
  IntKind.i64 (chk g)) ∧ (0 : Nat) = (0 : Nat) ∧ True) ∧ (decide (DP.file (List.getD g (Int.toNat (↑g_1 : Int)) dDP) ≥ (4 : Int)) = false → (decide (DP.index (List.getD g (Int.toNat
  (↑g_1 : Int)) dDP) < (0 : Int)) = true → ∃ (b : Unit), True ∧ SV.val (Value.int IntKind.i64 (2 : Int)) = SV.val (Value.int IntKind.i64 (chk g)) ∧ (0 : Nat) = (0 : Nat) ∧ True) ∧
  (decide (DP.index (List.getD g (Int.toNat (↑g_1 : Int)) dDP) < (0 : Int)) = false → (decide (DP.index (List.getD g (Int.toNat (↑g_1 : Int)) dDP) ≥ (16 : Int)) = true → ∃ (b :
  Unit), True ∧ SV.val (Value.int IntKind.i64 (2 : Int)) = SV.val (Value.int IntKind.i64 (chk g)) ∧ (0 : Nat) = (0 : Nat) ∧ True) ∧ (decide (DP.index (List.getD g (Int.toNat (↑g_1 :
  Int)) dDP) ≥ (16 : Int)) = false → (decide (DP.since (List.getD g (Int.toNat (↑g_1 : Int)) dDP) < (0 : Int)) = true → ∃ (b : Unit), True ∧ SV.val (Value.int IntKind.i64 (2 : Int))
  = SV.val (Value.int IntKind.i64 (chk g)) ∧ (0 : Nat) = (0 : Nat) ∧ True) ∧ (decide (DP.since (List.getD g (Int.toNat (↑g_1 : Int)) dDP) < (0 : Int)) = false → inK IntKind.i64
  ((↑g_1 : Int) + (1 : Int)) ∧ ∃ (g' : Nat), (g' ≤ List.length g ∧ List.all (List.take g' g) okP = true) ∧ List.length g - g' < List.length g - g_1 ∧ (↑g_1 : Int) + (1 : Int) = (↑g'
  : Int) ∧ True ∧ True)))))) ∧ (decide ((↑g_1 : Int) < (↑(List.length g) : Int)) = false → (∃ (g_2 : Nat), (g_2 ≤ List.length g ∧ List.all g okP = true ∧ List.Nodup (List.map plc
  (List.take g_2 g))) ∧ (0 : Int) = (↑g_2 : Int) ∧ (([SV.val (Value.bool false), SV.val (Value.bool false), SV.val (Value.bool false), SV.val (Value.bool false), SV.val (Value.bool
  false), SV.val (Value.bool false), SV.val (Value.bool false), SV.val (Value.bool false), SV.val (Value.bool false), SV.val (Value.bool false), SV.val (Value.bool false), SV.val
  (Value.bool false), SV.val (Value.bool false), SV.val (Value.bool false), SV.val (Value.bool false), SV.val (Value.bool false), SV.val (Value.bool false), SV.val (Value.bool
  false), SV.val (Value.bool false), SV.val (Value.bool false), SV.val (Value.bool false), SV.val (Value.bool false), SV.val (Value.bool false), SV.val (Value.bool false), SV.val
  (Value.bool false), SV.val (Value.bool false), SV.val (Value.bool false), SV.val (Value.bool false), SV.val (Value.bool false), SV.val (Value.bool false), SV.val (Value.bool
  false), SV.val (Value.bool false), SV.val (Value.bool false), SV.val (Value.bool false), SV.val (Value.bool false), SV.val (Value.bool false), SV.val (Value.bool false), SV.val
  (Value.bool false), SV.val (Value.bool false), SV.val (Value.bool false), SV.val (Value.bool false), SV.val (Value.bool false), SV.val (Value.bool false), SV.val (Value.bool
  false), SV.val (Value.bool false), SV.val (Value.bool false), SV.val (Value.bool false), SV.val (Value.bool false), SV.val (Value.bool false), SV.val (Value.bool false), SV.val
  (Value.bool false), SV.val (Value.bool false), SV.val (Value.bool false), SV.val (Value.bool false), SV.val (Value.bool false), SV.val (Value.bool false), SV.val (Value.bool
  false), SV.val (Value.bool false), SV.val (Value.bool false), SV.val (Value.bool false), SV.val (Value.bool false), SV.val (Value.bool false), SV.val (Value.bool false), SV.val
  (Value.bool false)] = [SV.val (Value.bool (List.any (List.take g_2 g) fun (p : DP) => cell p == nat_lit 0)), SV.val (Value.bool (List.any (List.take g_2 g) fun (p : DP) => cell p
  == nat_lit 1)), SV.val (Value.bool (List.any (List.take g_2 g) fun (p : DP) => cell p == nat_lit 2)), SV.val (Value.bool (List.any (List.take g_2 g) fun (p : DP) => cell p ==
  nat_lit 3)), SV.val (Value.bool (List.any (List.take g_2 g) fun (p : DP) => cell p == nat_lit 4)), SV.val (Value.bool (List.any (List.take g_2 g) fun (p : DP) => cell p == nat_lit
  5)), SV.val (Value.bool (List.any (List.take g_2 g) fun (p : DP) => cell p == nat_lit 6)), SV.val (Value.bool (List.any (List.take g_2 g) fun (p : DP) => cell p == nat_lit 7)),
  SV.val (Value.bool (List.any (List.take g_2 g) fun (p : DP) => cell p == nat_lit 8)), SV.val (Value.bool (List.any (List.take g_2 g) fun (p : DP) => cell p == nat_lit 9)), SV.val
  (Value.bool (List.any (List.take g_2 g) fun (p : DP) => cell p == nat_lit 10)), SV.val (Value.bool (List.any (List.take g_2 g) fun (p : DP) => cell p == nat_lit 11)), SV.val
  (Value.bool (List.any (List.take g_2 g) fun (p : DP) => cell p == nat_lit 12)), SV.val (Value.bool (List.any (List.take g_2 g) fun (p : DP) => cell p == nat_lit 13)), SV.val
  (Value.bool (List.any (List.take g_2 g) fun (p : DP) => cell p == nat_lit 14)), SV.val (Value.bool (List.any (List.take g_2 g) fun (p : DP) => cell p == nat_lit 15)), SV.val
  (Value.bool (List.any (List.take g_2 g) fun (p : DP) => cell p == nat_lit 16)), SV.val (Value.bool (List.any (List.take g_2 g) fun (p : DP) => cell p == nat_lit 17)), SV.val
  (Value.bool (List.any (List.take g_2 g) fun (p : DP) => cell p == nat_lit 18)), SV.val (Value.bool (List.any (List.take g_2 g) fun (p : DP) => cell p == nat_lit 19)), SV.val
  (Value.bool (List.any (List.take g_2 g) fun (p : DP) => cell p == nat_lit 20)), SV.val (Value.bool (List.any (List.take g_2 g) fun (p : DP) => cell p == nat_lit 21)), SV.val
  (Value.bool (List.any (List.take g_2 g) fun (p : DP) => cell p == nat_lit 22)), SV.val (Value.bool (List.any (List.take g_2 g) fun (p : DP) => cell p == nat_lit 23)), SV.val
  (Value.bool (List.any (List.take g_2 g) fun (p : DP) => cell p == nat_lit 24)), SV.val (Value.bool (List.any (List.take g_2 g) fun (p : DP) => cell p == nat_lit 25)), SV.val
  (Value.bool (List.any (List.take g_2 g) fun (p : DP) => cell p == nat_lit 26)), SV.val (Value.bool (List.any (List.take g_2 g) fun (p : DP) => cell p == nat_lit 27)), SV.val
  (Value.bool (List.any (List.take g_2 g) fun (p : DP) => cell p == nat_lit 28)), SV.val (Value.bool (List.any (List.take g_2 g) fun (p : DP) => cell p == nat_lit 29)), SV.val
  (Value.bool (List.any (List.take g_2 g) fun (p : DP) => cell p == nat_lit 30)), SV.val (Value.bool (List.any (List.take g_2 g) fun (p : DP) => cell p == nat_lit 31)), SV.val
  (Value.bool (List.any (List.take g_2 g) fun (p : DP) => cell p == nat_lit 32)), SV.val (Value.bool (List.any (List.take g_2 g) fun (p : DP) => cell p == nat_lit 33)), SV.val
  (Value.bool (List.any (List.take g_2 g) fun (p : DP) => cell p == nat_lit 34)), SV.val (Value.bool (List.any (List.take g_2 g) fun (p : DP) => cell p == nat_lit 35)), SV.val
  (Value.bool (List.any (List.take g_2 g) fun (p : DP) => cell p == nat_lit 36)), SV.val (Value.bool (List.any (List.take g_2 g) fun (p : DP) => cell p == nat_lit 37)), SV.val
  (Value.bool (List.any (List.take g_2 g) fun (p : DP) => cell p == nat_lit 38)), SV.val (Value.bool (List.any (List.take g_2 g) fun (p : DP) => cell p == nat_lit 39)), SV.val
  (Value.bool (List.any (List.take g_2 g) fun (p : DP) => cell p == nat_lit 40)), SV.val (Value.bool (List.any (List.take g_2 g) fun (p : DP) => cell p == nat_lit 41)), SV.val
  (Value.bool (List.any (List.take g_2 g) fun (p : DP) => cell p == nat_lit 42)), SV.val (Value.bool (List.any (List.take g_2 g) fun (p : DP) => cell p == nat_lit 43)), SV.val
  (Value.bool (List.any (List.take g_2 g) fun (p : DP) => cell p == nat_lit 44)), SV.val (Value.bool (List.any (List.take g_2 g) fun (p : DP) => cell p == nat_lit 45)), SV.val
  (Value.bool (List.any (List.take g_2 g) fun (p : DP) => cell p == nat_lit 46)), SV.val (Value.bool (List.any (List.take g_2 g) fun (p : DP) => cell p == nat_lit 47)), SV.val
  (Value.bool (List.any (List.take g_2 g) fun (p : DP) => cell p == nat_lit 48)), SV.val (Value.bool (List.any (List.take g_2 g) fun (p : DP) => cell p == nat_lit 49)), SV.val
  (Value.bool (List.any (List.take g_2 g) fun (p : DP) => cell p == nat_lit 50)), SV.val (Value.bool (List.any (List.take g_2 g) fun (p : DP) => cell p == nat_lit 51)), SV.val
  (Value.bool (List.any (List.take g_2 g) fun (p : DP) => cell p == nat_lit 52)), SV.val (Value.bool (List.any (List.take g_2 g) fun (p : DP) => cell p == nat_lit 53)), SV.val
  (Value.bool (List.any (List.take g_2 g) fun (p : DP) => cell p == nat_lit 54)), SV.val (Value.bool (List.any (List.take g_2 g) fun (p : DP) => cell p == nat_lit 55)), SV.val
  (Value.bool (List.any (List.take g_2 g) fun (p : DP) => cell p == nat_lit 56)), SV.val (Value.bool (List.any (List.take g_2 g) fun (p : DP) => cell p == nat_lit 57)), SV.val
  (Value.bool (List.any (List.take g_2 g) fun (p : DP) => cell p == nat_lit 58)), SV.val (Value.bool (List.any (List.take g_2 g) fun (p : DP) => cell p == nat_lit 59)), SV.val
  (Value.bool (List.any (List.take g_2 g) fun (p : DP) => cell p == nat_lit 60)), SV.val (Value.bool (List.any (List.take g_2 g) fun (p : DP) => cell p == nat_lit 61)), SV.val
  (Value.bool (List.any (List.take g_2 g) fun (p : DP) => cell p == nat_lit 62)), SV.val (Value.bool (List.any (List.take g_2 g) fun (p : DP) => cell p == nat_lit 63))] ∧ ∀ (x :
  Bool), (1 : Nat) = (1 : Nat) ∧ allOne (encB x) = true) ∧ True) ∧ True) ∧ ∀ (g_2 : Nat), g_2 ≤ List.length g ∧ List.all g okP = true ∧ List.Nodup (List.map plc (List.take g_2 g)) →
  (decide ((↑g_2 : Int) < (↑(List.length g) : Int)) = true → ((0 : Int) ≤ (↑g_2 : Int) ∧ (↑g_2 : Int) < (↑(List.length g) : Int)) ∧ Int.toNat (↑g_2 : Int) < List.length g ∧ ((0 :
  Int) ≤ DP.file (List.getD g (Int.toNat (↑g_2 : Int)) dDP) ∧ DP.file (List.getD g (Int.toNat (↑g_2 : Int)) dDP) < (↑(4 : Nat) : Int)) ∧ ((0 : Int) ≤ DP.index (List.getD g (Int.toNat
  (↑g_2 : Int)) dDP) ∧ DP.index (List.getD g (Int.toNat (↑g_2 : Int)) dDP) < (↑(16 : Nat) : Int)) ∧ Int.toNat (DP.file (List.getD g (Int.toNat (↑g_2 : Int)) dDP)) * (16 : Nat) + (0 :
  Nat) + Int.toNat (DP.index (List.getD g (Int.toNat (↑g_2 : Int)) dDP)) < (64 : Nat) ∧ (List.getD (marks (List.take g_2 g)) (Int.toNat (DP.file (List.getD g (Int.toNat (↑g_2 : Int))
  dDP)) * (16 : Nat) + (0 : Nat) + Int.toNat (DP.index (List.getD g (Int.toNat (↑g_2 : Int)) dDP))) false = true → ∃ (b : Unit), True ∧ SV.val (Value.int IntKind.i64 (7 : Int)) =
  SV.val (Value.int IntKind.i64 (chk g)) ∧ (0 : Nat) = (0 : Nat) ∧ True) ∧ (List.getD (marks (List.take g_2 g)) (Int.toNat (DP.file (List.getD g (Int.toNat (↑g_2 : Int)) dDP)) * (16
  : Nat) + (0 : Nat) + Int.toNat (DP.index (List.getD g (Int.toNat (↑g_2 : Int)) dDP))) false = false → ((0 : Int) ≤ DP.file (List.getD g (Int.toNat (↑g_2 : Int)) dDP) ∧ DP.file
  (List.getD g (Int.toNat (↑g_2 : Int)) dDP) < (↑(4 : Nat) : Int)) ∧ ((0 : Int) ≤ DP.index (List.getD g (Int.toNat (↑g_2 : Int)) dDP) ∧ DP.index (List.getD g (Int.toNat (↑g_2 : Int))
  dDP) < (↑(16 : Nat) : Int)) ∧ Int.toNat (DP.file (List.getD g (Int.toNat (↑g_2 : Int)) dDP)) * (16 : Nat) + (0 : Nat) + Int.toNat (DP.index (List.getD g (Int.toNat (↑g_2 : Int))
  dDP)) < (64 : Nat) ∧ ∃ (x : Bool), [SV.val (Value.bool x)] = [SV.val (Value.bool true)] ∧ inK IntKind.i64 ((↑g_2 : Int) + (1 : Int)) ∧ ∃ (g' : Nat), (g' ≤ List.length g ∧ List.all
  g okP = true ∧ List.Nodup (List.map plc (List.take g' g))) ∧ List.length g - g' < List.length g - g_2 ∧ (↑g_2 : Int) + (1 : Int) = (↑g' : Int) ∧ (LB.arr Bool false encB (List.set
  (marks (List.take g_2 g)) (Int.toNat (DP.file (List.getD g (Int.toNat (↑g_2 : Int)) dDP)) * (16 : Nat) + (0 : Nat) + Int.toNat (DP.index (List.getD g (Int.toNat (↑g_2 : Int))
  dDP))) x) = LB.arr Bool false encB (marks (List.take g' g)) ∧ True) ∧ True)) ∧ (decide ((↑g_2 : Int) < (↑(List.length g) : Int)) = false → ∃ (b : Unit), True ∧ SV.val (Value.int
  IntKind.i64 (0 : Int)) = SV.val (Value.int IntKind.i64 (chk g)) ∧ (0 : Nat) = (0 : Nat) ∧ True))) := by kernel_rfl
theorem okP_iff {p : DP} : okP p = true ↔ 0 ≤ p.file ∧ p.file < 4 ∧ 0 ≤ p.index ∧ p.index < 16 ∧ 0 ≤ p.since := by
  simp [okP, and_assoc]
theorem getD_mem {l : List DP} {i : Nat} (h : i < l.length) : l.getD i dDP ∈ l := by
  rw [List.getD_eq_getElem?_getD]; simp [h]
theorem chk_bad {l : List DP} {i : Nat} (h : i < l.length) (hb : okP (l.getD i dDP) = false) : chk l = 2 := by
  unfold chk
  rw [if_neg]
  intro ha
  rw [List.all_eq_true.1 ha _ (getD_mem h)] at hb
  cases hb
theorem all_next {l : List DP} {i : Nat} (h : i < l.length) (ha : (l.take i).all okP = true) (hb : okP (l.getD i dDP) = true) : (l.take (i + 1)).all okP = true := by
  rw [take_next l dDP h, List.all_append, ha]; simp only [List.all_cons, List.all_nil, hb, Bool.and_self]
theorem cell_lt {p : DP} (h : okP p = true) : cell p < 64 := by
  rw [okP_iff] at h; unfold cell; omega
theorem cell_inj {p q : DP} (hp : okP p = true) (hq : okP q = true) (h : cell p = cell q) : plc p = plc q := by
  rw [okP_iff] at hp hq
  unfold cell at h
  have h1 : p.file = q.file := by omega
  have h2 : p.index = q.index := by omega
  simp [plc, h1, h2]
theorem marks_length (l : List DP) : (marks l).length = 64 := by simp [marks]
theorem marks_get {l : List DP} {k : Nat} (h : k < 64) : (marks l).getD k false = l.any fun p => cell p == k := by
  rw [List.getD_eq_getElem?_getD, marks, List.getElem?_map, List.getElem?_range h]; rfl
theorem marks_set {l : List DP} {p : DP} (h : cell p < 64) : (marks l).set (cell p) true = marks (l ++ [p]) := by
  refine List.ext_getElem? fun k => ?_
  rw [List.getElem?_set, marks_length]
  by_cases hk : k < 64
  · have e : ∀ l, (marks l)[k]? = some (l.any fun p => cell p == k) := fun l => by rw [marks, List.getElem?_map, List.getElem?_range hk]; rfl
    rw [e, e, List.any_append]
    by_cases hc : cell p = k
    · simp [hc, hk]
    · simp [hc]
  · have e : ∀ l, (marks l)[k]? = none := fun l => List.getElem?_eq_none (by rw [marks_length]; omega)
    rw [e, e, if_neg (by omega)]
theorem vCheck : cCheck.body (fun g => env [] (lCheck g)) Try.f15 := by
  rw [vCheck_eq]
  intro l hlen
  have two : ∀ {i : Nat}, i < l.length → okP (l.getD i dDP) = false → ∃ _ : Unit, True ∧ SV.val (Value.int IntKind.i64 2) = SV.val (Value.int IntKind.i64 (chk l)) ∧ 0 = 0 ∧ True := fun h hb => ⟨(), trivial, by rw [chk_bad h hb], rfl, trivial⟩
  refine ⟨⟨0, ⟨Nat.zero_le _, rfl⟩, rfl, trivial, trivial⟩, fun i hinv => ⟨fun h => ?_, fun h => ?_⟩⟩
  · obtain ⟨hi, hall⟩ := hinv
    have h : (i : Int) < l.length := of_decide_eq_true h
    have hi' : i < l.length := by omega
    have bad : ∀ {q : Prop}, (okP (l.getD i dDP) = true → q) → ¬ q → okP (l.getD i dDP) = false := fun hq hn => by
      cases ho : okP (l.getD i dDP) with
      | false => rfl
      | true => exact absurd (hq ho) hn
    refine ⟨⟨by omega, h⟩, hi', fun h1 => two hi' (bad (fun o => (okP_iff.1 o).1) (by have := of_decide_eq_true h1; simp only [Int.toNat_natCast] at this; omega)), fun h1 => ⟨fun h2 => two hi' (bad (fun o => (okP_iff.1 o).2.1) (by have := of_decide_eq_true h2; simp only [Int.toNat_natCast] at this; omega)), fun h2 =>
      ⟨fun h3 => two hi' (bad (fun o => (okP_iff.1 o).2.2.1) (by have := of_decide_eq_true h3; simp only [Int.toNat_natCast] at this; omega)), fun h3 => ⟨fun h4 => two hi' (bad (fun o => (okP_iff.1 o).2.2.2.1) (by have := of_decide_eq_true h4; simp only [Int.toNat_natCast] at this; omega)), fun h4 =>
      ⟨fun h5 => two hi' (bad (fun o => (okP_iff.1 o).2.2.2.2) (by have := of_decide_eq_true h5; simp only [Int.toNat_natCast] at this; omega)), fun h5 => ⟨inI (by omega) (by omega), i + 1, ⟨hi', all_next hi' hall ?_⟩, by omega, by simp, trivial, trivial⟩⟩⟩⟩⟩⟩
    have e1 := of_decide_eq_false h1
    have e2 := of_decide_eq_false h2
    have e3 := of_decide_eq_false h3
    have e4 := of_decide_eq_false h4
    have e5 := of_decide_eq_false h5
    simp only [Int.toNat_natCast] at e1 e2 e3 e4 e5
    rw [okP_iff]; omega
  · obtain ⟨hi, hall⟩ := hinv
    have h : ¬ (i : Int) < l.length := of_decide_eq_false h
    have he : i = l.length := by omega
    rw [he, List.take_length] at hall
    refine ⟨⟨0, ⟨Nat.zero_le _, hall, by simp⟩, rfl, ⟨⟨rfl, fun _ => ⟨rfl, rfl⟩⟩, trivial⟩, trivial⟩, fun j hinv => ⟨fun h => ?_, fun h => ⟨(), trivial, ?_, rfl, trivial⟩⟩⟩
    · obtain ⟨hj, _, hnd⟩ := hinv
      have h : (j : Int) < l.length := of_decide_eq_true h
      have hj' : j < l.length := by omega
      simp only [Int.toNat_natCast, Nat.add_zero]
      have hok := List.all_eq_true.1 hall _ (getD_mem hj')
      have hb := okP_iff.1 hok
      have hc := cell_lt hok
      rw [show (l.getD j dDP).file.toNat * 16 + (l.getD j dDP).index.toNat = cell (l.getD j dDP) from rfl]
      have hr1 : (0 : Int) ≤ (l.getD j dDP).file ∧ (l.getD j dDP).file < ((4 : Nat) : Int) := ⟨hb.1, hb.2.1⟩
      have hr2 : (0 : Int) ≤ (l.getD j dDP).index ∧ (l.getD j dDP).index < ((16 : Nat) : Int) := ⟨hb.2.2.1, hb.2.2.2.1⟩
      rw [marks_get hc]
      refine ⟨⟨by omega, h⟩, hj', hr1, hr2, hc, fun hs => ⟨(), trivial, ?_, trivial, trivial⟩, fun hs => ⟨hr1, hr2, hc, true, rfl, inI (by omega) (by omega), j + 1, ⟨hj', hall, ?_⟩, by omega, by simp, ⟨?_, trivial⟩, trivial⟩⟩
      · obtain ⟨q, hq, hcq⟩ := List.any_eq_true.1 hs
        have hpq := cell_inj (List.all_eq_true.1 hall _ (List.mem_of_mem_take hq)) hok (by simpa using hcq)
        have hno : ¬ (l.map plc).Nodup := fun hn => by
          have h1 : (List.map plc (l.take (j + 1))).Nodup := by rw [List.map_take]; exact hn.sublist (List.take_sublist _ _)
          rw [take_next l dDP hj', List.map_append, List.nodup_append] at h1
          exact h1.2.2 (plc q) (List.mem_map.2 ⟨q, hq, rfl⟩) (plc (l.getD j dDP)) (by simp) hpq
        simp [chk, hall, hno]
      · rw [take_next l dDP hj', List.map_append, List.nodup_append]
        refine ⟨hnd, by simp, fun a ha b hb he => ?_⟩
        obtain ⟨q, hq, rfl⟩ := List.mem_map.1 ha
        simp only [List.map_cons, List.map_nil, List.mem_singleton] at hb
        subst hb
        have hcq : cell q = cell (l.getD j dDP) := by
          have h1 := congrArg Prod.fst he
          have h2 := congrArg Prod.snd he
          simp only [plc] at h1 h2
          unfold cell; rw [h1, h2]
        rw [List.any_eq_false] at hs
        exact hs q hq (by simp [hcq])
      · rw [marks_set hc, ← take_next l dDP hj']
    · obtain ⟨hj, _, hnd⟩ := hinv
      have h : ¬ (j : Int) < l.length := of_decide_eq_false h
      have he : j = l.length := by omega
      rw [he, List.take_length] at hnd
      simp [chk, hall, hnd]
end Go.Wb
