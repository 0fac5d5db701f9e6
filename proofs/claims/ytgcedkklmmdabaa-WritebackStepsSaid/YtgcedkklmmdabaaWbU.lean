/- A PART OF THE PROOF. NO CONDITION. -/
import Derived.Test.YtgcedkklmmdabaaWbT
import Derived.Test.YtgcedkklmmdabaaSxAD
noncomputable section
set_option linter.unusedVariables false
set_option linter.unusedVariables false
set_option linter.unusedSimpArgs false
namespace Go.WbW
open Go.Proofs Go.SX Go.Wb
set_option maxRecDepth 100000
/-! Check, Order and Runs of the program once more, for lists of any length -/
def cWCheck : Con := pureCon (List DP) Unit (fun l => [roP l]) (fun l => l.length ≤ 9223372036854775807) (fun _ _ => True) (fun l _ => I (chk l))
theorem vWCheck_eq : (cWCheck.body (fun g => envM [(33, cPage), (34, cAt)] (lWCheck g)) Try.f14) = (∀ (g : List DP), List.length g ≤ (9223372036854775807 : Nat) → (∀ (x : Enc.α (Enc.mk (Bool) (false) (encB))), (1 : Nat) = (1 : Nat) ∧ allOne (Enc.enc (Enc.mk (Bool) (false) (encB))
  x) = true) ∧ (∃ (g_1 : Nat), (g_1 ≤ List.length g ∧ List.all (List.take g_1 g) okP = true) ∧ (0 : Int) = (↑g_1 : Int) ∧ (LB.mp true (2 : Nat) (Enc.α (Enc.mk (Bool) (false) (encB)))
  (Enc.d (Enc.mk (Bool) (false) (encB))) (Enc.enc (Enc.mk (Bool) (false) (encB))) [] = LB.mp true (2 : Nat) Bool false encB (seenE (List.take g_1 g)) ∧ True) ∧ True) ∧ ∀ (g_1 : Nat),
  g_1 ≤ List.length g ∧ List.all (List.take g_1 g) okP = true → (decide ((↑g_1 : Int) < (↑(List.length g) : Int)) = true → ((0 : Int) ≤ (↑g_1 : Int) ∧ (↑g_1 : Int) < (↑(List.length
  g) : Int)) ∧ Int.toNat (↑g_1 : Int) < List.length g ∧ ∃ (g_2 : Int × Int), (SV.val (Value.int IntKind.i64 (DP.file (List.getD g (Int.toNat (↑g_1 : Int)) dDP))) = SV.val (Value.int
  IntKind.i64 (Prod.fst g_2)) ∧ SV.val (Value.int IntKind.i64 (DP.index (List.getD g (Int.toNat (↑g_1 : Int)) dDP))) = SV.val (Value.int IntKind.i64 (Prod.snd g_2))) ∧ True ∧ True ∧
  ∀ (b : Unit), True → ((!isPage (Prod.fst g_2) (Prod.snd g_2)) = true → ∃ (b : Unit), True ∧ SV.val (Value.int IntKind.i64 (2 : Int)) = SV.val (Value.int IntKind.i64 (chk g)) ∧ (0 :
  Nat) = (0 : Nat) ∧ True) ∧ ((!isPage (Prod.fst g_2) (Prod.snd g_2)) = false → (decide (DP.since (List.getD g (Int.toNat (↑g_1 : Int)) dDP) < (0 : Int)) = true → ∃ (b : Unit), True
  ∧ SV.val (Value.int IntKind.i64 (2 : Int)) = SV.val (Value.int IntKind.i64 (chk g)) ∧ (0 : Nat) = (0 : Nat) ∧ True) ∧ (decide (DP.since (List.getD g (Int.toNat (↑g_1 : Int)) dDP) <
  (0 : Int)) = false → ∃ (g_3 : DP), (SV.val (Value.int IntKind.i64 (DP.file (List.getD g (Int.toNat (↑g_1 : Int)) dDP))) = SV.val (Value.int IntKind.i64 (DP.file g_3)) ∧ SV.val
  (Value.int IntKind.i64 (DP.index (List.getD g (Int.toNat (↑g_1 : Int)) dDP))) = SV.val (Value.int IntKind.i64 (DP.index g_3)) ∧ SV.val (Value.int IntKind.i64 (DP.since (List.getD g
  (Int.toNat (↑g_1 : Int)) dDP))) = SV.val (Value.int IntKind.i64 (DP.since g_3)) ∧ True) ∧ True ∧ True ∧ ∀ (b : Unit), True → (inK IntKind.i64 (DP.file g_3) ∧ lo IntKind.i64 ≤
  DP.index g_3 ∧ DP.index g_3 ≤ hi IntKind.i64) ∧ ∃ (y : Bool), [SV.val (Value.bool y)] = [SV.val (Value.bool true)] ∧ inK IntKind.i64 ((↑g_1 : Int) + (1 : Int)) ∧ ∃ (g' : Nat), (g'
  ≤ List.length g ∧ List.all (List.take g' g) okP = true) ∧ List.length g - g' < List.length g - g_1 ∧ (↑g_1 : Int) + (1 : Int) = (↑g' : Int) ∧ (LB.mp true (2 : Nat) Bool false encB
  (putE [DP.file g_3, DP.index g_3] y (seenE (List.take g_1 g))) = LB.mp true (2 : Nat) Bool false encB (seenE (List.take g' g)) ∧ True) ∧ True))) ∧ (decide ((↑g_1 : Int) <
  (↑(List.length g) : Int)) = false → (((↑(List.length (seenE (List.take g_1 g))) : Int) != (↑(List.length g) : Int)) = true → ∃ (b : Unit), True ∧ SV.val (Value.int IntKind.i64 (7 :
  Int)) = SV.val (Value.int IntKind.i64 (chk g)) ∧ (0 : Nat) = (0 : Nat) ∧ True) ∧ (((↑(List.length (seenE (List.take g_1 g))) : Int) != (↑(List.length g) : Int)) = false → ∃ (b :
  Unit), True ∧ SV.val (Value.int IntKind.i64 (0 : Int)) = SV.val (Value.int IntKind.i64 (chk g)) ∧ (0 : Nat) = (0 : Nat) ∧ True))) := by kernel_rfl
def cOrder : Con := newCon (List DP) Unit (fun l => [roP l]) (fun l => l.length ≤ 9223372036854775807) (fun _ _ => True) (fun l _ => .tup [.sl 0 3 0 (ordO l).length, I (chk l)]) (fun l _ => .arr DP dDP encDP (ordO l))
theorem vWOrder_eq : (cOrder.body (fun g => env [(14, cWCheck), (28, cClone), (30, cSort)] (noLoops g)) Try.f12) = (∀ (g : List DP), List.length g ≤ (9223372036854775807 : Nat) → ∃ (g_1 : List DP), SV.ro DP dDP encDP g = SV.ro DP dDP encDP g_1 ∧ True ∧ List.length g_1 ≤ (9223372036854775807 :
  Nat) ∧ ∀ (b : Unit), True → ((chk g_1 != (0 : Int)) = true → ∃ (b : Unit), True ∧ (((SV.val (Value.slice none (0 : Nat) (0 : Nat)) = SV.val (Value.slice none (0 : Nat) (0 : Nat)) ∧
  (0 : Nat) = (0 : Nat) ∧ List.length (ordO g) = (0 : Nat)) ∧ SV.val (Value.int IntKind.i64 (chk g_1)) = SV.val (Value.int IntKind.i64 (chk g))) ∧ (∀ (x : DP), allFlat (encDP x) =
  true) ∧ ordO g = [] ∧ ∀ (x : DP), (3 : Nat) = (3 : Nat) ∧ allOne (encDP x) = true) ∧ (0 : Nat) = (0 : Nat) ∧ True) ∧ ((chk g_1 != (0 : Int)) = false → ∃ (g_2 : List DP), SV.ro DP
  dDP encDP g = SV.ro DP dDP encDP g_2 ∧ True ∧ List.length g_2 ≤ (1000000000 : Nat) ∧ ∀ (b : Unit), True → ∃ (g_3 : List DP), (((3 : Nat) = (3 : Nat) ∧ (0 : Nat) = (0 : Nat) ∧
  List.length g_2 = List.length g_3) ∧ (31 : Nat) = (31 : Nat) ∧ True) ∧ some (LB.arr DP dDP encDP g_2) = some (LB.arr DP dDP encDP g_3) ∧ List.length g_3 < (4611686018427387904 :
  Nat) ∧ ∀ (b : List DP), List.Perm b g_3 ∧ List.Pairwise (fun (x y : DP) => ¬compareI y x < (0 : Int)) b → ∃ (b_1 : Unit), True ∧ (((SV.sl (72 : Nat) (3 : Nat) (0 : Nat)
  (List.length g_2) = SV.sl (72 : Nat) (3 : Nat) (0 : Nat) (List.length g_2) ∧ (0 : Nat) = (0 : Nat) ∧ (3 : Nat) = (3 : Nat) ∧ List.length g_2 = List.length (ordO g)) ∧ SV.val
  (Value.int IntKind.i64 (0 : Int)) = SV.val (Value.int IntKind.i64 (chk g))) ∧ (∀ (x : DP), allFlat (encDP x) = true) ∧ (0 : Nat) + List.length g_2 ≤ List.length b ∧ LB.arr DP dDP
  encDP (List.take (List.length g_2) (List.drop (0 : Nat) b)) = LB.arr DP dDP encDP (ordO g)) ∧ (0 : Nat) = (0 : Nat) ∧ True)) := by kernel_rfl
def cRuns : Con := newCon GRn Unit (fun g => [roP g.l, I g.most]) (fun g => g.l.length ≤ 9223372036854775807 ∧ g.most ≤ 9223372036854775807) (fun _ _ => True) (fun g _ => .tup [.sl 0 3 0 (runsO g).length, I (runsE g)]) (fun g _ => .arr DR dDR encDR (runsO g))
structure JRn where
  i : Nat
  acc : List DR
theorem vWRuns_eq : (cRuns.body (fun g => envR [(14, cWCheck), (34, cAt), (39, cSortP), (43, c43)] (lWRuns g)) Try.f21) = (∀ (g : GRn), List.length (GRn.l g) ≤ (9223372036854775807 : Nat) ∧ GRn.most g ≤ (9223372036854775807 : Int) → ∃ (g_1 : List DP), SV.ro DP dDP encDP (GRn.l g) = SV.ro DP dDP encDP
  g_1 ∧ True ∧ List.length g_1 ≤ (9223372036854775807 : Nat) ∧ ∀ (b : Unit), True → ((chk g_1 != (0 : Int)) = true → ∃ (b : Unit), True ∧ (((SV.val (Value.slice none (0 : Nat) (0 :
  Nat)) = SV.val (Value.slice none (0 : Nat) (0 : Nat)) ∧ (0 : Nat) = (0 : Nat) ∧ List.length (runsO g) = (0 : Nat)) ∧ SV.val (Value.int IntKind.i64 (chk g_1)) = SV.val (Value.int
  IntKind.i64 (runsE g))) ∧ (∀ (x : DR), allFlat (encDR x) = true) ∧ runsO g = [] ∧ ∀ (x : DR), (3 : Nat) = (3 : Nat) ∧ allOne (encDR x) = true) ∧ (0 : Nat) = (0 : Nat) ∧ True) ∧
  ((chk g_1 != (0 : Int)) = false → (decide (GRn.most g < (1 : Int)) = true → ∃ (b : Unit), True ∧ (((SV.val (Value.slice none (0 : Nat) (0 : Nat)) = SV.val (Value.slice none (0 :
  Nat) (0 : Nat)) ∧ (0 : Nat) = (0 : Nat) ∧ List.length (runsO g) = (0 : Nat)) ∧ SV.val (Value.int IntKind.i64 (2 : Int)) = SV.val (Value.int IntKind.i64 (runsE g))) ∧ (∀ (x : DR),
  allFlat (encDR x) = true) ∧ runsO g = [] ∧ ∀ (x : DR), (3 : Nat) = (3 : Nat) ∧ allOne (encDR x) = true) ∧ (0 : Nat) = (0 : Nat) ∧ True) ∧ (decide (GRn.most g < (1 : Int)) = false →
  (∃ (g_2 : Nat), g_2 ≤ List.length (GRn.l g) ∧ ((0 : Int) = (↑g_2 : Int) ∧ (0 : Nat) = (0 : Nat) ∧ g_2 = (0 : Nat)) ∧ ((List.map plO (List.take g_2 (GRn.l g)) = [] ∧ ∀ (x : PL), (2
  : Nat) = (2 : Nat) ∧ allOne (encPL x) = true) ∧ True) ∧ True) ∧ ∀ (g_2 : Nat), g_2 ≤ List.length (GRn.l g) → (decide ((↑g_2 : Int) < (↑(List.length (GRn.l g)) : Int)) = true → ((0
  : Int) ≤ (↑g_2 : Int) ∧ (↑g_2 : Int) < (↑(List.length (GRn.l g)) : Int)) ∧ Int.toNat (↑g_2 : Int) < List.length (GRn.l g) ∧ ∃ (g_3 : DP), (SV.val (Value.int IntKind.i64 (DP.file
  (List.getD (GRn.l g) (Int.toNat (↑g_2 : Int)) dDP))) = SV.val (Value.int IntKind.i64 (DP.file g_3)) ∧ SV.val (Value.int IntKind.i64 (DP.index (List.getD (GRn.l g) (Int.toNat (↑g_2
  : Int)) dDP))) = SV.val (Value.int IntKind.i64 (DP.index g_3)) ∧ SV.val (Value.int IntKind.i64 (DP.since (List.getD (GRn.l g) (Int.toNat (↑g_2 : Int)) dDP))) = SV.val (Value.int
  IntKind.i64 (DP.since g_3)) ∧ True) ∧ True ∧ True ∧ ∀ (b : Unit), True → (0 : Nat) + g_2 ≤ List.length (List.map plO (List.take g_2 (GRn.l g))) ∧ ∃ (ys : List PL), [[SV.val
  (Value.int IntKind.i64 (DP.file g_3)), SV.val (Value.int IntKind.i64 (DP.index g_3))]] = List.map encPL ys ∧ (g_2 + List.length ys) * (16 : Nat) ≤ (140737488355328 : Nat) ∧ inK
  IntKind.i64 ((↑g_2 : Int) + (1 : Int)) ∧ ∃ (g' : Nat), g' ≤ List.length (GRn.l g) ∧ List.length (GRn.l g) - g' < List.length (GRn.l g) - g_2 ∧ ((↑g_2 : Int) + (1 : Int) = (↑g' :
  Int) ∧ (2 : Nat) = (2 : Nat) ∧ (0 : Nat) = (0 : Nat) ∧ g_2 + List.length ys = g') ∧ (LB.arr PL dPL encPL (List.take g_2 (List.drop (0 : Nat) (List.map plO (List.take g_2 (GRn.l
  g)))) ++ ys) = LB.arr PL dPL encPL (List.map plO (List.take g' (GRn.l g))) ∧ True) ∧ True) ∧ (decide ((↑g_2 : Int) < (↑(List.length (GRn.l g)) : Int)) = false → ∃ (g_3 : List PL),
  (((2 : Nat) = (2 : Nat) ∧ (0 : Nat) = (0 : Nat) ∧ g_2 = List.length g_3) ∧ (40 : Nat) = (40 : Nat) ∧ True) ∧ some (LB.arr PL dPL encPL (List.map plO (List.take g_2 (GRn.l g)))) =
  some (LB.arr PL dPL encPL g_3) ∧ List.length g_3 < (4611686018427387904 : Nat) ∧ ∀ (b : List PL), List.Perm b g_3 ∧ List.Pairwise (fun (x y : PL) => ¬compareP y x < (0 : Int)) b →
  ∃ (l : List PL), LB.arr PL dPL encPL b = LB.arr PL dPL encPL l ∧ ((2 : Nat) = (2 : Nat) ∧ (0 : Nat) = (0 : Nat) ∧ g_2 = List.length l) ∧ ∃ (g_4 : List PL × Int), ((53 : Nat) = (53
  : Nat) ∧ SV.rop (List PL) [] encBox [l] (0 : Nat) (0 : Nat) = SV.rop (List PL) [] encBox [Prod.fst g_4] (0 : Nat) (0 : Nat) ∧ SV.rop Int (0 : Int) Wb.encI [GRn.most g] (0 : Nat) (0
  : Nat) = SV.rop Int (0 : Int) Wb.encI [Prod.snd g_4] (0 : Nat) (0 : Nat) ∧ True) ∧ True ∧ okS (Prod.fst g_4) (Prod.snd g_4) ∧ ∀ (b : Unit), True → ∃ (b : Unit), True ∧ (((SV.sl
  (161 : Nat) (3 : Nat) (0 : Nat) (List.length (chR (Prod.fst g_4) (Prod.snd g_4))) = SV.sl (161 : Nat) (3 : Nat) (0 : Nat) (List.length (chR (Prod.fst g_4) (Prod.snd g_4))) ∧ (0 :
  Nat) = (0 : Nat) ∧ (3 : Nat) = (3 : Nat) ∧ List.length (chR (Prod.fst g_4) (Prod.snd g_4)) = List.length (runsO g)) ∧ SV.val (Value.int IntKind.i64 (0 : Int)) = SV.val (Value.int
  IntKind.i64 (runsE g))) ∧ (∀ (x : DR), allFlat (encDR x) = true) ∧ (0 : Nat) + List.length (chR (Prod.fst g_4) (Prod.snd g_4)) ≤ List.length (chR (Prod.fst g_4) (Prod.snd g_4)) ∧
  LB.arr DR dDR encDR (List.take (List.length (chR (Prod.fst g_4) (Prod.snd g_4))) (List.drop (0 : Nat) (chR (Prod.fst g_4) (Prod.snd g_4)))) = LB.arr DR dDR encDR (runsO g)) ∧ (0 :
  Nat) = (0 : Nat) ∧ True)))) := by kernel_rfl
theorem nod_len : ∀ (n : Nat) (l : List Nat), l.Nodup → (∀ x ∈ l, x < n) → l.length ≤ n
  | 0, l, _, h => by
    cases l with
    | nil => exact Nat.le_refl _
    | cons a r => exact absurd (h a (by simp)) (by omega)
  | n + 1, l, hd, h => by
    by_cases hn : n ∈ l
    · have h1 := List.length_erase_of_mem hn
      have h2 := nod_len n (l.erase n) (hd.erase n) (fun x hx => by
        have := (hd.mem_erase_iff).1 hx
        have := h x this.2
        omega)
      omega
    · exact Nat.le_succ_of_le (nod_len n l hd fun x hx => by
        have := h x hx
        have : x ≠ n := fun e => hn (e ▸ hx)
        omega)
theorem chk_len {l : List DP} (hc : chk l = 0) : l.length ≤ 64 := by
  have hn := places_nodup hc
  have hok := chk_ok hc
  have hok : ∀ p ∈ l, okP p = true := fun p hp => List.all_eq_true.1 hok p hp
  have h := nod_len 64 (l.map fun p => (p.file * 16 + p.index).toNat) (by
    rw [List.Nodup, List.pairwise_map] at hn ⊢
    refine List.Pairwise.imp_of_mem (fun {a b} ha hb hab => ?_) hn
    have h1 := okP_iff.1 (hok a ha)
    have h2 := okP_iff.1 (hok b hb)
    intro he
    apply hab
    show plO a = plO b
    unfold plO
    have e1 : a.file = b.file := by omega
    have e2 : a.index = b.index := by omega
    rw [e1, e2]) (fun x hx => by
    obtain ⟨p, hp, rfl⟩ := List.mem_map.1 hx
    have := okP_iff.1 (hok p hp)
    omega)
  simpa using h
theorem vWCheck : cWCheck.body (fun g => envM [(33, cPage), (34, cAt)] (lWCheck g)) Try.f14 := by
  rw [vWCheck_eq]
  intro l hlen
  refine ⟨fun _ => ⟨rfl, rfl⟩, ⟨0, ⟨Nat.zero_le _, rfl⟩, rfl, ⟨rfl, trivial⟩, trivial⟩, fun i ⟨hi, hall⟩ => ⟨fun h => ?_, fun h => ?_⟩⟩
  · have h : (i : Int) < l.length := of_decide_eq_true h
    have hi' : i < l.length := by omega
    rw [Int.toNat_natCast]
    have two : okP (l.getD i dDP) = false → ∃ _ : Unit, True ∧ SV.val (Value.int IntKind.i64 2) = SV.val (Value.int IntKind.i64 (chk l)) ∧ 0 = 0 ∧ True := fun hb => ⟨(), trivial, by rw [chk_bad hi' hb], rfl, trivial⟩
    refine ⟨⟨by omega, h⟩, hi', ((l.getD i dDP).file, (l.getD i dDP).index), ⟨rfl, rfl⟩, trivial, trivial, fun _ _ => ⟨fun h1 => two ?_, fun h1 => ⟨fun h2 => two ?_, fun h2 => ⟨l.getD i dDP, ⟨rfl, rfl, rfl, trivial⟩, trivial, trivial, fun _ _ => ?_⟩⟩⟩⟩
    · cases ho : okP (l.getD i dDP) with
      | false => rfl
      | true =>
        have := okP_iff.1 ho
        rw [Bool.not_eq_true'] at h1
        rw [isPage_iff.2 ⟨this.1, this.2.1, this.2.2.1, this.2.2.2.1⟩] at h1
        cases h1
    · cases ho : okP (l.getD i dDP) with
      | false => rfl
      | true =>
        have := okP_iff.1 ho
        have h2 := of_decide_eq_true h2
        omega
    · have h1 : isPage (l.getD i dDP).file (l.getD i dDP).index = true := by simpa using h1
      have h1 := isPage_iff.1 h1
      have h2 := of_decide_eq_false h2
      have hok : okP (l.getD i dDP) = true := okP_iff.2 ⟨h1.1, h1.2.1, h1.2.2.1, h1.2.2.2, by omega⟩
      refine ⟨⟨inI (by omega) (by omega), inI (by omega) (by omega)⟩, true, rfl, inI (by omega) (by omega), i + 1, ⟨hi', all_next hi' hall hok⟩, by omega, by simp, ⟨?_, trivial⟩, trivial⟩
      rw [take_next l dDP hi', seenE_next]
  · have h : ¬ (i : Int) < l.length := of_decide_eq_false h
    have he : i = l.length := by omega
    subst he
    rw [List.take_length] at hall
    simp only [List.take_length]
    have hs := seenE_len l
    refine ⟨fun h1 => ⟨(), trivial, ?_, trivial, trivial⟩, fun h1 => ⟨(), trivial, ?_, trivial, trivial⟩⟩
    · have h1 : ¬ ((seenE l).length : Int) = l.length := by simpa using h1
      rw [chk, if_pos hall, if_neg (fun hn => h1 (by rw [hs.2 hn]))]
    · have h1 : ((seenE l).length : Int) = l.length := by simpa using h1
      rw [chk, if_pos hall, if_pos (hs.1 (by omega))]
theorem sWCheck : SpecOk P 14 cWCheck.spec := spec_ofM cWCheck mk_ok (tab_cons sPage (tab_cons sAt (tab_nil P))) mixed (fn := Try.f14) (by kernel_rfl) (by kernel_rfl) (by kernel_rfl) (Nat.zero_le _) (noIns fun _ => rfl) vWCheck
theorem vWOrder : cOrder.body (fun g => env [(14, cWCheck), (28, cClone), (30, cSort)] (noLoops g)) Try.f12 := by
  rw [vWOrder_eq]
  intro l hl
  refine ⟨l, rfl, trivial, hl, fun _ _ => ⟨fun hc => ?_, fun hc => ?_⟩⟩
  · have hc : chk l ≠ 0 := by simpa using hc
    have ho : ordO l = [] := by rw [ordO, if_neg hc]
    rw [ho]
    exact ⟨(), trivial, ⟨⟨⟨rfl, rfl, rfl⟩, rfl⟩, flDP, rfl, okDP⟩, rfl, trivial⟩
  · have hc : chk l = 0 := by simpa using hc
    have ho : ordO l = ordR l := by rw [ordO, if_pos hc]
    have h64 := chk_len hc
    refine ⟨l, rfl, trivial, by omega, fun _ _ => ⟨l, ⟨⟨rfl, rfl, rfl⟩, rfl, trivial⟩, rfl, by omega, fun d hd => ⟨(), trivial, ⟨⟨⟨rfl, rfl, rfl, ?_⟩, by rw [hc]⟩, flDP, ?_, ?_⟩, rfl, trivial⟩⟩⟩
    · rw [ho, (ordR_perm l).length_eq]
    · rw [Nat.zero_add, hd.1.length_eq]; exact Nat.le_refl _
    · rw [ho, List.drop_zero, ← hd.1.length_eq, List.take_length, ordR_unique hd.1 hd.2]
theorem sWOrder : SpecOk P 12 cOrder.spec := spec_of cOrder (tab_cons sWCheck (tab_cons sClone (tab_cons sSort (tab_nil P)))) mixed (fn := Try.f12) (by kernel_rfl) (by kernel_rfl) (by kernel_rfl) (Nat.zero_le _) (noIns fun _ => rfl) vWOrder
theorem vWRuns : cRuns.body (fun g => envR [(14, cWCheck), (34, cAt), (39, cSortP), (43, c43)] (lWRuns g)) Try.f21 := by
  rw [vWRuns_eq]
  rintro ⟨l, most⟩ ⟨hl, hm⟩
  dsimp only at hl hm ⊢
  have fin : ∀ e : Int, runsE ⟨l, most⟩ = e → e ≠ 0 → ∃ (b : Unit), True ∧ (((SV.val (Value.slice none 0 0) = SV.val (Value.slice none 0 0) ∧ (0 : Nat) = 0 ∧ (runsO ⟨l, most⟩).length = 0) ∧ I e = I (runsE ⟨l, most⟩)) ∧ (∀ x : DR, allFlat (encDR x) = true) ∧ runsO ⟨l, most⟩ = [] ∧ ∀ x : DR, (3 : Nat) = 3 ∧ allOne (encDR x) = true) ∧ (0 : Nat) = 0 ∧ True := fun e h h0 => by
    have ho : runsO ⟨l, most⟩ = [] := by rw [runsO, if_neg (by rw [h]; exact h0)]
    rw [ho, h]
    exact ⟨(), trivial, ⟨⟨⟨rfl, rfl, rfl⟩, rfl⟩, flDR, rfl, okDR⟩, rfl, trivial⟩
  refine ⟨l, rfl, trivial, hl, fun _ _ => ⟨fun hc => ?_, fun hc => ⟨fun h1 => ?_, fun h1 => ⟨⟨0, Nat.zero_le _, ⟨rfl, rfl, rfl⟩, ⟨⟨rfl, fun _ => ⟨rfl, rfl⟩⟩, trivial⟩, trivial⟩, fun i hi => ⟨fun hlt => ?_, fun hge => ?_⟩⟩⟩⟩⟩
  · have hc : chk l ≠ 0 := by simpa using hc
    exact fin _ (by rw [runsE, if_neg hc]) hc
  · have hc : chk l = 0 := by simpa using hc
    exact fin 2 (by rw [runsE, if_pos hc, if_pos (of_decide_eq_true h1)]) (by decide)
  · have hlt : (i : Int) < l.length := of_decide_eq_true hlt
    have hi' : i < l.length := by omega
    have hil : ((l.take i).map plO).length = i := by rw [List.length_map, List.length_take]; omega
    rw [Int.toNat_natCast]
    have h64 := chk_len (show chk l = 0 by simpa using hc)
    refine ⟨⟨by omega, hlt⟩, hi', l.getD i dDP, ⟨rfl, rfl, rfl, trivial⟩, trivial, trivial, fun _ _ => ⟨by omega, [plO (l.getD i dDP)], rfl, by simp only [List.length_cons, List.length_nil]; omega, inI (by omega) (by omega), i + 1, hi', by omega, ⟨by omega, rfl, rfl, rfl⟩, ⟨?_, trivial⟩, trivial⟩⟩
    rw [List.drop_zero, List.take_of_length_le (by omega), take_next l dDP hi', List.map_append]; rfl
  · have hge : ¬ (i : Int) < l.length := of_decide_eq_false hge
    obtain rfl : i = l.length := by omega
    have hc : chk l = 0 := by simpa using hc
    have hm1 : ¬ most < 1 := of_decide_eq_false h1
    have h64 := chk_len hc
    rw [List.take_length]
    refine ⟨l.map plO, ⟨⟨rfl, rfl, by rw [List.length_map]⟩, rfl, trivial⟩, rfl, by rw [List.length_map]; omega, fun S hS => ⟨S, rfl, ⟨rfl, rfl, by rw [hS.1.length_eq, List.length_map]⟩, ?_⟩⟩
    have hall := sorted_places hc hS.1 hS.2
    have he : runsE ⟨l, most⟩ = 0 := by rw [runsE, if_pos hc, if_neg hm1]
    have ho : runsO ⟨l, most⟩ = chR S most := by rw [runsO, if_pos he, hall, chR_runs (by omega)]
    have hok : okS S most := by
      refine ⟨?_, by omega, hm, fun p hp => ?_⟩
      · rw [hall]
        have hL : ∀ k, (allL l k).length ≤ 16 * k := fun k => by
          induction k with
          | zero => simp [allL]
          | succ k ih =>
            rw [allL, List.length_append]
            have := Lf_len (H := H l ((3 - k : Nat) : Int)) (f := ((3 - k : Nat) : Int)) 0
            omega
        have := hL 4
        omega
      · rw [hall, allL_mem l 4 (Nat.le_refl _)] at hp
        obtain ⟨_, _, j, h1, h2, _⟩ := hp
        omega
    exact ⟨(S, most), ⟨rfl, rfl, rfl, trivial⟩, trivial, hok, fun _ _ => ⟨(), trivial, ⟨⟨⟨rfl, rfl, rfl, by rw [ho]⟩, by rw [he]⟩, flDR, by omega, by rw [List.drop_zero, List.take_length, ho]⟩, rfl, trivial⟩⟩
theorem sWRuns : SpecOk P 21 cRuns.spec := spec_ofS cRuns (tab_cons sWCheck (tab_cons sAt (tab_cons sSortP (tab_cons s43 (tab_nil P))))) s44 sp44_mono mixed (fn := Try.f21) (by kernel_rfl) (by kernel_rfl) (by kernel_rfl) (Nat.zero_le _) (noIns fun _ => rfl) vWRuns
end Go.WbW
