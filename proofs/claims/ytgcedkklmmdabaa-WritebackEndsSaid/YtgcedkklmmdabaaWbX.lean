/- A PART OF THE PROOF. NO CONDITION. -/
import Derived.Test.YtgcedkklmmdabaaWbX0
import Derived.Test.YtgcedkklmmdabaaSxFz
import Derived.Test.YtgcedkklmmdabaaSxAD
noncomputable section
set_option linter.unusedVariables false
set_option linter.unusedVariables false
set_option linter.unusedSimpArgs false
namespace Go.WbW
open Go.Proofs Go.SX Go.Wb
set_option maxRecDepth 100000
/-! the law that nothing is left -/
def ord (g : GRn × Bool) : List DR := if g.2 = true then (runsO g.1).reverse else runsO g.1
theorem mem_expand {r : DR} {q : PL} : q ∈ expand r ↔ q.file = r.file ∧ r.index ≤ q.index ∧ q.index < r.index + r.count := by
  unfold expand
  rw [List.mem_map]
  constructor
  · rintro ⟨k, hk, rfl⟩
    have := List.mem_range.1 hk
    dsimp only
    omega
  · rintro ⟨h1, h2, h3⟩
    refine ⟨(q.index - r.index).toNat, List.mem_range.2 (by omega), ?_⟩
    obtain ⟨a, b⟩ := q
    dsimp only at h1 h2 h3 ⊢
    rw [PL.mk.injEq]; omega
theorem inRun_iff {r : DR} {p : DP} : inRun r p = true ↔ plO p ∈ expand r := by
  rw [mem_expand]; simp [inRun, plO, and_assoc]
theorem chk_filter {l : List DP} (hc : chk l = 0) (f : DP → Bool) : chk (l.filter f) = 0 := by
  have h1 : (l.filter f).all okP = true := List.all_eq_true.2 fun p hp => List.all_eq_true.1 (chk_ok hc) p (List.mem_filter.1 hp).1
  have h2 : ((l.filter f).map plc).Nodup := (List.filter_sublist.map plc).nodup (chk_nodup hc)
  rw [chk, if_pos h1, if_pos h2]
theorem mem_getDR {R : List DR} {i : Nat} (h : i < R.length) : R.getD i dDR ∈ R := by
  rw [List.getD_eq_getElem?_getD, List.getElem?_eq_getElem h]; exact List.getElem_mem h
/-- what is known of the runs in either order -/
structure Whole (l : List DP) (R : List DR) : Prop where
  ok : chk l = 0
  good : ∀ x ∈ R, 0 ≤ x.file ∧ x.file < 4 ∧ 0 ≤ x.index ∧ 1 ≤ x.count ∧ x.index + x.count ≤ 16
  flat : (R.flatMap expand).Perm (allL l 4)
theorem whole_ord {l : List DP} {most : Int} (hc : chk l = 0) (hm : 1 ≤ most) (b : Bool) : Whole l (ord (⟨l, most⟩, b)) := by
  have h0 : Whole l (runsO ⟨l, most⟩) := ⟨hc, fun x hx => by
    have := runsInside hc hm hx
    omega, by rw [runs_flat hc hm]⟩
  unfold ord
  cases b with
  | false => exact h0
  | true => exact ⟨hc, fun x hx => h0.good x (List.mem_reverse.1 hx), ((List.reverse_perm _).flatMap_right expand).trans h0.flat⟩
def cut (l : List DP) (R : List DR) (i : Nat) : List DP := l.filter fun p => !(R.take i).any fun r => inRun r p
theorem Whole.at {l : List DP} {R : List DR} (w : Whole l R) {i : Nat} (hi : i < R.length) {q : PL} (hq : q ∈ expand (R.getD i dDR)) : ∃ p ∈ cut l R i, plO p = q := by
  have hx := mem_getDR hi
  have hall : q ∈ allL l 4 := (w.flat.mem_iff).1 (List.mem_flatMap.2 ⟨_, hx, hq⟩)
  obtain ⟨p, hp, he⟩ := List.mem_map.1 ((mem_places w.ok q).2 hall)
  refine ⟨p, List.mem_filter.2 ⟨hp, ?_⟩, he⟩
  rw [Bool.not_eq_true']
  rw [Bool.eq_false_iff]
  intro ha
  obtain ⟨r, hr, hin⟩ := List.any_eq_true.1 ha
  rw [inRun_iff, he] at hin
  have hnd : (R.flatMap expand).Nodup := w.flat.nodup_iff.2 ((allL_perm w.ok).nodup_iff.2 (places_nodup w.ok))
  have hsplit : R = R.take i ++ R.getD i dDR :: R.drop (i + 1) := by
    conv => lhs; rw [← List.take_append_drop i R]
    rw [List.drop_eq_getElem_cons hi, List.getD_eq_getElem?_getD, List.getElem?_eq_getElem hi]; rfl
  rw [hsplit, List.flatMap_append, List.flatMap_cons] at hnd
  exact (List.nodup_append.1 hnd).2.2 q (List.mem_flatMap.2 ⟨r, hr, hin⟩) q (List.mem_append.2 (.inl hq)) rfl
theorem Whole.wr {l : List DP} {R : List DR} (w : Whole l R) {i : Nat} (hi : i < R.length) : wrE ⟨cut l R i, R.getD i dDR⟩ = 0 := by
  obtain ⟨b1, b2, b3, b4, b5⟩ := w.good _ (mem_getDR hi)
  have hb : badRun (R.getD i dDR) = false := by
    unfold badRun
    simp only [Bool.or_eq_false_iff, decide_eq_false_iff_not]
    refine ⟨⟨⟨⟨⟨?_, ?_⟩, ?_⟩, ?_⟩, ?_⟩, ?_⟩ <;> omega
  have hh : hasRun (cut l R i) (R.getD i dDR) (R.getD i dDR).count.toNat := fun j hj => by
    obtain ⟨p, hp, he⟩ := w.at hi (q := ⟨(R.getD i dDR).file, (R.getD i dDR).index + j⟩) (mem_expand.2 ⟨rfl, by dsimp only; omega, by dsimp only; omega⟩)
    refine List.any_eq_true.2 ⟨p, hp, ?_⟩
    unfold plO at he
    rw [PL.mk.injEq] at he
    simp [isAt, he.1, he.2]
  unfold wrE
  dsimp only
  rw [if_pos (show chk (cut l R i) = 0 from chk_filter w.ok _), if_neg (by rw [hb]; decide), if_pos hh]
theorem Whole.next {l : List DP} {R : List DR} (w : Whole l R) {i : Nat} (hi : i < R.length) : wrO ⟨cut l R i, R.getD i dDR⟩ = cut l R (i + 1) := by
  rw [wrO, if_pos (w.wr hi)]
  unfold cut
  rw [List.filter_filter]
  refine List.filter_congr fun p _ => ?_
  rw [take_next R dDR hi, List.any_append, List.any_cons, List.any_nil, Bool.or_false, Bool.not_or, Bool.and_comm]
theorem Whole.less {l : List DP} {R : List DR} (w : Whole l R) {i : Nat} (hi : i < R.length) : (wrO ⟨cut l R i, R.getD i dDR⟩).length < (cut l R i).length := by
  obtain ⟨b1, b2, b3, b4, b5⟩ := w.good _ (mem_getDR hi)
  obtain ⟨p, hp, he⟩ := w.at hi (q := ⟨(R.getD i dDR).file, (R.getD i dDR).index⟩) (mem_expand.2 ⟨rfl, by dsimp only; omega, by dsimp only; omega⟩)
  rw [wrO, if_pos (w.wr hi)]
  refine List.length_filter_lt_length_iff_exists.2 ⟨p, hp, ?_⟩
  have : inRun (R.getD i dDR) p = true := inRun_iff.2 (by rw [he]; exact mem_expand.2 ⟨rfl, by dsimp only; omega, by dsimp only; omega⟩)
  rw [this]; decide
theorem Whole.done {l : List DP} {R : List DR} (w : Whole l R) : cut l R R.length = [] := by
  unfold cut
  rw [List.take_length, List.filter_eq_nil_iff]
  intro p hp
  have h1 : plO p ∈ allL l 4 := (mem_places w.ok _).1 (List.mem_map.2 ⟨p, hp, rfl⟩)
  obtain ⟨r, hr, hin⟩ := List.mem_flatMap.1 (w.flat.mem_iff.2 h1)
  have : (R.any fun r => inRun r p) = true := List.any_eq_true.2 ⟨r, hr, inRun_iff.2 hin⟩
  rw [this]; decide
theorem cut_len (l : List DP) (R : List DR) (i : Nat) : (cut l R i).length ≤ l.length := List.length_filter_le _ _
theorem cut_zero (l : List DP) (R : List DR) : cut l R 0 = l := by
  unfold cut; rw [List.take_zero]; exact List.filter_eq_self.2 fun _ _ => rfl
def rst (g : GRn × Bool) (i : Nat) : List DP := cut g.1.l (ord g) i
def sp24 : SX.Spec := roSpec GWr (fun g => [roP g.l, .agg (encDR g.r)]) (fun g => g.l.length ≤ 1000000000) dDP encDP wrO (fun g => I (wrE g))
theorem s24 : SpecOk P 24 sp24 := roSpec_ok (k := 3) sWWr (fun _ _ => rfl)
abbrev envE (tab : List (Nat × Con)) (loops : Loops) : Env := envS P encs tab 24 sp24 loops
def cEnds : Con := pureCon (GRn × Bool) Unit (fun g => [roP g.1.l, I g.1.most, Bo g.2]) (fun g => g.1.l.length ≤ 9223372036854775807 ∧ g.1.most ≤ 9223372036854775807) (fun _ _ => True) (fun _ _ => Bo true)
def lEnds (g : GRn × Bool) : Loops := loop1 0 { γ := Nat, slots := [50, 9], vals := fun _ i => [I i, roP (rst g i)], inv := fun i => i ≤ (ord g).length, μ := fun i => (ord g).length - i }
theorem vEnds_eq : (cEnds.body (fun g => envE [(21, cRuns), (10, cFew), (11, cAwake), (26, cCloneR), (27, cRev)] (lEnds g)) Try.f8) = (∀ (g : GRn × Bool), List.length (GRn.l (Prod.fst g)) ≤ (9223372036854775807 : Nat) ∧ GRn.most (Prod.fst g) ≤ (9223372036854775807 : Int) → ∃ (g_1 : GRn), (SV.ro DP dDP encDP (GRn.l
  (Prod.fst g)) = SV.ro DP dDP encDP (GRn.l g_1) ∧ SV.val (Value.int IntKind.i64 (GRn.most (Prod.fst g))) = SV.val (Value.int IntKind.i64 (GRn.most g_1))) ∧ True ∧ (List.length
  (GRn.l g_1) ≤ (9223372036854775807 : Nat) ∧ GRn.most g_1 ≤ (9223372036854775807 : Int)) ∧ ∀ (b : Unit), True → ∃ (g_2 : List DP), SV.ro DP dDP encDP (GRn.l (Prod.fst g)) = SV.ro DP
  dDP encDP g_2 ∧ True ∧ True ∧ ∀ (b : Unit), True → ((!decide ((↑(List.length g_2) : Int) ≤ (100 : Int))) = true → ((runsE g_1 != (0 : Int)) = true → ∃ (g : Unit), True ∧ True ∧
  True ∧ ∀ (b : Unit), True → ∃ (b : Unit), True ∧ SV.val (Value.bool true) = SV.val (Value.bool true) ∧ (0 : Nat) = (0 : Nat) ∧ True) ∧ ((runsE g_1 != (0 : Int)) = false → ∃ (g_3 :
  List DP), SV.ro DP dDP encDP (GRn.l (Prod.fst g)) = SV.ro DP dDP encDP g_3 ∧ True ∧ True ∧ ∀ (b : Unit), True → ((!decide ((↑(List.length g_3) : Int) ≤ (100 : Int))) = true → ∃ (g
  : Unit), True ∧ True ∧ True ∧ ∀ (b : Unit), True → ∃ (b : Unit), True ∧ SV.val (Value.bool true) = SV.val (Value.bool true) ∧ (0 : Nat) = (0 : Nat) ∧ True) ∧ ((!decide
  ((↑(List.length g_3) : Int) ≤ (100 : Int))) = false → ∃ (b : Unit), True ∧ true = false ∧ (0 : Nat) = (0 : Nat) ∧ True))) ∧ ((!decide ((↑(List.length g_2) : Int) ≤ (100 : Int))) =
  false → ((runsE g_1 != (0 : Int)) = true → ((runsE g_1 != (0 : Int)) = true → ∃ (g : Unit), True ∧ True ∧ True ∧ ∀ (b : Unit), True → ∃ (b : Unit), True ∧ SV.val (Value.bool true)
  = SV.val (Value.bool true) ∧ (0 : Nat) = (0 : Nat) ∧ True) ∧ ((runsE g_1 != (0 : Int)) = false → ∃ (g_3 : List DP), SV.ro DP dDP encDP (GRn.l (Prod.fst g)) = SV.ro DP dDP encDP g_3
  ∧ True ∧ True ∧ ∀ (b : Unit), True → ((!decide ((↑(List.length g_3) : Int) ≤ (100 : Int))) = true → ∃ (g : Unit), True ∧ True ∧ True ∧ ∀ (b : Unit), True → ∃ (b : Unit), True ∧
  SV.val (Value.bool true) = SV.val (Value.bool true) ∧ (0 : Nat) = (0 : Nat) ∧ True) ∧ ((!decide ((↑(List.length g_3) : Int) ≤ (100 : Int))) = false → ∃ (b : Unit), True ∧ true =
  false ∧ (0 : Nat) = (0 : Nat) ∧ True))) ∧ ((runsE g_1 != (0 : Int)) = false → (decide ((↑(List.length (runsO g_1)) : Int) > (64 : Int)) = true → ((runsE g_1 != (0 : Int)) = true →
  ∃ (g : Unit), True ∧ True ∧ True ∧ ∀ (b : Unit), True → ∃ (b : Unit), True ∧ SV.val (Value.bool true) = SV.val (Value.bool true) ∧ (0 : Nat) = (0 : Nat) ∧ True) ∧ ((runsE g_1 != (0
  : Int)) = false → ∃ (g_3 : List DP), SV.ro DP dDP encDP (GRn.l (Prod.fst g)) = SV.ro DP dDP encDP g_3 ∧ True ∧ True ∧ ∀ (b : Unit), True → ((!decide ((↑(List.length g_3) : Int) ≤
  (100 : Int))) = true → ∃ (g : Unit), True ∧ True ∧ True ∧ ∀ (b : Unit), True → ∃ (b : Unit), True ∧ SV.val (Value.bool true) = SV.val (Value.bool true) ∧ (0 : Nat) = (0 : Nat) ∧
  True) ∧ ((!decide ((↑(List.length g_3) : Int) ≤ (100 : Int))) = false → ∃ (b : Unit), True ∧ true = false ∧ (0 : Nat) = (0 : Nat) ∧ True))) ∧ (decide ((↑(List.length (runsO g_1)) :
  Int) > (64 : Int)) = false → (Prod.snd g = true → ∃ (g_3 : List DR), ((0 : Nat) + List.length (runsO g_1) ≤ List.length (runsO g_1) ∧ SV.ro DR dDR encDR (List.take (List.length
  (runsO g_1)) (List.drop (0 : Nat) (runsO g_1))) = SV.ro DR dDR encDR g_3) ∧ True ∧ List.length g_3 ≤ (1000000000 : Nat) ∧ ∀ (b : Unit), True → ∃ (g_4 : List DR), ((3 : Nat) = (3 :
  Nat) ∧ (0 : Nat) = (0 : Nat) ∧ List.length g_3 = List.length g_4) ∧ some (LB.arr DR dDR encDR g_3) = some (LB.arr DR dDR encDR g_4) ∧ List.length g_4 ≤ (1000000000 : Nat) ∧ ∀ (b :
  Unit), True → (∃ (g_5 : Nat), g_5 ≤ List.length (ord g) ∧ ((0 : Int) = (↑g_5 : Int) ∧ SV.ro DP dDP encDP (GRn.l (Prod.fst g)) = SV.ro DP dDP encDP (rst g g_5)) ∧ True ∧ LB.arr DR
  dDR encDR (runsO g_1) = LB.arr DR dDR encDR (runsO g_1) ∧ LB.arr DR dDR encDR (List.reverse g_4) = LB.arr DR dDR encDR (List.reverse g_4) ∧ True) ∧ ∀ (g_5 : Nat), g_5 ≤ List.length
  (ord g) → (decide ((↑g_5 : Int) < (↑(List.length g_3) : Int)) = true → ((0 : Int) ≤ (↑g_5 : Int) ∧ (↑g_5 : Int) < (↑(List.length g_3) : Int)) ∧ (0 : Nat) + Int.toNat (↑g_5 : Int) <
  List.length (List.reverse g_4) ∧ ∃ (g_6 : GWr), (SV.ro DP dDP encDP (rst g g_5) = SV.ro DP dDP encDP (GWr.l g_6) ∧ SV.val (Value.int IntKind.i64 (DR.file (List.getD (List.reverse
  g_4) ((0 : Nat) + Int.toNat (↑g_5 : Int)) dDR))) = SV.val (Value.int IntKind.i64 (DR.file (GWr.r g_6))) ∧ SV.val (Value.int IntKind.i64 (DR.index (List.getD (List.reverse g_4) ((0
  : Nat) + Int.toNat (↑g_5 : Int)) dDR))) = SV.val (Value.int IntKind.i64 (DR.index (GWr.r g_6))) ∧ SV.val (Value.int IntKind.i64 (DR.count (List.getD (List.reverse g_4) ((0 : Nat) +
  Int.toNat (↑g_5 : Int)) dDR))) = SV.val (Value.int IntKind.i64 (DR.count (GWr.r g_6))) ∧ True) ∧ List.length (GWr.l g_6) ≤ (1000000000 : Nat) ∧ ((wrE g_6 != (0 : Int)) = true → ∃
  (b : Unit), True ∧ true = false ∧ (0 : Nat) = (0 : Nat) ∧ True) ∧ ((wrE g_6 != (0 : Int)) = false → (decide ((↑(List.length (wrO g_6)) : Int) ≥ (↑(List.length (rst g g_5)) : Int))
  = true → ∃ (b : Unit), True ∧ true = false ∧ (0 : Nat) = (0 : Nat) ∧ True) ∧ (decide ((↑(List.length (wrO g_6)) : Int) ≥ (↑(List.length (rst g g_5)) : Int)) = false → inK
  IntKind.i64 ((↑g_5 : Int) + (1 : Int)) ∧ ∃ (g' : Nat), g' ≤ List.length (ord g) ∧ List.length (ord g) - g' < List.length (ord g) - g_5 ∧ ((↑g_5 : Int) + (1 : Int) = (↑g' : Int) ∧
  SV.ro DP dDP encDP (wrO g_6) = SV.ro DP dDP encDP (rst g g')) ∧ True ∧ LB.arr DR dDR encDR (runsO g_1) = LB.arr DR dDR encDR (runsO g_1) ∧ LB.arr DR dDR encDR (List.reverse g_4) =
  LB.arr DR dDR encDR (List.reverse g_4) ∧ True))) ∧ (decide ((↑g_5 : Int) < (↑(List.length g_3) : Int)) = false → (((↑(List.length (rst g g_5)) : Int) == (0 : Int)) = true → ∃ (g :
  Unit), True ∧ True ∧ True ∧ ∀ (b : Unit), True → ∃ (b : Unit), True ∧ SV.val (Value.bool true) = SV.val (Value.bool true) ∧ (0 : Nat) = (0 : Nat) ∧ True) ∧ (((↑(List.length (rst g
  g_5)) : Int) == (0 : Int)) = false → ∃ (b : Unit), True ∧ true = false ∧ (0 : Nat) = (0 : Nat) ∧ True))) ∧ (Prod.snd g = false → (∃ (g_3 : Nat), g_3 ≤ List.length (ord g) ∧ ((0 :
  Int) = (↑g_3 : Int) ∧ SV.ro DP dDP encDP (GRn.l (Prod.fst g)) = SV.ro DP dDP encDP (rst g g_3)) ∧ True ∧ LB.arr DR dDR encDR (runsO g_1) = LB.arr DR dDR encDR (runsO g_1) ∧ True) ∧
  ∀ (g_3 : Nat), g_3 ≤ List.length (ord g) → (decide ((↑g_3 : Int) < (↑(List.length (runsO g_1)) : Int)) = true → ((0 : Int) ≤ (↑g_3 : Int) ∧ (↑g_3 : Int) < (↑(List.length (runsO
  g_1)) : Int)) ∧ (0 : Nat) + Int.toNat (↑g_3 : Int) < List.length (runsO g_1) ∧ ∃ (g_4 : GWr), (SV.ro DP dDP encDP (rst g g_3) = SV.ro DP dDP encDP (GWr.l g_4) ∧ SV.val (Value.int
  IntKind.i64 (DR.file (List.getD (runsO g_1) ((0 : Nat) + Int.toNat (↑g_3 : Int)) dDR))) = SV.val (Value.int IntKind.i64 (DR.file (GWr.r g_4))) ∧ SV.val (Value.int IntKind.i64
  (DR.index (List.getD (runsO g_1) ((0 : Nat) + Int.toNat (↑g_3 : Int)) dDR))) = SV.val (Value.int IntKind.i64 (DR.index (GWr.r g_4))) ∧ SV.val (Value.int IntKind.i64 (DR.count
  (List.getD (runsO g_1) ((0 : Nat) + Int.toNat (↑g_3 : Int)) dDR))) = SV.val (Value.int IntKind.i64 (DR.count (GWr.r g_4))) ∧ True) ∧ List.length (GWr.l g_4) ≤ (1000000000 : Nat) ∧
  ((wrE g_4 != (0 : Int)) = true → ∃ (b : Unit), True ∧ true = false ∧ (0 : Nat) = (0 : Nat) ∧ True) ∧ ((wrE g_4 != (0 : Int)) = false → (decide ((↑(List.length (wrO g_4)) : Int) ≥
  (↑(List.length (rst g g_3)) : Int)) = true → ∃ (b : Unit), True ∧ true = false ∧ (0 : Nat) = (0 : Nat) ∧ True) ∧ (decide ((↑(List.length (wrO g_4)) : Int) ≥ (↑(List.length (rst g
  g_3)) : Int)) = false → inK IntKind.i64 ((↑g_3 : Int) + (1 : Int)) ∧ ∃ (g' : Nat), g' ≤ List.length (ord g) ∧ List.length (ord g) - g' < List.length (ord g) - g_3 ∧ ((↑g_3 : Int) +
  (1 : Int) = (↑g' : Int) ∧ SV.ro DP dDP encDP (wrO g_4) = SV.ro DP dDP encDP (rst g g')) ∧ True ∧ LB.arr DR dDR encDR (runsO g_1) = LB.arr DR dDR encDR (runsO g_1) ∧ True))) ∧
  (decide ((↑g_3 : Int) < (↑(List.length (runsO g_1)) : Int)) = false → (((↑(List.length (rst g g_3)) : Int) == (0 : Int)) = true → ∃ (g : Unit), True ∧ True ∧ True ∧ ∀ (b : Unit),
  True → ∃ (b : Unit), True ∧ SV.val (Value.bool true) = SV.val (Value.bool true) ∧ (0 : Nat) = (0 : Nat) ∧ True) ∧ (((↑(List.length (rst g g_3)) : Int) == (0 : Int)) = false → ∃ (b
  : Unit), True ∧ true = false ∧ (0 : Nat) = (0 : Nat) ∧ True))))))) := by kernel_rfl
theorem vEnds : cEnds.body (fun g => envE [(21, cRuns), (10, cFew), (11, cAwake), (26, cCloneR), (27, cRev)] (lEnds g)) Try.f8 := by
  rw [vEnds_eq]
  rintro ⟨⟨l, most⟩, back⟩ ⟨hl, hm⟩
  dsimp only at hl hm ⊢
  have aw : ∃ (g : Unit), True ∧ True ∧ True ∧ ∀ (b : Unit), True → ∃ (b : Unit), True ∧ SV.val (Value.bool true) = SV.val (Value.bool true) ∧ (0 : Nat) = (0 : Nat) ∧ True := ⟨(), trivial, trivial, trivial, fun _ _ => ⟨(), trivial, rfl, rfl, trivial⟩⟩
  refine ⟨⟨l, most⟩, ⟨rfl, rfl⟩, trivial, ⟨hl, hm⟩, fun _ _ => ⟨l, rfl, trivial, trivial, fun _ _ => ⟨fun hnf => ⟨fun _ => aw, fun _ => ⟨l, rfl, trivial, trivial, fun _ _ => ⟨fun _ => aw, fun h => ?_⟩⟩⟩, fun hf => ⟨fun he => ⟨fun _ => aw, fun h => ?_⟩, fun he => ?_⟩⟩⟩⟩
  · rw [hnf] at h; cases h
  · rw [he] at h; cases h
  have h64 := runsO_len ⟨l, most⟩
  have he : runsE ⟨l, most⟩ = 0 := by simpa using he
  have hc : chk l = 0 := by
    by_cases h : chk l = 0
    · exact h
    · rw [runsE, if_neg h] at he; exact absurd he h
  have hm1 : 1 ≤ most := by
    by_cases h : most < 1
    · rw [runsE, if_pos hc, if_pos h] at he; cases he
    · omega
  have hl64 := chk_len hc
  have hmost : ¬ ((runsO ⟨l, most⟩).length : Int) > 64 := by omega
  refine ⟨fun h => absurd (of_decide_eq_true h) hmost, fun _ => ⟨fun hb => ?_, fun hb => ?_⟩⟩
  · subst hb
    have w := whole_ord hc hm1 true
    have ho : ord (⟨l, most⟩, true) = (runsO ⟨l, most⟩).reverse := rfl
    have hrl : (ord (⟨l, most⟩, true)).length = (runsO ⟨l, most⟩).length := by rw [ho, List.length_reverse]
    refine ⟨runsO ⟨l, most⟩, ⟨le0 _, roTR _⟩, trivial, by omega, fun _ _ => ⟨runsO ⟨l, most⟩, ⟨rfl, rfl, rfl⟩, rfl, by omega, fun _ _ => ⟨⟨0, Nat.zero_le _, ⟨rfl, by rw [rst, cut_zero]⟩, trivial, rfl, rfl, trivial⟩, fun i hi => ⟨fun hlt => ?_, fun hge => ?_⟩⟩⟩⟩
    · have hlt : (i : Int) < (runsO ⟨l, most⟩).length := of_decide_eq_true hlt
      have hi' : i < (ord (⟨l, most⟩, true)).length := by omega
      rw [← ho]
      simp only [Nat.zero_add, Int.toNat_natCast]
      have hcl := cut_len l (ord (⟨l, most⟩, true)) i
      refine ⟨⟨by omega, hlt⟩, hi', ⟨rst (⟨l, most⟩, true) i, (ord (⟨l, most⟩, true)).getD i dDR⟩, ⟨by trivial, by trivial, by trivial, by trivial, by trivial⟩, Nat.le_trans hcl (by show l.length ≤ _; omega), fun h => ?_, fun _ => ⟨fun h => ?_, fun _ => ⟨inI (by omega) (by omega), i + 1, hi', by omega, ⟨by omega, ?_⟩, by trivial, by trivial, by trivial, by trivial⟩⟩⟩
      · rw [show wrE ⟨rst (⟨l, most⟩, true) i, (ord (⟨l, most⟩, true)).getD i dDR⟩ = 0 from w.wr hi'] at h; cases h
      · have h := of_decide_eq_true h
        have h2 : (wrO ⟨rst (⟨l, most⟩, true) i, (ord (⟨l, most⟩, true)).getD i dDR⟩).length < (rst (⟨l, most⟩, true) i).length := w.less hi'
        omega
      · exact congrArg (SV.ro DP dDP encDP) (w.next hi')
    · have hge : ¬ (i : Int) < (runsO ⟨l, most⟩).length := of_decide_eq_false hge
      obtain rfl : i = (ord (⟨l, most⟩, true)).length := by omega
      have hd : rst (⟨l, most⟩, true) (ord (⟨l, most⟩, true)).length = [] := w.done
      rw [hd]
      exact ⟨fun _ => aw, fun h => by cases h⟩
  · subst hb
    have w := whole_ord hc hm1 false
    have ho : ord (⟨l, most⟩, false) = runsO ⟨l, most⟩ := rfl
    have hrl : (ord (⟨l, most⟩, false)).length = (runsO ⟨l, most⟩).length := by rw [ho]
    refine ⟨⟨0, Nat.zero_le _, ⟨rfl, by rw [rst, cut_zero]⟩, trivial, rfl, trivial⟩, fun i hi => ⟨fun hlt => ?_, fun hge => ?_⟩⟩
    · have hlt : (i : Int) < (runsO ⟨l, most⟩).length := of_decide_eq_true hlt
      have hi' : i < (ord (⟨l, most⟩, false)).length := by omega
      rw [← ho]
      simp only [Nat.zero_add, Int.toNat_natCast]
      have hcl := cut_len l (ord (⟨l, most⟩, false)) i
      refine ⟨⟨by omega, hlt⟩, hi', ⟨rst (⟨l, most⟩, false) i, (ord (⟨l, most⟩, false)).getD i dDR⟩, ⟨by trivial, by trivial, by trivial, by trivial, by trivial⟩, Nat.le_trans hcl (by show l.length ≤ _; omega), fun h => ?_, fun _ => ⟨fun h => ?_, fun _ => ⟨inI (by omega) (by omega), i + 1, hi', by omega, ⟨by omega, ?_⟩, by trivial, by trivial, by trivial⟩⟩⟩
      · rw [show wrE ⟨rst (⟨l, most⟩, false) i, (ord (⟨l, most⟩, false)).getD i dDR⟩ = 0 from w.wr hi'] at h; cases h
      · have h := of_decide_eq_true h
        have h2 : (wrO ⟨rst (⟨l, most⟩, false) i, (ord (⟨l, most⟩, false)).getD i dDR⟩).length < (rst (⟨l, most⟩, false) i).length := w.less hi'
        omega
      · exact congrArg (SV.ro DP dDP encDP) (w.next hi')
    · have hge : ¬ (i : Int) < (runsO ⟨l, most⟩).length := of_decide_eq_false hge
      obtain rfl : i = (ord (⟨l, most⟩, false)).length := by omega
      have hd : rst (⟨l, most⟩, false) (ord (⟨l, most⟩, false)).length = [] := w.done
      rw [hd]
      exact ⟨fun _ => aw, fun h => by cases h⟩
theorem sEnds : SpecOk P 8 cEnds.spec := spec_ofS cEnds (tab_cons sWRuns (tab_cons sFew (tab_cons sAwake (tab_cons sCloneR (tab_cons sRev (tab_nil P)))))) s24 roSpec_mono mixed (fn := Try.f8) (by kernel_rfl) (by kernel_rfl) (by kernel_rfl) (Nat.zero_le _) (noIns fun _ => rfl) vEnds
end Go.WbW
