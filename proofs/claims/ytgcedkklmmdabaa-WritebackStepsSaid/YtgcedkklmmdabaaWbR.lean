/- A PART OF THE PROOF. NO CONDITION. -/
import Derived.Test.YtgcedkklmmdabaaWbO
import Derived.Test.YtgcedkklmmdabaaSxAD
noncomputable section
set_option linter.unusedVariables false
set_option linter.unusedVariables false
set_option linter.unusedSimpArgs false
namespace Go.Wb
open Go.Proofs Go.SX
set_option maxRecDepth 100000
def c43 : Con := newCon (List PL × Int) Unit (fun g => [.clo 53 [bxL g.1, bxI g.2]]) (fun g => okS g.1 g.2) (fun _ _ => True) (fun g _ => .sl 0 3 0 (chR g.1 g.2).length) (fun g _ => .arr DR dDR encDR (chR g.1 g.2))
theorem v43_eq : (c43.body (fun g => env [(52, c52)] (noLoops g)) Try.f43) = (∀ (g : List PL × Int), okS (Prod.fst g) (Prod.snd g) → ∃ (g_1 : List PL × Int), (SV.val (Value.slice none (0 : Nat) (0 : Nat)) = SV.val (Value.slice none (0 : Nat) (0 : Nat)) ∧ (53
  : Nat) = (53 : Nat) ∧ SV.rop (List PL) [] encBox [Prod.fst g] (0 : Nat) (0 : Nat) = SV.rop (List PL) [] encBox [Prod.fst g_1] (0 : Nat) (0 : Nat) ∧ SV.rop Int (0 : Int) encI
  [Prod.snd g] (0 : Nat) (0 : Nat) = SV.rop Int (0 : Int) encI [Prod.snd g_1] (0 : Nat) (0 : Nat) ∧ True) ∧ True ∧ okS (Prod.fst g_1) (Prod.snd g_1) ∧ ∀ (b : Unit), True → ∃ (b :
  Unit), True ∧ ((SV.sl (24 : Nat) (3 : Nat) (0 : Nat) (List.length (chR (Prod.fst g_1) (Prod.snd g_1))) = SV.sl (24 : Nat) (3 : Nat) (0 : Nat) (List.length (chR (Prod.fst g_1)
  (Prod.snd g_1))) ∧ (0 : Nat) = (0 : Nat) ∧ (3 : Nat) = (3 : Nat) ∧ List.length (chR (Prod.fst g_1) (Prod.snd g_1)) = List.length (chR (Prod.fst g) (Prod.snd g))) ∧ (∀ (x : DR),
  allFlat (encDR x) = true) ∧ (0 : Nat) + List.length (chR (Prod.fst g_1) (Prod.snd g_1)) ≤ List.length (chR (Prod.fst g_1) (Prod.snd g_1)) ∧ LB.arr DR dDR encDR (List.take
  (List.length (chR (Prod.fst g_1) (Prod.snd g_1))) (List.drop (0 : Nat) (chR (Prod.fst g_1) (Prod.snd g_1)))) = LB.arr DR dDR encDR (chR (Prod.fst g) (Prod.snd g))) ∧ (0 : Nat) = (0
  : Nat) ∧ True) := by kernel_rfl
def plO (p : DP) : PL := ⟨p.file, p.index⟩
def lWRuns (g : GRn) : Loops := loop1 0 { γ := Nat, slots := [19, 7], vals := fun b i => [I i, .sl b 2 0 i], rekey := [7], blks := fun b i => [(b, .arr PL dPL encPL ((g.l.take i).map plO))], inv := fun i => i ≤ g.l.length, μ := fun i => g.l.length - i }
abbrev envR (tab : List (Nat × Con)) (loops : Loops) : Env := envS P encs tab 44 sp44 loops
theorem vWRuns_eq : (cRuns.body (fun g => envR [(14, cWCheck), (34, cAt), (39, cSortP), (43, c43)] (lWRuns g)) Try.f21) = (∀ (g : GRn), List.length (GRn.l g) ≤ (1000000000 : Nat) ∧ GRn.most g ≤ (9223372036854775807 : Int) → ∃ (g_1 : List DP), SV.ro DP dDP encDP (GRn.l g) = SV.ro DP dDP encDP g_1 ∧ True
  ∧ List.length g_1 ≤ (1000000000 : Nat) ∧ ∀ (b : Unit), True → ((chk g_1 != (0 : Int)) = true → ∃ (b : Unit), True ∧ (((SV.val (Value.slice none (0 : Nat) (0 : Nat)) = SV.val
  (Value.slice none (0 : Nat) (0 : Nat)) ∧ (0 : Nat) = (0 : Nat) ∧ List.length (runsO g) = (0 : Nat)) ∧ SV.val (Value.int IntKind.i64 (chk g_1)) = SV.val (Value.int IntKind.i64
  (runsE g))) ∧ (∀ (x : DR), allFlat (encDR x) = true) ∧ runsO g = [] ∧ ∀ (x : DR), (3 : Nat) = (3 : Nat) ∧ allOne (encDR x) = true) ∧ (0 : Nat) = (0 : Nat) ∧ True) ∧ ((chk g_1 != (0
  : Int)) = false → (decide (GRn.most g < (1 : Int)) = true → ∃ (b : Unit), True ∧ (((SV.val (Value.slice none (0 : Nat) (0 : Nat)) = SV.val (Value.slice none (0 : Nat) (0 : Nat)) ∧
  (0 : Nat) = (0 : Nat) ∧ List.length (runsO g) = (0 : Nat)) ∧ SV.val (Value.int IntKind.i64 (2 : Int)) = SV.val (Value.int IntKind.i64 (runsE g))) ∧ (∀ (x : DR), allFlat (encDR x) =
  true) ∧ runsO g = [] ∧ ∀ (x : DR), (3 : Nat) = (3 : Nat) ∧ allOne (encDR x) = true) ∧ (0 : Nat) = (0 : Nat) ∧ True) ∧ (decide (GRn.most g < (1 : Int)) = false → (∃ (g_2 : Nat), g_2
  ≤ List.length (GRn.l g) ∧ ((0 : Int) = (↑g_2 : Int) ∧ (0 : Nat) = (0 : Nat) ∧ g_2 = (0 : Nat)) ∧ ((List.map plO (List.take g_2 (GRn.l g)) = [] ∧ ∀ (x : PL), (2 : Nat) = (2 : Nat) ∧
  allOne (encPL x) = true) ∧ True) ∧ True) ∧ ∀ (g_2 : Nat), g_2 ≤ List.length (GRn.l g) → (decide ((↑g_2 : Int) < (↑(List.length (GRn.l g)) : Int)) = true → ((0 : Int) ≤ (↑g_2 : Int)
  ∧ (↑g_2 : Int) < (↑(List.length (GRn.l g)) : Int)) ∧ Int.toNat (↑g_2 : Int) < List.length (GRn.l g) ∧ ∃ (g_3 : DP), (SV.val (Value.int IntKind.i64 (DP.file (List.getD (GRn.l g)
  (Int.toNat (↑g_2 : Int)) dDP))) = SV.val (Value.int IntKind.i64 (DP.file g_3)) ∧ SV.val (Value.int IntKind.i64 (DP.index (List.getD (GRn.l g) (Int.toNat (↑g_2 : Int)) dDP))) =
  SV.val (Value.int IntKind.i64 (DP.index g_3)) ∧ SV.val (Value.int IntKind.i64 (DP.since (List.getD (GRn.l g) (Int.toNat (↑g_2 : Int)) dDP))) = SV.val (Value.int IntKind.i64
  (DP.since g_3)) ∧ True) ∧ True ∧ True ∧ ∀ (b : Unit), True → (0 : Nat) + g_2 ≤ List.length (List.map plO (List.take g_2 (GRn.l g))) ∧ ∃ (ys : List PL), [[SV.val (Value.int
  IntKind.i64 (DP.file g_3)), SV.val (Value.int IntKind.i64 (DP.index g_3))]] = List.map encPL ys ∧ (g_2 + List.length ys) * (16 : Nat) ≤ (140737488355328 : Nat) ∧ inK IntKind.i64
  ((↑g_2 : Int) + (1 : Int)) ∧ ∃ (g' : Nat), g' ≤ List.length (GRn.l g) ∧ List.length (GRn.l g) - g' < List.length (GRn.l g) - g_2 ∧ ((↑g_2 : Int) + (1 : Int) = (↑g' : Int) ∧ (2 :
  Nat) = (2 : Nat) ∧ (0 : Nat) = (0 : Nat) ∧ g_2 + List.length ys = g') ∧ (LB.arr PL dPL encPL (List.take g_2 (List.drop (0 : Nat) (List.map plO (List.take g_2 (GRn.l g)))) ++ ys) =
  LB.arr PL dPL encPL (List.map plO (List.take g' (GRn.l g))) ∧ True) ∧ True) ∧ (decide ((↑g_2 : Int) < (↑(List.length (GRn.l g)) : Int)) = false → ∃ (g_3 : List PL), (((2 : Nat) =
  (2 : Nat) ∧ (0 : Nat) = (0 : Nat) ∧ g_2 = List.length g_3) ∧ (40 : Nat) = (40 : Nat) ∧ True) ∧ some (LB.arr PL dPL encPL (List.map plO (List.take g_2 (GRn.l g)))) = some (LB.arr PL
  dPL encPL g_3) ∧ List.length g_3 < (4611686018427387904 : Nat) ∧ ∀ (b : List PL), List.Perm b g_3 ∧ List.Pairwise (fun (x y : PL) => ¬compareP y x < (0 : Int)) b → ∃ (l : List PL),
  LB.arr PL dPL encPL b = LB.arr PL dPL encPL l ∧ ((2 : Nat) = (2 : Nat) ∧ (0 : Nat) = (0 : Nat) ∧ g_2 = List.length l) ∧ ∃ (g_4 : List PL × Int), ((53 : Nat) = (53 : Nat) ∧ SV.rop
  (List PL) [] encBox [l] (0 : Nat) (0 : Nat) = SV.rop (List PL) [] encBox [Prod.fst g_4] (0 : Nat) (0 : Nat) ∧ SV.rop Int (0 : Int) encI [GRn.most g] (0 : Nat) (0 : Nat) = SV.rop
  Int (0 : Int) encI [Prod.snd g_4] (0 : Nat) (0 : Nat) ∧ True) ∧ True ∧ okS (Prod.fst g_4) (Prod.snd g_4) ∧ ∀ (b : Unit), True → ∃ (b : Unit), True ∧ (((SV.sl (161 : Nat) (3 : Nat)
  (0 : Nat) (List.length (chR (Prod.fst g_4) (Prod.snd g_4))) = SV.sl (161 : Nat) (3 : Nat) (0 : Nat) (List.length (chR (Prod.fst g_4) (Prod.snd g_4))) ∧ (0 : Nat) = (0 : Nat) ∧ (3 :
  Nat) = (3 : Nat) ∧ List.length (chR (Prod.fst g_4) (Prod.snd g_4)) = List.length (runsO g)) ∧ SV.val (Value.int IntKind.i64 (0 : Int)) = SV.val (Value.int IntKind.i64 (runsE g))) ∧
  (∀ (x : DR), allFlat (encDR x) = true) ∧ (0 : Nat) + List.length (chR (Prod.fst g_4) (Prod.snd g_4)) ≤ List.length (chR (Prod.fst g_4) (Prod.snd g_4)) ∧ LB.arr DR dDR encDR
  (List.take (List.length (chR (Prod.fst g_4) (Prod.snd g_4))) (List.drop (0 : Nat) (chR (Prod.fst g_4) (Prod.snd g_4)))) = LB.arr DR dDR encDR (runsO g)) ∧ (0 : Nat) = (0 : Nat) ∧
  True)))) := by kernel_rfl

theorem v43 : c43.body (fun g => env [(52, c52)] (noLoops g)) Try.f43 := by
  rw [v43_eq]
  intro g hg
  exact ⟨g, ⟨rfl, rfl, rfl, rfl, trivial⟩, trivial, hg, fun _ _ => ⟨(), trivial, ⟨⟨rfl, rfl, rfl, rfl⟩, flDR, by omega, by rw [List.drop_zero, List.take_length]⟩, rfl, trivial⟩⟩
theorem s43 : SpecOk P 43 c43.spec := spec_of c43 (tab_cons s52 (tab_nil P)) mixed (fn := Try.f43) (by kernel_rfl) (by kernel_rfl) (by kernel_rfl) (Nat.zero_le _) (noIns fun _ => rfl) v43

/-! the sorted places, and the runs out of them -/
def ltP (a b : PL) : Prop := a.file < b.file ∨ (a.file = b.file ∧ a.index < b.index)
theorem strict_unique {α : Type} {r : α → α → Prop} (asym : ∀ a b, r a b → ¬ r b a) : ∀ {A B : List α}, A.Pairwise r → B.Pairwise r → (∀ x, x ∈ A ↔ x ∈ B) → A = B
  | [], [], _, _, _ => rfl
  | [], b :: B, _, _, h => by have := (h b).2 (by simp); cases this
  | a :: A, [], _, _, h => by have := (h a).1 (by simp); cases this
  | a :: A, b :: B, hA, hB, h => by
    rw [List.pairwise_cons] at hA hB
    have irr : ∀ x, ¬ r x x := fun x hx => asym x x hx hx
    have hab : a = b := by
      rcases List.mem_cons.1 ((h a).1 (by simp)) with e | h1
      · exact e
      rcases List.mem_cons.1 ((h b).2 (by simp)) with e | h2
      · exact e.symm
      exact absurd (hA.1 b h2) (asym b a (hB.1 a h1))
    subst hab
    rw [strict_unique asym hA.2 hB.2 fun x => ⟨fun hx => ?_, fun hx => ?_⟩]
    · rcases List.mem_cons.1 ((h x).1 (List.mem_cons_of_mem _ hx)) with e | h'
      · subst e; exact absurd (hA.1 x hx) (irr x)
      · exact h'
    · rcases List.mem_cons.1 ((h x).2 (List.mem_cons_of_mem _ hx)) with e | h'
      · subst e; exact absurd (hB.1 x hx) (irr x)
      · exact h'
theorem Lf_sorted (H : Nat → Bool) (f : Int) (c : Nat) : (Lf H f c).Pairwise ltP := by
  unfold Lf
  rw [List.pairwise_map]
  refine List.Pairwise.filter _ ?_
  refine (List.pairwise_lt_range' (s := c) (n := 16 - c)).imp fun {a b} h => ?_
  exact .inr ⟨rfl, by simp only; omega⟩
def allL (l : List DP) : Nat → List PL
  | 0 => []
  | k + 1 => Lf (H l ((3 - k : Nat) : Int)) ((3 - k : Nat) : Int) 0 ++ allL l k
theorem allL_mem (l : List DP) : ∀ (k : Nat), k ≤ 4 → ∀ x, x ∈ allL l k ↔ (4 - (k : Int) ≤ x.file ∧ x.file < 4 ∧ ∃ j : Nat, x.index = j ∧ j < 16 ∧ has l x.file j = true)
  | 0, _, x => by simp only [allL, List.not_mem_nil, false_iff]; omega
  | k + 1, hk, x => by
    rw [allL, List.mem_append, allL_mem l k (by omega) x, Lf_mem]
    constructor
    · rintro (⟨h1, j, h2, h3, h4, h5⟩ | ⟨h1, h2, h3⟩)
      · refine ⟨by omega, by omega, j, h2, h4, ?_⟩
        rw [h1]; exact h5
      · exact ⟨by omega, h2, h3⟩
    · rintro ⟨h1, h2, j, h3, h4, h5⟩
      by_cases he : x.file = ((3 - k : Nat) : Int)
      · refine .inl ⟨he, j, h3, by omega, h4, ?_⟩
        rw [he] at h5; exact h5
      · exact .inr ⟨by omega, h2, j, h3, h4, h5⟩
theorem allL_sorted (l : List DP) : ∀ (k : Nat), k ≤ 4 → (allL l k).Pairwise ltP
  | 0, _ => List.Pairwise.nil
  | k + 1, hk => by
    rw [allL, List.pairwise_append]
    refine ⟨Lf_sorted _ _ _, allL_sorted l k (by omega), fun a ha b hb => .inl ?_⟩
    have h1 := (Lf_mem.1 ha).1
    have h2 := ((allL_mem l k (by omega) b).1 hb).1
    omega
theorem mem_places {l : List DP} (hc : chk l = 0) (x : PL) : x ∈ l.map plO ↔ x ∈ allL l 4 := by
  rw [allL_mem l 4 (Nat.le_refl _), List.mem_map]
  have hok : ∀ p ∈ l, 0 ≤ p.file ∧ p.file < 4 ∧ 0 ≤ p.index ∧ p.index < 16 ∧ 0 ≤ p.since := fun p hp => okP_iff.1 (List.all_eq_true.1 (chk_ok hc) p hp)
  constructor
  · rintro ⟨p, hp, rfl⟩
    obtain ⟨h1, h2, h3, h4, _⟩ := hok p hp
    refine ⟨by simp only [plO]; omega, h2, p.index.toNat, by simp only [plO]; omega, by omega, ?_⟩
    unfold has
    rw [List.any_eq_true]
    refine ⟨p, hp, ?_⟩
    unfold isAt
    simp only [Bool.and_eq_true, decide_eq_true_eq, plO]
    exact ⟨trivial, by show p.index = (p.index.toNat : Int); omega⟩
  · rintro ⟨_, _, j, h1, _, h2⟩
    unfold has at h2
    rw [List.any_eq_true] at h2
    obtain ⟨p, hp, h3⟩ := h2
    unfold isAt at h3
    simp only [Bool.and_eq_true, decide_eq_true_eq] at h3
    refine ⟨p, hp, ?_⟩
    obtain ⟨a, b⟩ := x
    simp only [plO]
    simp only at h1 h3
    rw [h3.1, h3.2, h1]
theorem places_nodup {l : List DP} (hc : chk l = 0) : (l.map plO).Nodup := by
  have h := chk_nodup hc
  rw [List.Nodup, List.pairwise_map] at h ⊢
  exact h.imp fun {a b} hne e => hne (by unfold plc; simp only [plO, PL.mk.injEq] at e; rw [e.1, e.2])
theorem sorted_places {l : List DP} {S : List PL} (hc : chk l = 0) (hp : S.Perm (l.map plO)) (hs : S.Pairwise fun x y => ¬ compareP y x < 0) : S = allL l 4 := by
  have hnd : S.Nodup := hp.nodup_iff.2 (places_nodup hc)
  have hst : S.Pairwise ltP := by
    refine (List.pairwise_and_iff.2 ⟨hs, hnd⟩).imp fun {a b} ⟨h1, h2⟩ => ?_
    rw [compareP_lt] at h1
    obtain ⟨a1, a2⟩ := a
    obtain ⟨b1, b2⟩ := b
    have h2 : ¬ (a1 = b1 ∧ a2 = b2) := fun e => h2 (by rw [e.1, e.2])
    unfold ltP
    simp only at h1 ⊢
    omega
  refine strict_unique (fun a b h h' => by unfold ltP at h h'; omega) hst (allL_sorted l 4 (Nat.le_refl _)) fun x => ?_
  rw [hp.mem_iff, mem_places hc]
theorem chR_runs {l : List DP} {most : Int} (hm : 1 ≤ most) : chR (allL l 4) most = runsTo l most 4 := by
  have T : ∀ (k : Nat), k ≤ 3 → ∀ q ∈ allL l k, q.file ≠ ((3 - k : Nat) : Int) := fun k hk q hq e => by
    have := ((allL_mem l k (by omega) q).1 hq).1
    omega
  have hlen : ∀ k, k ≤ 4 → (allL l k).length ≤ (allL l 4).length := fun k hk => by
    have h1 : ∀ k, (allL l k).length ≤ (allL l (k + 1)).length := fun k => by rw [allL, List.length_append]; omega
    have : k = 0 ∨ k = 1 ∨ k = 2 ∨ k = 3 ∨ k = 4 := by omega
    have a0 : (allL l 0).length ≤ (allL l 1).length := h1 0
    have a1 : (allL l 1).length ≤ (allL l 2).length := h1 1
    have a2 : (allL l 2).length ≤ (allL l 3).length := h1 2
    have a3 : (allL l 3).length ≤ (allL l 4).length := h1 3
    rcases this with rfl | rfl | rfl | rfl | rfl <;> omega
  have step : ∀ k, k ≤ 3 → chop most.toNat (allL l 4).length (allL l (k + 1)) = sc l most ((3 - k : Nat) : Int) 0 ++ chop most.toNat (allL l 4).length (allL l k) := fun k hk => by
    have := hlen (k + 1) (by omega)
    rw [allL] at this ⊢
    exact chop_scan (by omega) (T k hk) 16 0 16 _ (by omega) (Nat.le_refl _) this
  unfold chR
  rw [step 3 (by omega), step 2 (by omega), step 1 (by omega), step 0 (by omega)]
  have e0 : chop most.toNat (allL l 4).length (allL l 0) = [] := by show chop _ _ [] = []; cases (allL l 4).length <;> rfl
  rw [e0]
  simp only [runsTo, List.nil_append, List.append_nil, List.append_assoc]
  first | done | rfl
theorem vWRuns : cRuns.body (fun g => envR [(14, cWCheck), (34, cAt), (39, cSortP), (43, c43)] (lWRuns g)) Try.f21 := by
  rw [vWRuns_eq]
  rintro ⟨l, most⟩ ⟨hl, hm⟩
  dsimp only at hl hm ⊢
  have fin : ∀ e : Int, runsE ⟨l, most⟩ = e → e ≠ 0 → ∃ (b : Unit), True ∧ (((SV.val (Value.slice none 0 0) = SV.val (Value.slice none 0 0) ∧ (0 : Nat) = 0 ∧ (runsO ⟨l, most⟩).length = 0) ∧ I e = I (runsE ⟨l, most⟩)) ∧ (∀ x : DR, allFlat (encDR x) = true) ∧ runsO ⟨l, most⟩ = [] ∧ ∀ x : DR, (3 : Nat) = 3 ∧ allOne (encDR x) = true) ∧ (0 : Nat) = 0 ∧ True := fun e h h0 => by
    have ho : runsO ⟨l, most⟩ = [] := by rw [runsO, if_neg (by rw [h]; exact h0)]
    rw [ho, h]
    exact ⟨(), trivial, ⟨⟨⟨rfl, rfl, rfl⟩, rfl⟩, flDR, rfl, okDR⟩, rfl, trivial⟩
  refine ⟨l, rfl, trivial, hl, fun _ _ => ⟨fun hc => ?_, fun hc => ⟨fun h1 => ?_, fun h1 => ⟨⟨0, Nat.zero_le _, ⟨rfl, rfl, rfl⟩, ⟨⟨rfl, fun _ => ⟨rfl, rfl⟩⟩, trivial⟩, trivial⟩, fun i hi => ⟨fun hlt => ?_, fun hge => ?_⟩⟩⟩⟩⟩
  · have hc : chk l ≠ 0 := by simpa using hc
    exact fin _ (by rw [runsE, if_neg hc]) hc
  · have hc : chk l = 0 := by simpa using hc
    exact fin 2 (by rw [runsE, if_pos hc, if_pos (of_decide_eq_true h1)]) (by decide)
  · have hlt : (i : Int) < l.length := of_decide_eq_true hlt
    have hi' : i < l.length := by omega
    have hil : ((l.take i).map plO).length = i := by rw [List.length_map, List.length_take]; omega
    rw [Int.toNat_natCast]
    refine ⟨⟨by omega, hlt⟩, hi', l.getD i dDP, ⟨rfl, rfl, rfl, trivial⟩, trivial, trivial, fun _ _ => ⟨by omega, [plO (l.getD i dDP)], rfl, by simp only [List.length_cons, List.length_nil]; omega, inI (by omega) (by omega), i + 1, hi', by omega, ⟨by omega, rfl, rfl, rfl⟩, ⟨?_, trivial⟩, trivial⟩⟩
    rw [List.drop_zero, List.take_of_length_le (by omega), take_next l dDP hi', List.map_append]; rfl
  · have hge : ¬ (i : Int) < l.length := of_decide_eq_false hge
    obtain rfl : i = l.length := by omega
    have hc : chk l = 0 := by simpa using hc
    have hm1 : ¬ most < 1 := of_decide_eq_false h1
    rw [List.take_length]
    refine ⟨l.map plO, ⟨⟨rfl, rfl, by rw [List.length_map]⟩, rfl, trivial⟩, rfl, by rw [List.length_map]; omega, fun S hS => ⟨S, rfl, ⟨rfl, rfl, by rw [hS.1.length_eq, List.length_map]⟩, ?_⟩⟩
    have hall := sorted_places hc hS.1 hS.2
    have he : runsE ⟨l, most⟩ = 0 := by rw [runsE, if_pos hc, if_neg hm1]
    have ho : runsO ⟨l, most⟩ = chR S most := by rw [runsO, if_pos he, hall, chR_runs (by omega)]
    have hok : okS S most := by
      refine ⟨?_, by omega, hm, fun p hp => ?_⟩
      · rw [hall]
        have hL : ∀ k, (allL l k).length ≤ 16 * k := fun k => by
          induction k with
          | zero => simp [allL]
          | succ k ih =>
            rw [allL, List.length_append]
            have := Lf_len (H := H l ((3 - k : Nat) : Int)) (f := ((3 - k : Nat) : Int)) 0
            omega
        have := hL 4
        omega
      · rw [hall, allL_mem l 4 (Nat.le_refl _)] at hp
        obtain ⟨_, _, j, h1, h2, _⟩ := hp
        omega
    exact ⟨(S, most), ⟨rfl, rfl, rfl, trivial⟩, trivial, hok, fun _ _ => ⟨(), trivial, ⟨⟨⟨rfl, rfl, rfl, by rw [ho]⟩, by rw [he]⟩, flDR, by omega, by rw [List.drop_zero, List.take_length, ho]⟩, rfl, trivial⟩⟩
theorem sWRuns : SpecOk P 21 cRuns.spec := spec_ofS cRuns (tab_cons sWCheck (tab_cons sAt (tab_cons sSortP (tab_cons s43 (tab_nil P))))) s44 sp44_mono mixed (fn := Try.f21) (by kernel_rfl) (by kernel_rfl) (by kernel_rfl) (Nat.zero_le _) (noIns fun _ => rfl) vWRuns
end Go.Wb
