/- A PART OF THE PROOF. NO CONDITION. -/
import Derived.Test.YtgcedkklmmdabaaWbY
import Derived.Test.YtgcedkklmmdabaaSxAD
noncomputable section
set_option linter.unusedVariables false
set_option linter.unusedVariables false
set_option linter.unusedSimpArgs false
namespace Go.WbW
open Go.Proofs Go.SX Go.Wb
set_option maxRecDepth 100000
/-! the law that the next page again and again gives the order -/
def rem (l : List DP) : Nat → List DP
  | 0 => l
  | i + 1 => (rem l i).eraseIdx (nxt (rem l i)).toNat
def arrS (l : List DP) (i : Nat) : List DP := rem l i ++ List.replicate i dDP
def cSteps : Con := pureCon (List DP) Unit (fun l => [roP l]) (fun l => l.length ≤ 9223372036854775807) (fun _ _ => True) (fun _ _ => Bo true)
def lSteps (l : List DP) : Loops := loop1 0 { γ := Nat, slots := [26, 5], vals := fun b i => [I i, .sl b 3 0 (l.length - i)], rekey := [5], blks := fun b i => [(b, .arr DP dDP encDP (arrS l i))], inv := fun i => i ≤ l.length, μ := fun i => l.length - i }
theorem vSteps_eq : (cSteps.body (fun g => env [(12, cOrder), (10, cFew), (11, cAwake), (28, cClone), (16, cNext), (29, cDel)] (lSteps g)) Try.f9) = (∀ (g : List DP), List.length g ≤ (9223372036854775807 : Nat) → ∃ (g_1 : List DP), SV.ro DP dDP encDP g = SV.ro DP dDP encDP g_1 ∧ True ∧ List.length g_1 ≤ (9223372036854775807 :
  Nat) ∧ ∀ (b : Unit), True → ∃ (g_2 : List DP), SV.ro DP dDP encDP g = SV.ro DP dDP encDP g_2 ∧ True ∧ True ∧ ∀ (b : Unit), True → ((!decide ((↑(List.length g_2) : Int) ≤ (100 :
  Int))) = true → ∃ (g : Unit), True ∧ True ∧ True ∧ ∀ (b : Unit), True → ∃ (b : Unit), True ∧ SV.val (Value.bool true) = SV.val (Value.bool true) ∧ (0 : Nat) = (0 : Nat) ∧ True) ∧
  ((!decide ((↑(List.length g_2) : Int) ≤ (100 : Int))) = false → ((chk g_1 != (0 : Int)) = true → ∃ (g : Unit), True ∧ True ∧ True ∧ ∀ (b : Unit), True → ∃ (b : Unit), True ∧ SV.val
  (Value.bool true) = SV.val (Value.bool true) ∧ (0 : Nat) = (0 : Nat) ∧ True) ∧ ((chk g_1 != (0 : Int)) = false → ∃ (g_3 : List DP), SV.ro DP dDP encDP g = SV.ro DP dDP encDP g_3 ∧
  True ∧ List.length g_3 ≤ (1000000000 : Nat) ∧ ∀ (b : Unit), True → (∃ (g_4 : Nat), g_4 ≤ List.length g ∧ ((0 : Int) = (↑g_4 : Int) ∧ (3 : Nat) = (3 : Nat) ∧ (0 : Nat) = (0 : Nat) ∧
  List.length g_3 = List.length g - g_4) ∧ (LB.arr DP dDP encDP g_3 = LB.arr DP dDP encDP (arrS g g_4) ∧ True) ∧ LB.arr DP dDP encDP (ordO g_1) = LB.arr DP dDP encDP (ordO g_1) ∧
  True) ∧ ∀ (g_4 : Nat), g_4 ≤ List.length g → (decide ((↑g_4 : Int) < (↑(List.length (ordO g_1)) : Int)) = true → ((0 : Int) ≤ (↑g_4 : Int) ∧ (↑g_4 : Int) < (↑(List.length (ordO
  g_1)) : Int)) ∧ (0 : Nat) + Int.toNat (↑g_4 : Int) < List.length (ordO g_1) ∧ ∃ (g_5 : List DP), ((0 : Nat) + (List.length g - g_4) ≤ List.length (arrS g g_4) ∧ SV.ro DP dDP encDP
  (List.take (List.length g - g_4) (List.drop (0 : Nat) (arrS g g_4))) = SV.ro DP dDP encDP g_5) ∧ True ∧ List.length g_5 ≤ (1000000000 : Nat) ∧ ∀ (b : Unit), True → (decide (nxt g_5
  < (0 : Int)) = true → ∃ (b : Unit), True ∧ true = false ∧ (0 : Nat) = (0 : Nat) ∧ True) ∧ (decide (nxt g_5 < (0 : Int)) = false → (decide (nxt g_5 ≥ (↑(List.length g - g_4) : Int))
  = true → ∃ (b : Unit), True ∧ true = false ∧ (0 : Nat) = (0 : Nat) ∧ True) ∧ (decide (nxt g_5 ≥ (↑(List.length g - g_4) : Int)) = false → ((0 : Int) ≤ nxt g_5 ∧ nxt g_5 <
  (↑(List.length g - g_4) : Int)) ∧ (0 : Nat) + Int.toNat (nxt g_5) < List.length (arrS g g_4) ∧ ((!(DP.file (List.getD (arrS g g_4) ((0 : Nat) + Int.toNat (nxt g_5)) dDP) == DP.file
  (List.getD (ordO g_1) ((0 : Nat) + Int.toNat (↑g_4 : Int)) dDP) && (DP.index (List.getD (arrS g g_4) ((0 : Nat) + Int.toNat (nxt g_5)) dDP) == DP.index (List.getD (ordO g_1) ((0 :
  Nat) + Int.toNat (↑g_4 : Int)) dDP) && (DP.since (List.getD (arrS g g_4) ((0 : Nat) + Int.toNat (nxt g_5)) dDP) == DP.since (List.getD (ordO g_1) ((0 : Nat) + Int.toNat (↑g_4 :
  Int)) dDP) && true)))) = true → ∃ (b : Unit), True ∧ true = false ∧ (0 : Nat) = (0 : Nat) ∧ True) ∧ ((!(DP.file (List.getD (arrS g g_4) ((0 : Nat) + Int.toNat (nxt g_5)) dDP) ==
  DP.file (List.getD (ordO g_1) ((0 : Nat) + Int.toNat (↑g_4 : Int)) dDP) && (DP.index (List.getD (arrS g g_4) ((0 : Nat) + Int.toNat (nxt g_5)) dDP) == DP.index (List.getD (ordO
  g_1) ((0 : Nat) + Int.toNat (↑g_4 : Int)) dDP) && (DP.since (List.getD (arrS g g_4) ((0 : Nat) + Int.toNat (nxt g_5)) dDP) == DP.since (List.getD (ordO g_1) ((0 : Nat) + Int.toNat
  (↑g_4 : Int)) dDP) && true)))) = false → (decide ((↑g_4 : Int) > (0 : Int)) = true → inK IntKind.i64 ((↑g_4 : Int) - (1 : Int)) ∧ ((0 : Int) ≤ (↑g_4 : Int) - (1 : Int) ∧ (↑g_4 :
  Int) - (1 : Int) < (↑(List.length (ordO g_1)) : Int)) ∧ (0 : Nat) + Int.toNat ((↑g_4 : Int) - (1 : Int)) < List.length (ordO g_1) ∧ (decide (DP.since (List.getD (ordO g_1) ((0 :
  Nat) + Int.toNat ((↑g_4 : Int) - (1 : Int))) dDP) > DP.since (List.getD (ordO g_1) ((0 : Nat) + Int.toNat (↑g_4 : Int)) dDP)) = true → ∃ (b : Unit), True ∧ true = false ∧ (0 : Nat)
  = (0 : Nat) ∧ True) ∧ (decide (DP.since (List.getD (ordO g_1) ((0 : Nat) + Int.toNat ((↑g_4 : Int) - (1 : Int))) dDP) > DP.since (List.getD (ordO g_1) ((0 : Nat) + Int.toNat (↑g_4
  : Int)) dDP)) = false → inK IntKind.i64 (nxt g_5 + (1 : Int)) ∧ ∃ (g_6 : GD), (((3 : Nat) = (3 : Nat) ∧ (0 : Nat) = (0 : Nat) ∧ List.length g - g_4 = GD.n g_6) ∧ SV.val (Value.int
  IntKind.i64 (nxt g_5)) = SV.val (Value.int IntKind.i64 (↑(GD.k g_6) : Int)) ∧ SV.val (Value.int IntKind.i64 (nxt g_5 + (1 : Int))) = SV.val (Value.int IntKind.i64 ((↑(GD.k g_6) :
  Int) + (1 : Int)))) ∧ some (LB.arr DP dDP encDP (arrS g g_4)) = some (LB.arr DP dDP encDP (GD.ys g_6)) ∧ (GD.k g_6 < GD.n g_6 ∧ GD.n g_6 ≤ List.length (GD.ys g_6)) ∧ ∀ (b : Unit),
  True → inK IntKind.i64 ((↑g_4 : Int) + (1 : Int)) ∧ ∃ (g' : Nat), g' ≤ List.length g ∧ List.length g - g' < List.length g - g_4 ∧ ((↑g_4 : Int) + (1 : Int) = (↑g' : Int) ∧ (3 :
  Nat) = (3 : Nat) ∧ (0 : Nat) = (0 : Nat) ∧ GD.n g_6 - (1 : Nat) = List.length g - g') ∧ (LB.arr DP dDP encDP (del g_6) = LB.arr DP dDP encDP (arrS g g') ∧ True) ∧ LB.arr DP dDP
  encDP (ordO g_1) = LB.arr DP dDP encDP (ordO g_1) ∧ True)) ∧ (decide ((↑g_4 : Int) > (0 : Int)) = false → inK IntKind.i64 (nxt g_5 + (1 : Int)) ∧ ∃ (g_6 : GD), (((3 : Nat) = (3 :
  Nat) ∧ (0 : Nat) = (0 : Nat) ∧ List.length g - g_4 = GD.n g_6) ∧ SV.val (Value.int IntKind.i64 (nxt g_5)) = SV.val (Value.int IntKind.i64 (↑(GD.k g_6) : Int)) ∧ SV.val (Value.int
  IntKind.i64 (nxt g_5 + (1 : Int))) = SV.val (Value.int IntKind.i64 ((↑(GD.k g_6) : Int) + (1 : Int)))) ∧ some (LB.arr DP dDP encDP (arrS g g_4)) = some (LB.arr DP dDP encDP (GD.ys
  g_6)) ∧ (GD.k g_6 < GD.n g_6 ∧ GD.n g_6 ≤ List.length (GD.ys g_6)) ∧ ∀ (b : Unit), True → inK IntKind.i64 ((↑g_4 : Int) + (1 : Int)) ∧ ∃ (g' : Nat), g' ≤ List.length g ∧
  List.length g - g' < List.length g - g_4 ∧ ((↑g_4 : Int) + (1 : Int) = (↑g' : Int) ∧ (3 : Nat) = (3 : Nat) ∧ (0 : Nat) = (0 : Nat) ∧ GD.n g_6 - (1 : Nat) = List.length g - g') ∧
  (LB.arr DP dDP encDP (del g_6) = LB.arr DP dDP encDP (arrS g g') ∧ True) ∧ LB.arr DP dDP encDP (ordO g_1) = LB.arr DP dDP encDP (ordO g_1) ∧ True))))) ∧ (decide ((↑g_4 : Int) <
  (↑(List.length (ordO g_1)) : Int)) = false → (((↑(List.length g - g_4) : Int) == (0 : Int)) = true → ∃ (g : Unit), True ∧ True ∧ True ∧ ∀ (b : Unit), True → ∃ (b : Unit), True ∧
  SV.val (Value.bool true) = SV.val (Value.bool true) ∧ (0 : Nat) = (0 : Nat) ∧ True) ∧ (((↑(List.length g - g_4) : Int) == (0 : Int)) = false → ∃ (b : Unit), True ∧ true = false ∧
  (0 : Nat) = (0 : Nat) ∧ True))))) := by kernel_rfl
theorem lex_eq {a b : DP} (h1 : ¬ lex a b) (h2 : ¬ lex b a) : a = b := by
  obtain ⟨a1, a2, a3⟩ := a
  obtain ⟨b1, b2, b3⟩ := b
  unfold lex at h1 h2
  dsimp only at h1 h2
  rw [DP.mk.injEq]; omega
theorem chk_of {l R : List DP} {i : Nat} (hc : chk l = 0) (hp : R.Perm ((ordR l).drop i)) : chk R = 0 := by
  have h1 : R.all okP = true := List.all_eq_true.2 fun x hx => List.all_eq_true.1 (chk_ok hc) x ((ordR_perm l).mem_iff.1 (List.mem_of_mem_drop (hp.mem_iff.1 hx)))
  have h2 : (R.map plc).Nodup := by
    rw [(hp.map plc).nodup_iff]
    exact ((List.drop_sublist i _).map plc).nodup ((((ordR_perm l).map plc).nodup_iff).2 (chk_nodup hc))
  rw [chk, if_pos h1, if_pos h2]
theorem drop_head {O : List DP} {i : Nat} (h : i < O.length) : O.drop i = O.getD i dDP :: O.drop (i + 1) := by
  rw [List.drop_eq_getElem_cons h, List.getD_eq_getElem?_getD, List.getElem?_eq_getElem h]; rfl
theorem step_facts {l R : List DP} {i : Nat} (hc : chk l = 0) (hi : i < l.length) (hp : R.Perm ((ordR l).drop i)) : ∃ j : Nat, nxt R = j ∧ j < R.length ∧ R.getD j dDP = (ordR l).getD i dDP := by
  have hol := (ordR_perm l).length_eq
  have hlen : R.length = l.length - i := by rw [hp.length_eq, List.length_drop, hol]
  obtain ⟨j, hb, hj, hm, _, hmin⟩ := best_min R R.length (by omega) (Nat.le_refl _)
  refine ⟨j, by rw [nxt, if_pos (chk_of hc hp), hb], hj, ?_⟩
  rw [hm]
  have hd := drop_head (O := ordR l) (i := i) (by omega)
  have hO : (ordR l).getD i dDP ∈ R := hp.mem_iff.2 (by rw [hd]; exact List.mem_cons_self)
  have hM : minTo R R.length ∈ R := by rw [← hm]; exact getD_mem hj
  obtain ⟨k, hk, hke⟩ := List.getElem_of_mem hO
  have n1 : ¬ lex ((ordR l).getD i dDP) (minTo R R.length) := by
    have := hmin k hk
    rw [List.getD_eq_getElem?_getD, List.getElem?_eq_getElem hk, Option.getD_some, hke] at this
    exact this
  have hs : ((ordR l).drop i).Pairwise fun x y => ¬ lex y x := (ordR_sorted l).sublist (List.drop_sublist i _)
  have hM2 := hp.mem_iff.1 hM
  rw [hd] at hs hM2
  rcases List.mem_cons.1 hM2 with e | e
  · exact e
  · exact lex_eq ((List.pairwise_cons.1 hs).1 _ e) n1
theorem rem_perm {l : List DP} (hc : chk l = 0) : ∀ i, i ≤ l.length → (rem l i).Perm ((ordR l).drop i)
  | 0, _ => by rw [List.drop_zero]; exact (ordR_perm l).symm
  | i + 1, h => by
    have ih := rem_perm hc i (by omega)
    obtain ⟨j, e1, e2, e3⟩ := step_facts hc (by omega) ih
    rw [rem, e1, Int.toNat_natCast]
    have p0 : ((rem l i)[j] :: (rem l i).eraseIdx j).Perm (rem l i) := by
      rw [List.eraseIdx_eq_take_drop_succ]
      refine List.perm_middle.symm.trans (List.Perm.of_eq ?_)
      rw [← List.drop_eq_getElem_cons e2, List.take_append_drop]
    have p1 := p0.trans ih
    rw [drop_head (by rw [(ordR_perm l).length_eq]; omega), ← e3, List.getD_eq_getElem?_getD, List.getElem?_eq_getElem e2] at p1
    exact p1.cons_inv
theorem rem_len {l : List DP} (hc : chk l = 0) {i : Nat} (h : i ≤ l.length) : (rem l i).length = l.length - i := by
  rw [(rem_perm hc i h).length_eq, List.length_drop, (ordR_perm l).length_eq]
theorem arrS_take {l : List DP} (hc : chk l = 0) {i : Nat} (h : i ≤ l.length) : (arrS l i).take (l.length - i) = rem l i := by
  unfold arrS; rw [List.take_append_of_le_length (by rw [rem_len hc h]; exact Nat.le_refl _), List.take_of_length_le (by rw [rem_len hc h]; exact Nat.le_refl _)]
theorem arrS_len {l : List DP} (hc : chk l = 0) {i : Nat} (h : i ≤ l.length) : (arrS l i).length = l.length := by
  unfold arrS; rw [List.length_append, rem_len hc h, List.length_replicate]; omega
theorem arrS_next {l : List DP} (hc : chk l = 0) {i j : Nat} (h : i < l.length) (hj : j < l.length - i) (hn : nxt (rem l i) = j) : del ⟨arrS l i, l.length - i, j⟩ = arrS l (i + 1) := by
  have hl := rem_len hc (Nat.le_of_lt h)
  unfold del
  dsimp only
  rw [arrS_take hc (Nat.le_of_lt h)]
  unfold arrS
  rw [List.take_append_of_le_length (by omega), List.drop_left' hl, rem, hn, Int.toNat_natCast, List.eraseIdx_eq_take_drop_succ, List.replicate_succ, List.append_assoc]
theorem vSteps : cSteps.body (fun g => env [(12, cOrder), (10, cFew), (11, cAwake), (28, cClone), (16, cNext), (29, cDel)] (lSteps g)) Try.f9 := by
  rw [vSteps_eq]
  intro l hl
  have aw : ∃ (g : Unit), True ∧ True ∧ True ∧ ∀ (b : Unit), True → ∃ (b : Unit), True ∧ SV.val (Value.bool true) = SV.val (Value.bool true) ∧ (0 : Nat) = (0 : Nat) ∧ True := ⟨(), trivial, trivial, trivial, fun _ _ => ⟨(), trivial, rfl, rfl, trivial⟩⟩
  refine ⟨l, rfl, trivial, hl, fun _ _ => ⟨l, rfl, trivial, trivial, fun _ _ => ⟨fun _ => aw, fun hf => ⟨fun _ => aw, fun hc => ?_⟩⟩⟩⟩
  have hc : chk l = 0 := by simpa using hc
  have hl64 := chk_len hc
  have ho : ordO l = ordR l := by rw [ordO, if_pos hc]
  have hol := (ordR_perm l).length_eq
  rw [ho]
  simp only [Nat.zero_add, List.drop_zero, Int.toNat_natCast]
  refine ⟨l, by trivial, trivial, by omega, fun _ _ => ⟨⟨0, Nat.zero_le _, ⟨by trivial, by trivial, by trivial, by trivial⟩, ⟨by rw [arrS, rem, List.replicate_zero, List.append_nil], by trivial⟩, by trivial, by trivial⟩, fun i hi => ⟨fun hlt => ?_, fun hge => ?_⟩⟩⟩
  · have hlt : (i : Int) < (ordR l).length := of_decide_eq_true hlt
    have hi' : i < l.length := by omega
    obtain ⟨j, e1, e2, e3⟩ := step_facts hc hi' (rem_perm hc i hi)
    have hrl := rem_len hc hi
    have hal := arrS_len hc hi
    have hat := arrS_take hc hi
    have hgd : (arrS l i).getD j dDP = (ordR l).getD i dDP := by
      rw [← e3, arrS, List.getD_eq_getElem?_getD, List.getElem?_append_left e2, ← List.getD_eq_getElem?_getD]
    have tail : inK .i64 ((j : Int) + 1) ∧ ∃ (g_6 : GD), ((True ∧ True ∧ l.length - i = GD.n g_6) ∧ True) ∧ True := ⟨inI (by omega) (by omega), ⟨arrS l i, l.length - i, j⟩, ⟨⟨trivial, trivial, rfl⟩, trivial⟩, trivial⟩
    refine ⟨⟨by omega, hlt⟩, by omega, rem l i, ⟨by omega, by rw [hat]⟩, trivial, by omega, fun _ _ => ?_⟩
    rw [e1]
    simp only [Int.toNat_natCast, hgd]
    have same : (!(((ordR l).getD i dDP).file == ((ordR l).getD i dDP).file && (((ordR l).getD i dDP).index == ((ordR l).getD i dDP).index && (((ordR l).getD i dDP).since == ((ordR l).getD i dDP).since && true)))) = false := by simp
    refine ⟨fun h => absurd (of_decide_eq_true h) (by omega), fun _ => ⟨fun h => absurd (of_decide_eq_true h) (by omega), fun _ => ⟨⟨by omega, by omega⟩, by omega, fun h => ?_, fun _ => ⟨fun h0 => ?_, fun _ => ?_⟩⟩⟩⟩
    · rw [same] at h; cases h
    · have h0 : (i : Int) > 0 := of_decide_eq_true h0
      refine ⟨inI (by omega) (by omega), ⟨by omega, by omega⟩, by omega, fun h => ?_, fun _ => ⟨inI (by omega) (by omega), ⟨arrS l i, l.length - i, j⟩, ⟨⟨by trivial, by trivial, by trivial⟩, by trivial, by trivial⟩, by trivial, ⟨by dsimp only; omega, by dsimp only; omega⟩, fun _ _ => ⟨inI (by omega) (by omega), i + 1, by omega, by omega, ⟨by omega, by trivial, by trivial, by dsimp only; omega⟩, ⟨by rw [arrS_next hc hi' (by omega) e1], by trivial⟩, by trivial, by trivial⟩⟩⟩
      have h : ((ordR l).getD ((i : Int) - 1).toNat dDP).since > ((ordR l).getD i dDP).since := of_decide_eq_true h
      rw [show ((i : Int) - 1).toNat = i - 1 by omega] at h
      have hs := List.pairwise_iff_getElem.1 (ordR_sorted l) (i - 1) i (by omega) (by omega) (by omega)
      rw [List.getD_eq_getElem?_getD, List.getD_eq_getElem?_getD, List.getElem?_eq_getElem (by omega), List.getElem?_eq_getElem (by omega), Option.getD_some, Option.getD_some] at h
      exact absurd (Or.inl h) hs
    · exact ⟨inI (by omega) (by omega), ⟨arrS l i, l.length - i, j⟩, ⟨⟨by trivial, by trivial, by trivial⟩, by trivial, by trivial⟩, by trivial, ⟨by dsimp only; omega, by dsimp only; omega⟩, fun _ _ => ⟨inI (by omega) (by omega), i + 1, by omega, by omega, ⟨by omega, by trivial, by trivial, by dsimp only; omega⟩, ⟨by rw [arrS_next hc hi' (by omega) e1], by trivial⟩, by trivial, by trivial⟩⟩
  · have hge : ¬ (i : Int) < (ordR l).length := of_decide_eq_false hge
    obtain rfl : i = l.length := by omega
    rw [Nat.sub_self]
    exact ⟨fun _ => ⟨(), trivial, trivial, trivial, fun _ _ => ⟨(), trivial, by trivial, by trivial, trivial⟩⟩, fun h => by cases h⟩
theorem sSteps : SpecOk P 9 cSteps.spec := spec_of cSteps (tab_cons sWOrder (tab_cons sFew (tab_cons sAwake (tab_cons sClone (tab_cons sWNext (tab_cons sDel (tab_nil P))))))) mixed (fn := Try.f9) (by kernel_rfl) (by kernel_rfl) (by kernel_rfl) (Nat.zero_le _) (noIns fun _ => rfl) vSteps
end Go.WbW
