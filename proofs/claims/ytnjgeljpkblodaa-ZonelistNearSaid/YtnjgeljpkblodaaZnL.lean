/- A PART OF THE PROOF. NO CONDITION. -/
import Derived.Test.YtnjgeljpkblodaaZnG
noncomputable section
set_option linter.unusedVariables false
set_option linter.unusedVariables false
set_option linter.unusedSimpArgs false
namespace Go.Zn
open Go.Proofs Go.SX

section sorted
variable {r : Int → Int → Prop}
theorem sorted_unique (asym : ∀ a b, r a b → ¬ r b a) : ∀ {A B : List Int}, A.Pairwise r → B.Pairwise r → (∀ x, x ∈ A ↔ x ∈ B) → A = B
  | [], [], _, _, _ => rfl
  | [], b :: B, _, _, h => by have := (h b).2 (by simp); cases this
  | a :: A, [], _, _, h => by have := (h a).1 (by simp); cases this
  | a :: A, b :: B, hA, hB, h => by
    rw [List.pairwise_cons] at hA hB
    have irr : ∀ x, ¬ r x x := fun x hx => asym x x hx hx
    have hab : a = b := by
      by_cases e : a = b
      · exact e
      · have h1 : a ∈ B := by have := (h a).1 (by simp); rcases List.mem_cons.1 this with h | h; exact absurd h e; exact h
        have h2 : b ∈ A := by have := (h b).2 (by simp); rcases List.mem_cons.1 this with h | h; exact absurd h.symm e; exact h
        exact absurd (hA.1 b h2) (asym b a (hB.1 a h1))
    subst hab
    rw [sorted_unique asym hA.2 hB.2 fun x => ⟨fun hx => ?_, fun hx => ?_⟩]
    · have := (h x).1 (List.mem_cons_of_mem _ hx)
      rcases List.mem_cons.1 this with e | h'
      · subst e; exact absurd (hA.1 x hx) (irr x)
      · exact h'
    · have := (h x).2 (List.mem_cons_of_mem _ hx)
      rcases List.mem_cons.1 this with e | h'
      · subst e; exact absurd (hB.1 x hx) (irr x)
      · exact h'
variable (cf : Int → Int → Int)
theorem insAt_spec (x : Int) (R : List Int) : ∀ k, k ≤ R.length → (∀ j, insAt cf x R k ≤ j → j < k → cf x (R.getD j 0) < 0) ∧ (insAt cf x R k = 0 ∨ ¬ cf x (R.getD (insAt cf x R k - 1) 0) < 0)
  | 0, _ => ⟨fun j h1 h2 => by omega, .inl rfl⟩
  | k + 1, hk => by
    unfold insAt
    split
    · rename_i hc
      obtain ⟨h1, h2⟩ := insAt_spec x R k (by omega)
      refine ⟨fun j hj1 hj2 => ?_, h2⟩
      by_cases hjk : j = k
      · subst hjk; exact hc
      · exact h1 j hj1 (by omega)
    · rename_i hc
      exact ⟨fun j h1 h2 => by omega, .inr (by simpa using hc)⟩
theorem insP_sorted (tr : ∀ a b c, r a b → r b c → r a c) {R : List Int} {x : Int} (hR : R.Pairwise r) (h : ∀ y ∈ R, (cf x y < 0 → r x y) ∧ (¬ cf x y < 0 → r y x)) : (insP cf R x).Pairwise r := by
  have hle := insAt_le cf x R R.length
  obtain ⟨h1, h2⟩ := insAt_spec cf x R R.length (Nat.le_refl _)
  unfold insP
  generalize insAt cf x R R.length = k at *
  have hsplit : (R.take k ++ R.drop k).Pairwise r := by rw [List.take_append_drop]; exact hR
  rw [List.pairwise_append] at hsplit
  obtain ⟨p1, p2, p3⟩ := hsplit
  have after : ∀ y ∈ R.drop k, r x y := fun y hy => by
    obtain ⟨i, hi, e⟩ := List.getElem_of_mem hy
    rw [List.getElem_drop] at e
    rw [List.length_drop] at hi
    have hg : R.getD (k + i) 0 = y := by rw [List.getD_eq_getElem?_getD, List.getElem?_eq_getElem (by omega), ← e]; rfl
    refine (h y (List.mem_of_mem_drop hy)).1 ?_
    rw [← hg]; exact h1 _ (by omega) (by omega)
  have before : ∀ y ∈ R.take k, r y x := fun y hy => by
    obtain ⟨i, hi, e⟩ := List.getElem_of_mem hy
    rw [List.getElem_take] at e
    rw [List.length_take] at hi
    have hk0 : k ≠ 0 := by omega
    have hlast := h2.resolve_left hk0
    have hkl : k - 1 < R.length := by omega
    have hg : R.getD (k - 1) 0 = R[k - 1] := by rw [List.getD_eq_getElem?_getD, List.getElem?_eq_getElem hkl]; rfl
    rw [hg] at hlast
    have hx := (h _ (List.getElem_mem hkl)).2 hlast
    by_cases hik : i = k - 1
    · subst hik; rw [← e]; exact hx
    · have := List.pairwise_iff_getElem.1 hR i (k - 1) (by omega) hkl (by omega)
      rw [e] at this
      exact tr _ _ _ this hx
  rw [List.pairwise_append, List.pairwise_cons]
  refine ⟨p1, ⟨after, p2⟩, fun a ha b hb => ?_⟩
  rcases List.mem_cons.1 hb with rfl | hb
  · exact before a ha
  · exact p3 a ha b hb
theorem isR_sorted (tr : ∀ a b c, r a b → r b c → r a c) {L : List Int} (h : L.Pairwise fun y x => (cf x y < 0 → r x y) ∧ (¬ cf x y < 0 → r y x)) : (isR cf L).Pairwise r := by
  suffices hs : ∀ s : List Int, (s.reverse.Pairwise fun y x => (cf x y < 0 → r x y) ∧ (¬ cf x y < 0 → r y x)) → (isR cf s.reverse).Pairwise r by
    have := hs L.reverse (by rwa [List.reverse_reverse])
    rwa [List.reverse_reverse] at this
  intro s
  induction s with
  | nil => intro _; exact List.Pairwise.nil
  | cons x s ih =>
    intro hp
    rw [List.reverse_cons, List.pairwise_append] at hp
    obtain ⟨q1, _, q3⟩ := hp
    rw [List.reverse_cons, isR_snoc]
    exact insP_sorted cf tr (ih q1) fun y hy => q3 y ((isR_perm cf _).mem_iff.1 hy) x (by simp)
end sorted

theorem compareInt_lt {a b : Int} : compareInt a b < 0 ↔ a < b := by
  unfold compareInt; split
  · simp; omega
  · split <;> simp <;> omega

/-! the nodes -/
theorem chkL_zero : ∀ {l : List Z}, chkL l = 0 → ∀ z ∈ l, chk1 z = 0
  | [], _, z, hz => by cases hz
  | q :: r, h, z, hz => by
    unfold chkL at h
    split at h
    · rename_i hq
      rcases List.mem_cons.1 hz with rfl | hz
      · exact hq
      · exact chkL_zero h z hz
    · rename_i hq; exact absurd h hq
theorem chk_zero {l : List Z} (h : chk l = 0) : ∀ z ∈ l, (0 ≤ z.node ∧ z.node < 4) ∧ (z.kind = 0 ∨ z.kind = 1) := by
  intro z hz
  unfold chk at h
  split at h
  · cases h
  · have := chkL_zero h z hz
    unfold chk1 at this
    split at this
    · cases this
    · split at this
      · cases this
      · omega
theorem hasZ_iff {l : List Z} {n : Int} : hasZ l n = true ↔ ∃ z ∈ l, z.node = n := by
  unfold hasZ; rw [List.any_eq_true]; simp
theorem ddTo_mem {l : List Z} {x : Int} : ∀ {i : Nat}, i ≤ l.length → (x ∈ ddTo l i ↔ ∃ z ∈ l.take i, z.node = x)
  | 0, _ => by simp [ddTo]
  | i + 1, hi => by
    have ih := @ddTo_mem l x i (by omega)
    rw [take_next l dZ (by omega)]
    unfold ddTo
    split
    · rename_i hc
      rw [ih]
      constructor
      · rintro ⟨z, hz, e⟩; exact ⟨z, by simp [hz], e⟩
      · rintro ⟨z, hz, e⟩
        rw [List.mem_append, List.mem_singleton] at hz
        rcases hz with hz | rfl
        · exact ⟨z, hz, e⟩
        · rw [List.contains_eq_mem] at hc
          have := (@ddTo_mem l (l.getD i dZ).node i (by omega)).1 (of_decide_eq_true hc)
          rw [← e]; exact this
    · rw [List.mem_append, ih, List.mem_singleton]
      constructor
      · rintro (⟨z, hz, e⟩ | e)
        · exact ⟨z, by simp [hz], e⟩
        · exact ⟨l.getD i dZ, by simp, e.symm⟩
      · rintro ⟨z, hz, e⟩
        rw [List.mem_append, List.mem_singleton] at hz
        rcases hz with hz | rfl
        · exact .inl ⟨z, hz, e⟩
        · exact .inr e.symm
theorem ddTo_nodup (l : List Z) : ∀ i, (ddTo l i).Nodup
  | 0 => List.Pairwise.nil
  | i + 1 => by
    unfold ddTo
    split
    · exact ddTo_nodup l i
    · rename_i hc
      rw [List.nodup_append]
      refine ⟨ddTo_nodup l i, by simp, fun a ha b hb => ?_⟩
      rw [List.mem_singleton] at hb
      rw [hb]
      intro e
      subst e
      exact hc (by rw [List.contains_eq_mem]; exact decide_eq_true ha)
theorem ddTo_len (l : List Z) : ∀ i, (ddTo l i).length ≤ i
  | 0 => Nat.le_refl _
  | i + 1 => by
    have := ddTo_len l i
    unfold ddTo
    split
    · omega
    · rw [List.length_append]; simp; omega
theorem stepN_key {l : List Z} {node : Int} {d : Nat} {x : Int} (h : x ∈ stepN l node d) : 2 * (d : Int) ≤ keyI node x ∧ keyI node x ≤ 2 * d + 1 := by
  unfold stepN at h
  unfold keyI
  grind
theorem stepN_sorted (l : List Z) (node : Int) (d : Nat) : (stepN l node d).Pairwise fun a b => keyI node a < keyI node b := by
  unfold stepN
  split <;> split <;> simp [keyI]
  omega
theorem nodesTo_key {l : List Z} {node x : Int} : ∀ {d : Nat}, x ∈ nodesTo l node d → keyI node x < 2 * d
  | 0, h => by cases h
  | d + 1, h => by
    rw [nodesTo, List.mem_append] at h
    rcases h with h | h
    · have := nodesTo_key h; omega
    · have := stepN_key h; omega
theorem nodesTo_sorted (l : List Z) (node : Int) : ∀ d, (nodesTo l node d).Pairwise fun a b => keyI node a < keyI node b
  | 0 => List.Pairwise.nil
  | d + 1 => by
    rw [nodesTo, List.pairwise_append]
    refine ⟨nodesTo_sorted l node d, stepN_sorted l node d, fun a ha b hb => ?_⟩
    have := nodesTo_key ha
    have := stepN_key hb
    omega
theorem nodesTo_mem {l : List Z} {node x : Int} : ∀ {d : Nat}, x ∈ nodesTo l node d ↔ hasZ l x = true ∧ (node - x < d ∧ x - node < d)
  | 0 => by simp [nodesTo]; omega
  | d + 1 => by
    rw [nodesTo, List.mem_append, nodesTo_mem, stepN, List.mem_append]
    by_cases h1 : hasZ l x = true
    · grind
    · grind
theorem keyI_inj {n a b : Int} (h : keyI n a = keyI n b) : a = b := by unfold keyI at h; grind
theorem law_N {l : List Z} {node : Int} (h : checkN l node = 0) : isR (cfN node) (ddTo l l.length) = nodesO l node := by
  obtain ⟨h0, h1, h2, h6⟩ := checkN_zero h
  rw [nodesO, if_neg (by rw [h]; decide)]
  refine sorted_unique (r := fun a b => keyI node a < keyI node b) (fun a b p q => by omega) (isR_sorted _ (fun a b c p q => by omega) ?_) (nodesTo_sorted l node 4) fun x => ?_
  · refine (ddTo_nodup l l.length).imp fun {a b} hab => ⟨fun hc => compareInt_lt.1 hc, fun hc => ?_⟩
    have : ¬ keyI node b < keyI node a := fun hh => hc (compareInt_lt.2 hh)
    have : keyI node a ≠ keyI node b := fun hh => hab (keyI_inj hh)
    omega
  · rw [(isR_perm _ _).mem_iff, ddTo_mem (Nat.le_refl _), List.take_length, nodesTo_mem, hasZ_iff]
    refine ⟨fun hx => ⟨hx, ?_⟩, fun hx => hx.1⟩
    obtain ⟨z, hz, e⟩ := hx
    have := (chk_zero h0 z hz).1
    omega

/-! the zones -/
theorem idxs_sorted (f : Z → Bool) (l : List Z) : ∀ i, (idxs f l i).Pairwise fun a b => a < b
  | 0 => List.Pairwise.nil
  | i + 1 => by
    rw [idxs, List.pairwise_append]
    refine ⟨idxs_sorted f l i, by split <;> simp, fun a ha b hb => ?_⟩
    obtain ⟨j, h1, h2, _⟩ := idxs_mem.1 ha
    split at hb
    · rw [List.mem_singleton] at hb; omega
    · cases hb
theorem seg_mem {l : List Z} {k : Bool} {nd x : Int} : x ∈ seg l k nd ↔ ∃ j : Nat, j < l.length ∧ x = j ∧ (l.getD j dZ).node = nd ∧ (((l.getD j dZ).kind = 1 ∧ k = false) ∨ (l.getD j dZ).kind = 0) := by
  rw [seg, List.mem_append, idxs_mem, idxs_mem]
  constructor
  · rintro (⟨j, h1, h2, h3⟩ | ⟨j, h1, h2, h3⟩)
    · unfold movF at h3
      rw [Bool.and_eq_true, beq_iff_eq, beq_iff_eq] at h3
      unfold lim at h1
      cases k with
      | true => simp at h1
      | false => exact ⟨j, by simpa using h1, h2, h3.1, .inl ⟨h3.2, rfl⟩⟩
    · unfold norF at h3
      rw [Bool.and_eq_true, beq_iff_eq, beq_iff_eq] at h3
      exact ⟨j, h1, h2, h3.1, .inr h3.2⟩
  · rintro ⟨j, h1, h2, h3, h4⟩
    rcases h4 with ⟨h4, rfl⟩ | h4
    · exact .inl ⟨j, by simpa [lim] using h1, h2, by unfold movF; rw [h3, h4]; simp⟩
    · exact .inr ⟨j, h1, h2, by unfold norF; rw [h3, h4]; simp⟩
def rL (G : GR) (a b : Int) : Prop := rankI G a < rankI G b ∨ (rankI G a = rankI G b ∧ a < b)
theorem rank_nat (l : List Z) (node : Int) (j : Nat) : rankI ⟨l, node⟩ (j : Int) = if (l.getD j dZ).kind = 0 then 2 * keyI node (l.getD j dZ).node + 1 else 2 * keyI node (l.getD j dZ).node := by
  rw [rankI]; simp only [Int.toNat_natCast]
theorem seg_rank {l : List Z} {k : Bool} {nd x node : Int} (h : x ∈ seg l k nd) : 2 * keyI node nd ≤ rankI ⟨l, node⟩ x ∧ rankI ⟨l, node⟩ x ≤ 2 * keyI node nd + 1 := by
  obtain ⟨j, _, rfl, h2, _⟩ := seg_mem.1 h
  rw [rank_nat, h2]; split <;> omega
theorem seg_sorted (l : List Z) (k : Bool) (nd node : Int) : (seg l k nd).Pairwise (rL ⟨l, node⟩) := by
  have hm : ∀ x ∈ idxs (movF nd) l (lim l k), rankI ⟨l, node⟩ x = 2 * keyI node nd := fun x hx => by
    obtain ⟨j, _, rfl, h3⟩ := idxs_mem.1 hx
    unfold movF at h3
    rw [Bool.and_eq_true, beq_iff_eq, beq_iff_eq] at h3
    rw [rank_nat, h3.1, if_neg (by rw [h3.2]; decide)]
  have hn : ∀ x ∈ idxs (norF nd) l l.length, rankI ⟨l, node⟩ x = 2 * keyI node nd + 1 := fun x hx => by
    obtain ⟨j, _, rfl, h3⟩ := idxs_mem.1 hx
    unfold norF at h3
    rw [Bool.and_eq_true, beq_iff_eq, beq_iff_eq] at h3
    rw [rank_nat, h3.1, if_pos h3.2]
  rw [seg, List.pairwise_append]
  refine ⟨(idxs_sorted (movF nd) l (lim l k)).imp_of_mem fun {a b} ha hb hab => .inr ⟨by rw [hm a ha, hm b hb], hab⟩, (idxs_sorted (norF nd) l l.length).imp_of_mem fun {a b} ha hb hab => .inr ⟨by rw [hn a ha, hn b hb], hab⟩, fun a ha b hb => .inl (by rw [hm a ha, hn b hb]; omega)⟩
theorem ordTo_mem' {l : List Z} {k : Bool} {L : List Int} {x : Int} : ∀ {n : Nat}, x ∈ ordTo l k L n ↔ ∃ m : Nat, m < n ∧ x ∈ seg l k (L.getD m 0)
  | 0 => by simp [ordTo]
  | n + 1 => by
    rw [ordTo, List.mem_append, ordTo_mem']
    constructor
    · rintro (⟨m, h1, h2⟩ | h)
      · exact ⟨m, by omega, h2⟩
      · exact ⟨n, by omega, h⟩
    · rintro ⟨m, h1, h2⟩
      by_cases hmn : m = n
      · subst hmn; exact .inr h2
      · exact .inl ⟨m, by omega, h2⟩
theorem ordTo_sorted {l : List Z} {k : Bool} {node : Int} {L : List Int} (hL : L.Pairwise fun a b => keyI node a < keyI node b) : ∀ n, n ≤ L.length → (ordTo l k L n).Pairwise (rL ⟨l, node⟩)
  | 0, _ => List.Pairwise.nil
  | n + 1, hn => by
    rw [ordTo, List.pairwise_append]
    refine ⟨ordTo_sorted hL n (by omega), seg_sorted l k _ node, fun a ha b hb => ?_⟩
    obtain ⟨m, hm, ha⟩ := ordTo_mem'.1 ha
    have h1 := seg_rank (node := node) ha
    have h2 := seg_rank (node := node) hb
    have h3 := List.pairwise_iff_getElem.1 hL m n (by omega) (by omega) hm
    have e1 : L.getD m 0 = L[m] := by rw [List.getD_eq_getElem?_getD, List.getElem?_eq_getElem (by omega)]; rfl
    have e2 : L.getD n 0 = L[n] := by rw [List.getD_eq_getElem?_getD, List.getElem?_eq_getElem (by omega)]; rfl
    rw [← e1, ← e2] at h3
    exact .inl (by omega)
theorem nodesO_sorted (l : List Z) (node : Int) : (nodesO l node).Pairwise fun a b => keyI node a < keyI node b := by
  unfold nodesO
  split
  · exact List.Pairwise.nil
  · exact nodesTo_sorted l node 4
theorem nodesO_mem {l : List Z} {node : Int} (h : checkN l node = 0) {x : Int} : x ∈ nodesO l node ↔ ∃ z ∈ l, z.node = x := by
  obtain ⟨h0, h1, h2, h6⟩ := checkN_zero h
  rw [nodesO, if_neg (by rw [h]; decide), nodesTo_mem, hasZ_iff]
  refine ⟨fun hx => hx.1, fun hx => ⟨hx, ?_⟩⟩
  obtain ⟨z, hz, e⟩ := hx
  have := (chk_zero h0 z hz).1
  omega
theorem rL_trans {G : GR} : ∀ a b c, rL G a b → rL G b c → rL G a c := fun a b c p q => by unfold rL at *; omega
theorem rL_asymm {G : GR} : ∀ a b, rL G a b → ¬ rL G b a := fun a b p q => by unfold rL at *; omega
theorem isRO_sorted (G : GR) (f : Z → Bool) (l : List Z) (n : Nat) : (isR (cfO G) (idxs f l n)).Pairwise (rL G) := by
  refine isR_sorted _ rL_trans ((idxs_sorted f l n).imp fun {a b} hab => ⟨fun hc => .inl (compareInt_lt.1 hc), fun hc => ?_⟩)
  have : ¬ rankI G b < rankI G a := fun hh => hc (compareInt_lt.2 hh)
  unfold rL; omega
theorem law_O {l : List Z} {node : Int} {k : Bool} (h : checkN l node = 0) : isR (cfO ⟨l, node⟩) (idxs (selK k) l l.length) = ordO l node k := by
  obtain ⟨h0, h1, h2, h6⟩ := checkN_zero h
  rw [ordO, if_neg (by rw [h]; decide)]
  refine sorted_unique rL_asymm (isRO_sorted _ _ _ _) (ordTo_sorted (nodesO_sorted l node) _ (Nat.le_refl _)) fun x => ?_
  rw [(isR_perm _ _).mem_iff, idxs_mem, ordTo_mem']
  constructor
  · rintro ⟨j, hj, rfl, hs⟩
    have hz := (chk_zero h0 _ (getD_mem (d := dZ) hj)).2
    have hn := (nodesO_mem h).2 ⟨_, getD_mem (d := dZ) hj, rfl⟩
    obtain ⟨m, hm, e⟩ := List.getElem_of_mem hn
    refine ⟨m, hm, seg_mem.2 ⟨j, hj, rfl, ?_, ?_⟩⟩
    · rw [List.getD_eq_getElem?_getD (l := nodesO l node), List.getElem?_eq_getElem hm, e]; rfl
    · unfold selK at hs
      cases k with
      | false => simp only [and_true]; omega
      | true => simp at hs; exact .inr hs
  · rintro ⟨m, hm, hx⟩
    obtain ⟨j, hj, rfl, _, hk⟩ := seg_mem.1 hx
    refine ⟨j, hj, rfl, ?_⟩
    unfold selK
    rcases hk with ⟨_, rfl⟩ | hk
    · rfl
    · rw [hk]; simp
end Go.Zn
