/- A PART OF THE PROOF. NO CONDITION. -/
import Derived.Test.YtgcedkklmmdabaaWbI
noncomputable section
set_option linter.unusedVariables false
set_option linter.unusedVariables false
set_option linter.unusedSimpArgs false
namespace Go.Wb
open Go.Proofs Go.SX
set_option maxRecDepth 100000

/-! the order of writing -/
def lex (a b : DP) : Prop := a.since < b.since ∨ (a.since = b.since ∧ (a.file < b.file ∨ (a.file = b.file ∧ a.index < b.index)))
theorem compareI_lt (a b : DP) : compareI a b < 0 ↔ lex a b := by
  simp only [compareI, orI, cmpI, lex]
  repeat' split
  all_goals omega
theorem before_iff (a b : DP) : before a b = true ↔ lex a b := by
  unfold before lex
  repeat' split
  all_goals simp only [decide_eq_true_eq]
  all_goals omega
theorem lex_irrefl (a : DP) : ¬ lex a a := by unfold lex; omega
theorem lex_trans {a b c : DP} (h : lex a b) (h' : lex b c) : lex a c := by unfold lex at *; omega
theorem lex_asymm {a b : DP} (h : lex a b) : ¬ lex b a := by unfold lex at *; omega
theorem lex_anti {a b : DP} (h : ¬ lex a b) (h' : ¬ lex b a) : a = b := by
  unfold lex at *
  obtain ⟨a1, a2, a3⟩ := a
  obtain ⟨b1, b2, b3⟩ := b
  simp only at h h'
  have : a1 = b1 ∧ a2 = b2 ∧ a3 = b3 := by omega
  obtain ⟨rfl, rfl, rfl⟩ := this; rfl
theorem lex_ntrans {a b c : DP} (h : ¬ lex a b) (h' : ¬ lex b c) : ¬ lex a c := by unfold lex at *; omega
abbrev le (x y : DP) : Prop := ¬ compareI y x < 0
theorem le_iff {x y : DP} : le x y ↔ ¬ lex y x := by unfold le; rw [compareI_lt]

theorem sorted_unique {α : Type} {r : α → α → Prop} (anti : ∀ a b, r a b → r b a → a = b) : ∀ {A B : List α}, A.Pairwise r → B.Pairwise r → A.Perm B → A = B
  | [], B, _, _, h => (List.nil_perm.1 h).symm ▸ rfl
  | a :: A, [], _, _, h => by have := h.length_eq; simp at this
  | a :: A, b :: B, hA, hB, h => by
    rw [List.pairwise_cons] at hA hB
    have hab : a = b := by
      have h1 : a ∈ b :: B := h.mem_iff.1 (by simp)
      have h2 : b ∈ a :: A := h.mem_iff.2 (by simp)
      rcases List.mem_cons.1 h1 with e | h1
      · exact e
      rcases List.mem_cons.1 h2 with e | h2
      · exact e.symm
      exact anti _ _ (hA.1 b h2) (hB.1 a h1)
    subst hab
    rw [sorted_unique anti hA.2 hB.2 ((List.perm_cons a).1 h)]

theorem insAt_spec (p : DP) (R : List DP) : ∀ k, k ≤ R.length → (∀ j, insAt p R k ≤ j → j < k → lex p (R.getD j dDP)) ∧ (insAt p R k = 0 ∨ ¬ lex p (R.getD (insAt p R k - 1) dDP))
  | 0, _ => ⟨fun j h1 h2 => by omega, .inl rfl⟩
  | k + 1, hk => by
    unfold insAt
    split
    · rename_i hc
      rw [before_iff] at hc
      obtain ⟨h1, h2⟩ := insAt_spec p R k (by omega)
      refine ⟨fun j hj1 hj2 => ?_, h2⟩
      by_cases hjk : j = k
      · subst hjk; exact hc
      · exact h1 j hj1 (by omega)
    · rename_i hc
      rw [before_iff] at hc
      exact ⟨fun j h1 h2 => by omega, .inr (by simpa using hc)⟩
theorem getD_get {α : Type} {l : List α} {d : α} {i : Nat} (h : i < l.length) : l.getD i d = l[i] := by rw [List.getD_eq_getElem?_getD, List.getElem?_eq_getElem h]; rfl
theorem insP_sorted {R : List DP} {p : DP} (hR : R.Pairwise fun x y => ¬ lex y x) : (insP R p).Pairwise fun x y => ¬ lex y x := by
  have hle := insAt_le p R R.length
  obtain ⟨h1, h2⟩ := insAt_spec p R R.length (Nat.le_refl _)
  unfold insP
  generalize insAt p R R.length = k at *
  have hsplit : (R.take k ++ R.drop k).Pairwise fun x y => ¬ lex y x := by rw [List.take_append_drop]; exact hR
  rw [List.pairwise_append] at hsplit
  obtain ⟨p1, p2, p3⟩ := hsplit
  have after : ∀ y ∈ R.drop k, lex p y := fun y hy => by
    obtain ⟨i, hi, e⟩ := List.getElem_of_mem hy
    rw [List.getElem_drop] at e
    rw [List.length_drop] at hi
    have := h1 (k + i) (by omega) (by omega)
    rwa [getD_get (by omega), e] at this
  have before' : ∀ y ∈ R.take k, ¬ lex p y := fun y hy => by
    obtain ⟨i, hi, e⟩ := List.getElem_of_mem hy
    rw [List.getElem_take] at e
    rw [List.length_take] at hi
    have hk0 : k ≠ 0 := by omega
    have hlast := h2.resolve_left hk0
    rw [getD_get (by omega)] at hlast
    by_cases hik : i = k - 1
    · subst hik; rw [← e]; exact hlast
    · have := List.pairwise_iff_getElem.1 hR i (k - 1) (by omega) (by omega) (by omega)
      rw [e] at this
      exact fun hl => hlast (by
        by_cases hq : lex p R[k - 1]
        · exact hq
        · exact absurd hl (lex_ntrans hq this))
  rw [List.pairwise_append, List.singleton_append, List.pairwise_cons]
  refine ⟨p1, ⟨fun y hy => lex_asymm (after y hy), p2⟩, fun a ha b hb => ?_⟩
  rcases List.mem_cons.1 hb with rfl | hb
  · exact before' a ha
  · exact p3 a ha b hb
theorem insP_perm (R : List DP) (p : DP) : (insP R p).Perm (p :: R) := by
  unfold insP
  have : (R.take (insAt p R R.length) ++ ([p] ++ R.drop (insAt p R R.length))).Perm (p :: (R.take (insAt p R R.length) ++ R.drop (insAt p R R.length))) := List.perm_middle
  rwa [List.take_append_drop] at this
theorem fold_sorted : ∀ (l R : List DP), R.Pairwise (fun x y => ¬ lex y x) → (l.foldl insP R).Pairwise fun x y => ¬ lex y x
  | [], _, h => h
  | p :: l, R, h => fold_sorted l _ (insP_sorted h)
theorem fold_perm : ∀ (l R : List DP), (l.foldl insP R).Perm (l ++ R)
  | [], _ => List.Perm.refl _
  | p :: l, R => (fold_perm l _).trans (((insP_perm R p).append_left l).trans List.perm_middle)
theorem ordR_sorted (l : List DP) : (ordR l).Pairwise fun x y => ¬ lex y x := fold_sorted l [] List.Pairwise.nil
theorem ordR_perm (l : List DP) : (ordR l).Perm l := by have := fold_perm l []; rwa [List.append_nil] at this
theorem ordR_unique {l d : List DP} (hp : d.Perm l) (hs : d.Pairwise le) : d = ordR l :=
  sorted_unique (fun a b h h' => (lex_anti h' h).symm ▸ rfl) (hs.imp fun h => le_iff.1 h) (ordR_sorted l) (hp.trans (ordR_perm l).symm)

/-! the next page -/
theorem eqDP_iff {p q : DP} : eqDP p q = true ↔ p = q := by
  obtain ⟨a1, a2, a3⟩ := p
  obtain ⟨b1, b2, b3⟩ := q
  simp [eqDP]
theorem best_min (l : List DP) : ∀ i, 1 ≤ i → i ≤ l.length → ∃ j : Nat, best l i = j ∧ j < i ∧ l.getD j dDP = minTo l i ∧ (∀ k, k < j → l.getD k dDP ≠ minTo l i) ∧ ∀ k, k < i → ¬ lex (l.getD k dDP) (minTo l i)
  | 0, h, _ => by omega
  | 1, _, h => ⟨0, rfl, by omega, rfl, fun k h => by omega, fun k h => by
      obtain rfl : k = 0 := by omega
      exact lex_irrefl _⟩
  | i + 2, _, h => by
    obtain ⟨j, hb, hj, hm, hf, hl⟩ := best_min l (i + 1) (by omega) (by omega)
    have hs : best l (i + 2) = bestStep l (best l (i + 1)) (i + 1) := rfl
    rw [hs, hb]
    unfold bestStep
    rw [if_neg (by omega), Int.toNat_natCast, hm]
    have hmt : minTo l (i + 2) = if compareI (l.getD (i + 1) dDP) (minTo l (i + 1)) < 0 then l.getD (i + 1) dDP else minTo l (i + 1) := rfl
    rw [hmt]
    by_cases hc : lex (l.getD (i + 1) dDP) (minTo l (i + 1))
    · rw [if_pos ((before_iff _ _).2 hc), if_pos ((compareI_lt _ _).2 hc)]
      refine ⟨i + 1, by push_cast; rfl, by omega, rfl, fun k hk he => hl k hk (he ▸ hc), fun k hk => ?_⟩
      by_cases hki : k = i + 1
      · subst hki; exact lex_irrefl _
      · exact fun hx => hl k (by omega) (lex_trans hx hc)
    · rw [if_neg (fun h => hc ((before_iff _ _).1 h)), if_neg (fun h => hc ((compareI_lt _ _).1 h))]
      refine ⟨j, rfl, by omega, hm, hf, fun k hk => ?_⟩
      by_cases hki : k = i + 1
      · subst hki; exact hc
      · exact hl k (by omega)
theorem idx_first (p : DP) : ∀ (l : List DP) (i j : Nat), j < l.length → l.getD j dDP = p → (∀ k, k < j → l.getD k dDP ≠ p) → idx p l i = ((i + j : Nat) : Int)
  | [], _, _, h, _, _ => by simp at h
  | q :: r, i, j, h, he, hn => by
    unfold idx
    cases j with
    | zero => rw [if_pos (eqDP_iff.2 (by simpa using he.symm))]; simp
    | succ j =>
      rw [if_neg (fun hq => hn 0 (by omega) (by simpa using (eqDP_iff.1 hq).symm))]
      rw [idx_first p r (i + 1) j (by simpa using h) (by simpa using he) (fun k hk => by simpa using hn (k + 1) (by omega))]
      push_cast; omega
theorem nxt_law {l : List DP} (h : chk l = 0) (h0 : 0 < l.length) : idx (minTo l l.length) l 0 = nxt l := by
  obtain ⟨j, hb, hj, hm, hf, _⟩ := best_min l l.length h0 (Nat.le_refl _)
  rw [nxt, if_pos h, hb, idx_first _ l 0 j hj hm hf]; simp
theorem nxt_empty : nxt [] = -1 := by
  unfold nxt
  split <;> rfl

/-! written pages -/
theorem full : ∀ (n : Nat) {J : List Nat}, J.Nodup → (∀ x ∈ J, x < n) → J.length ≤ n ∧ (J.length = n ↔ ∀ k, k < n → k ∈ J)
  | 0, J, _, h => by
    have : J = [] := List.eq_nil_iff_forall_not_mem.2 fun x hx => by have := h x hx; omega
    subst this; simp
  | n + 1, J, hd, h => by
    have hd' : (J.erase n).Nodup := hd.erase n
    have hm : ∀ x, x ∈ J.erase n ↔ x ≠ n ∧ x ∈ J := fun x => hd.mem_erase_iff
    obtain ⟨h1, h2⟩ := full n hd' fun x hx => by
      have := (hm x).1 hx
      have := h x this.2
      omega
    by_cases hn : n ∈ J
    · have hl : (J.erase n).length = J.length - 1 := List.length_erase_of_mem hn
      have hpos : 0 < J.length := List.length_pos_of_mem hn
      refine ⟨by omega, ⟨fun e k hk => ?_, fun e => ?_⟩⟩
      · by_cases hkn : k = n
        · subst hkn; exact hn
        · exact ((hm k).1 (h2.1 (by omega) k (by omega))).2
      · have := h2.2 fun k hk => (hm k).2 ⟨by omega, e k (by omega)⟩
        omega
    · rw [List.erase_of_not_mem hn] at h1 h2
      exact ⟨by omega, ⟨fun e => by omega, fun e => absurd (e n (by omega)) hn⟩⟩
theorem chk_nodup {l : List DP} (h : chk l = 0) : (l.map plc).Nodup := by
  unfold chk at h
  split at h
  · split at h
    · assumption
    · cases h
  · cases h
theorem len_keep (f : DP → Bool) : ∀ l : List DP, l.length = (l.filter f).length + (keep f l).length
  | [] => rfl
  | p :: l => by
    have := len_keep f l
    unfold keep at *
    simp only [List.filter_cons, List.length_cons]
    cases f p <;> simp <;> omega
theorem wr_count {l : List DP} {r : DR} (hc : chk l = 0) (hb : badRun r = false) : ((l.length : Int) - (keep (delW r) l).length = r.count ↔ hasRun l r r.count.toNat) := by
  have hn : 1 ≤ r.count := by
    unfold badRun at hb
    simp only [Bool.or_eq_false_iff, decide_eq_false_iff_not] at hb
    omega
  have hmem : ∀ p ∈ l.filter (delW r), p ∈ l ∧ p.file = r.file ∧ r.index ≤ p.index ∧ p.index < r.index + r.count := fun p hp => by
    rw [List.mem_filter] at hp
    refine ⟨hp.1, ?_⟩
    have := hp.2
    unfold delW at this
    simpa using this
  have hJ : ((l.filter (delW r)).map fun p => (p.index - r.index).toNat).Nodup := by
    have h1 : ((l.filter (delW r)).map plc).Nodup := (List.filter_sublist.map plc).nodup (chk_nodup hc)
    rw [List.Nodup, List.pairwise_map] at h1 ⊢
    refine List.Pairwise.imp_of_mem ?_ h1
    intro a b ha hb hne he
    have h2 := hmem a ha
    have h3 := hmem b hb
    exact hne (by unfold plc; rw [h2.2.1, h3.2.1]; congr 1; omega)
  obtain ⟨h1, h2⟩ := full r.count.toNat hJ fun x hx => by
    obtain ⟨p, hp, rfl⟩ := List.mem_map.1 hx
    have := hmem p hp
    omega
  have hl := len_keep (delW r) l
  rw [List.length_map] at h1 h2
  have key : (∀ k, k < r.count.toNat → k ∈ (l.filter (delW r)).map fun p => (p.index - r.index).toNat) ↔ hasRun l r r.count.toNat := by
    unfold hasRun has
    refine forall_congr' fun k => imp_congr_right fun hk => ?_
    rw [List.any_eq_true, List.mem_map]
    refine exists_congr fun p => ⟨fun ⟨hp, he⟩ => ?_, fun ⟨hp, he⟩ => ?_⟩
    · have := hmem p hp
      refine ⟨this.1, ?_⟩
      unfold isAt
      simp only [Bool.and_eq_true, decide_eq_true_eq]
      exact ⟨this.2.1, by omega⟩
    · unfold isAt at he
      simp only [Bool.and_eq_true, decide_eq_true_eq] at he
      refine ⟨List.mem_filter.2 ⟨hp, ?_⟩, by omega⟩
      unfold delW
      simp only [Bool.and_eq_true, decide_eq_true_eq]
      exact ⟨he.1, by omega, by omega⟩
  rw [← key, ← h2]
  omega
theorem keep_inRun (l : List DP) (r : DR) : keep (delW r) l = l.filter (fun p => !inRun r p) := by
  unfold keep
  congr 1
  funext p
  unfold delW inRun
  simp only [ge_iff_le, Bool.and_assoc]
theorem keep_old (l : List DP) (now age : Int) : keep (delE now age) l = l.filter (old now age) := by
  unfold keep
  congr 1
  funext p
  unfold delE old
  rw [Bool.eq_iff_iff]
  simp
end Go.Wb
