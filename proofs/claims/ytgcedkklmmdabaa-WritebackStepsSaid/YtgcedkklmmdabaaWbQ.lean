/- A PART OF THE PROOF. NO CONDITION. -/
import Derived.Test.YtgcedkklmmdabaaWbP
noncomputable section
set_option linter.unusedVariables false
set_option linter.unusedVariables false
set_option linter.unusedSimpArgs false
namespace Go.Wb
open Go.Proofs Go.SX
set_option maxRecDepth 100000

/-! the runs of a sorted list of places -/
def runP : List PL → Int → Int → Nat → Nat
  | [], _, _, _ => 0
  | _ :: _, _, _, 0 => 0
  | q :: r, f, i, m + 1 => if q.file = f ∧ q.index = i then runP r f (i + 1) m + 1 else 0
def chop (most : Nat) : Nat → List PL → List DR
  | 0, _ => []
  | _ + 1, [] => []
  | k + 1, p :: S => ⟨p.file, p.index, runP (p :: S) p.file p.index most⟩ :: chop most k ((p :: S).drop (runP (p :: S) p.file p.index most))
theorem runP_pos {p : PL} {S : List PL} {m : Nat} (h : 1 ≤ m) : 1 ≤ runP (p :: S) p.file p.index m := by
  obtain ⟨k, rfl⟩ : ∃ k, m = k + 1 := ⟨m - 1, by omega⟩
  unfold runP
  rw [if_pos ⟨rfl, rfl⟩]; omega
theorem runP_le : ∀ (S : List PL) (f i : Int) (m : Nat), runP S f i m ≤ m ∧ runP S f i m ≤ S.length
  | [], _, _, _ => by simp [runP]
  | _ :: _, _, _, 0 => by simp [runP]
  | q :: r, f, i, m + 1 => by
    unfold runP
    split
    · have := runP_le r f (i + 1) m
      simp only [List.length_cons]; omega
    · omega
/-- as the loop counts -/
theorem runP_step : ∀ (S : List PL) (f i : Int) (m n : Nat), n ≤ runP S f i m → (n = runP S f i m ↔ ¬ (n < m ∧ n < S.length ∧ (S.getD n dPL).file = f ∧ (S.getD n dPL).index = i + n))
  | [], _, _, _, n, h => by simp [runP] at h ⊢; omega
  | _ :: _, _, _, 0, n, h => by simp [runP] at h ⊢; omega
  | q :: r, f, i, m + 1, 0, h => by
    unfold runP
    split
    · rename_i hq
      constructor
      · intro h; omega
      · intro h; exact absurd ⟨by omega, by simp, by simpa using hq.1, by simpa using hq.2⟩ h
    · rename_i hq
      simp only [List.getD_cons_zero]
      constructor
      · rintro _ ⟨_, _, h1, h2⟩; exact hq ⟨h1, by simpa using h2⟩
      · intro _; trivial
  | q :: r, f, i, m + 1, n + 1, h => by
    unfold runP at h ⊢
    split at h
    · rename_i hq
      rw [if_pos hq]
      have := runP_step r f (i + 1) m n (by omega)
      have e : i + 1 + (n : Int) = i + ((n + 1 : Nat) : Int) := by push_cast; omega
      rw [e] at this
      simp only [List.getD_cons_succ, List.length_cons]
      constructor
      · rintro h ⟨h1, h2, h3⟩; exact this.1 (by omega) ⟨by omega, by omega, h3⟩
      · intro h
        have := this.2 (fun ⟨h1, h2, h3⟩ => h ⟨by omega, by omega, h3⟩)
        omega
    · omega
theorem runP_match : ∀ (S : List PL) (f i : Int) (m k : Nat), k < runP S f i m → (S.getD k dPL).file = f ∧ (S.getD k dPL).index = i + k
  | [], _, _, _, k, h => by simp [runP] at h
  | _ :: _, _, _, 0, k, h => by simp [runP] at h
  | q :: r, f, i, m + 1, k, h => by
    unfold runP at h
    split at h
    · rename_i hq
      cases k with
      | zero => simpa using hq
      | succ k =>
        have := runP_match r f (i + 1) m k (by omega)
        simp only [List.getD_cons_succ]
        refine ⟨this.1, by rw [this.2]; push_cast; omega⟩
    · omega

/-- all places of a run -/
def expand (x : DR) : List PL := (List.range x.count.toNat).map fun k : Nat => (⟨x.file, x.index + k⟩ : PL)
theorem take_runP (S : List PL) (f i : Int) (m : Nat) : S.take (runP S f i m) = (List.range (runP S f i m)).map fun k : Nat => (⟨f, i + k⟩ : PL) := by
  have hl := (runP_le S f i m).2
  apply List.ext_getElem
  · simp; omega
  · intro k h1 h2
    simp only [List.length_take] at h1
    rw [List.getElem_take, List.getElem_map, List.getElem_range]
    have := runP_match S f i m k (by omega)
    rw [getD_get (by omega)] at this
    obtain ⟨a, b⟩ := this
    generalize S[k] = q at *
    obtain ⟨x, y⟩ := q
    simp only at a b
    subst a; subst b; rfl
theorem chop_flat {most : Nat} (hm : 1 ≤ most) : ∀ (k : Nat) (S : List PL), S.length ≤ k → (chop most k S).flatMap expand = S
  | 0, S, h => by
    have : S = [] := List.eq_nil_of_length_eq_zero (by omega)
    subst this; rfl
  | k + 1, [], _ => rfl
  | k + 1, p :: S, h => by
    unfold chop
    have hp := runP_pos (p := p) (S := S) hm
    rw [List.flatMap_cons, chop_flat hm k _ (by rw [List.length_drop]; omega)]
    have : expand ⟨p.file, p.index, (runP (p :: S) p.file p.index most : Nat)⟩ = (p :: S).take (runP (p :: S) p.file p.index most) := by
      rw [take_runP]; unfold expand; simp
    rw [this, List.take_append_drop]
theorem chop_count {most : Nat} (hm : 1 ≤ most) : ∀ (k : Nat) (S : List PL) (x : DR), x ∈ chop most k S → 1 ≤ x.count ∧ x.count ≤ most
  | 0, S, x, h => by simp [chop] at h
  | k + 1, [], x, h => by simp [chop] at h
  | k + 1, p :: S, x, h => by
    unfold chop at h
    rcases List.mem_cons.1 h with rfl | h
    · have hp := runP_pos (p := p) (S := S) hm
      have := (runP_le (p :: S) p.file p.index most).1
      simp only
      omega
    · exact chop_count hm k _ x h
/-- a run that is shorter than the limit is not followed by its neighbour -/
def apart (most : Nat) (x y : DR) : Prop := x.file = y.file → x.index + x.count = y.index → x.count = most
theorem chop_apart {most : Nat} (hm : 1 ≤ most) : ∀ (k : Nat) (S : List PL), S.length ≤ k → ∀ i, i + 1 < (chop most k S).length → apart most ((chop most k S).getD i dDR) ((chop most k S).getD (i + 1) dDR)
  | 0, S, h, i, hi => by simp [chop] at hi
  | k + 1, [], h, i, hi => by simp [chop] at hi
  | k + 1, p :: S, h, i, hi => by
    unfold chop at hi ⊢
    have hp := runP_pos (p := p) (S := S) hm
    have hs := (runP_step (p :: S) p.file p.index most _ (Nat.le_refl _)).1 rfl
    have hle := (runP_le (p :: S) p.file p.index most).1
    generalize runP (p :: S) p.file p.index most = n at *
    cases i with
    | succ i =>
      simp only [List.getD_cons_succ]
      exact chop_apart hm k _ (by rw [List.length_drop]; omega) i (by simpa using hi)
    | zero =>
      simp only [List.getD_cons_succ, List.getD_cons_zero]
      cases k with
      | zero => simp [chop] at hi
      | succ k =>
        cases hd : (p :: S).drop n with
        | nil => rw [hd] at hi; simp [chop] at hi
        | cons q T =>
          rw [hd] at hi
          have he : chop most (k + 1) (q :: T) = ⟨q.file, q.index, runP (q :: T) q.file q.index most⟩ :: chop most k ((q :: T).drop (runP (q :: T) q.file q.index most)) := rfl
          rw [he]
          simp only [List.getD_cons_zero]
          intro h1 h2
          simp only at h1 h2 ⊢
          have hlt : n < (p :: S).length := by
            by_cases hlt : n < (p :: S).length
            · exact hlt
            · rw [List.drop_eq_nil_of_le (by omega)] at hd; cases hd
          have hq : (p :: S).getD n dPL = q := by
            rw [getD_get hlt]
            have := List.drop_eq_getElem_cons hlt
            rw [hd] at this
            exact (List.cons.inj this).1.symm
          rw [hq] at hs
          have : ¬ n < most := fun hlm => hs ⟨hlm, hlt, h1.symm, h2.symm⟩
          omega
theorem chop_fuel {most : Nat} (hm : 1 ≤ most) : ∀ (k k' : Nat) (S : List PL), S.length ≤ k → S.length ≤ k' → chop most k S = chop most k' S
  | 0, k', S, h, _ => by
    have : S = [] := List.eq_nil_of_length_eq_zero (by omega)
    subst this; cases k' <;> rfl
  | k + 1, 0, S, _, h => by
    have : S = [] := List.eq_nil_of_length_eq_zero (by omega)
    subst this; rfl
  | k + 1, k' + 1, [], _, _ => rfl
  | k + 1, k' + 1, p :: S, h, h' => by
    unfold chop
    have hp := runP_pos (p := p) (S := S) hm
    rw [chop_fuel hm k k' _ (by rw [List.length_drop]; omega) (by rw [List.length_drop]; omega)]

/-! the reference's runs -/
def run (H : Nat → Bool) : Nat → Nat → Nat
  | _, 0 => 0
  | c, k + 1 => if H c = true then run H (c + 1) k + 1 else 0
def scan (H : Nat → Bool) (most : Nat) : Nat → Nat → List (Nat × Nat)
  | 0, _ => []
  | k + 1, i => if 16 ≤ i then [] else if run H i (min most (16 - i)) = 0 then scan H most k (i + 1) else (i, run H i (min most (16 - i))) :: scan H most k (i + run H i (min most (16 - i)))
theorem run_le (H : Nat → Bool) : ∀ k c, run H c k ≤ k
  | 0, _ => by simp [run]
  | k + 1, c => by
    unfold run
    split
    · have := run_le H k (c + 1); omega
    · omega
theorem run_zero (H : Nat → Bool) {c k : Nat} (h : H c = false) : run H c k = 0 := by cases k <;> simp [run, h]
theorem run_pos (H : Nat → Bool) {c k : Nat} (h : H c = true) (hk : 1 ≤ k) : 1 ≤ run H c k := by
  obtain ⟨j, rfl⟩ : ∃ j, k = j + 1 := ⟨k - 1, by omega⟩
  unfold run; rw [if_pos h]; omega
/-- as the loop counts -/
theorem run_step (H : Nat → Bool) : ∀ (k c n : Nat), n ≤ run H c k → (n = run H c k ↔ ¬ (n < k ∧ H (c + n) = true))
  | 0, c, n, h => by simp [run] at h ⊢; omega
  | k + 1, c, 0, h => by
    unfold run
    split
    · rename_i hc; constructor
      · intro h; omega
      · intro h; exact absurd ⟨by omega, by simpa using hc⟩ h
    · rename_i hc; constructor
      · rintro _ ⟨_, h⟩; exact hc (by simpa using h)
      · intro _; rfl
  | k + 1, c, n + 1, h => by
    unfold run at h ⊢
    split at h
    · rename_i hc
      rw [if_pos hc]
      have := run_step H k (c + 1) n (by omega)
      rw [show c + 1 + n = c + (n + 1) by omega] at this
      constructor
      · rintro h ⟨h1, h2⟩; exact this.1 (by omega) ⟨by omega, h2⟩
      · intro h
        have := this.2 (fun ⟨h1, h2⟩ => h ⟨by omega, h2⟩)
        omega
    · omega
def Lf (H : Nat → Bool) (f : Int) (c : Nat) : List PL := ((List.range' c (16 - c)).filter H).map fun j : Nat => (⟨f, j⟩ : PL)
theorem Lf_end {H : Nat → Bool} {f : Int} {c : Nat} (h : 16 ≤ c) : Lf H f c = [] := by
  unfold Lf; rw [show 16 - c = 0 by omega]; rfl
theorem Lf_step {H : Nat → Bool} {f : Int} {c : Nat} (h : c < 16) : Lf H f c = if H c = true then ⟨f, c⟩ :: Lf H f (c + 1) else Lf H f (c + 1) := by
  unfold Lf
  rw [show 16 - c = (16 - (c + 1)) + 1 by omega, List.range'_succ, List.filter_cons]
  split <;> rfl
theorem Lf_mem {H : Nat → Bool} {f : Int} {c : Nat} {q : PL} : q ∈ Lf H f c ↔ q.file = f ∧ ∃ j : Nat, q.index = j ∧ c ≤ j ∧ j < 16 ∧ H j = true := by
  unfold Lf
  simp only [List.mem_map, List.mem_filter, List.mem_range'_1]
  constructor
  · rintro ⟨j, ⟨⟨h1, h2⟩, h3⟩, rfl⟩; exact ⟨rfl, j, rfl, h1, by omega, h3⟩
  · rintro ⟨rfl, j, h1, h2, h3, h4⟩; exact ⟨j, ⟨⟨h2, by omega⟩, h4⟩, by cases q; simp only at h1; subst h1; rfl⟩
theorem runP_nil {L : List PL} {f i : Int} {m : Nat} (h : ∀ q ∈ L, ¬ (q.file = f ∧ q.index = i)) : runP L f i m = 0 := by
  cases L with
  | nil => rfl
  | cons q r =>
    cases m with
    | zero => rfl
    | succ m => unfold runP; rw [if_neg (h q (by simp))]
theorem runP_Lf {H : Nat → Bool} {f : Int} {T : List PL} (hT : ∀ q ∈ T, q.file ≠ f) : ∀ (m c : Nat), runP (Lf H f c ++ T) f c m = run H c (min m (16 - c))
  | 0, c => by
    rw [Nat.zero_min]
    unfold run
    generalize Lf H f c ++ T = X
    cases X <;> rfl
  | m + 1, c => by
    by_cases hc : c < 16
    · rw [Lf_step hc]
      have hmin : min (m + 1) (16 - c) = min m (16 - (c + 1)) + 1 := by omega
      rw [hmin]
      by_cases hH : H c = true
      · rw [if_pos hH, List.cons_append]
        unfold runP run
        rw [if_pos ⟨rfl, rfl⟩, if_pos hH]
        have := runP_Lf (H := H) hT m (c + 1)
        rw [← this]
        push_cast
        rfl
      · rw [if_neg hH]
        rw [run_zero H (by simpa using hH)]
        refine runP_nil fun q hq ⟨h1, h2⟩ => ?_
        rcases List.mem_append.1 hq with hq | hq
        · obtain ⟨_, j, h3, h4, _⟩ := Lf_mem.1 hq; omega
        · exact hT q hq h1
    · rw [Lf_end (by omega), show min (m + 1) (16 - c) = 0 by omega]
      unfold run
      exact runP_nil fun q hq ⟨h1, _⟩ => hT q (by simpa using hq) h1
theorem drop_Lf {H : Nat → Bool} {f : Int} {T : List PL} : ∀ (k c : Nat), k ≤ 16 - c → (Lf H f c ++ T).drop (run H c k) = Lf H f (c + run H c k) ++ T
  | 0, c, _ => by simp [run]
  | k + 1, c, h => by
    unfold run
    split
    · rename_i hH
      rw [Lf_step (by omega), if_pos hH, List.cons_append, List.drop_succ_cons, drop_Lf k (c + 1) (by omega)]
      rw [show c + 1 + run H (c + 1) k = c + (run H (c + 1) k + 1) by omega]
    · simp
theorem Lf_len {H : Nat → Bool} {f : Int} : ∀ (c : Nat), (Lf H f c).length ≤ 16 - c := fun c => by
  unfold Lf; rw [List.length_map]; exact Nat.le_trans (List.length_filter_le _ _) (by simp)
theorem chop_scan {H : Nat → Bool} {f : Int} {T : List PL} {most : Nat} (hm : 1 ≤ most) (hT : ∀ q ∈ T, q.file ≠ f) : ∀ (n c k k' : Nat), 16 - c ≤ n → n ≤ k → (Lf H f c ++ T).length ≤ k' → 
    chop most k' (Lf H f c ++ T) = (scan H most k c).map (fun x => (⟨f, x.1, x.2⟩ : DR)) ++ chop most k' T
  | 0, c, k, k', h, _, _ => by
    rw [Lf_end (by omega)]
    cases k with
    | zero => rfl
    | succ k => unfold scan; rw [if_pos (by omega)]; rfl
  | n + 1, c, 0, k', _, h, _ => by omega
  | n + 1, c, k + 1, k', h1, h2, h3 => by
    unfold scan
    by_cases hc : 16 ≤ c
    · rw [if_pos hc, Lf_end hc]; rfl
    rw [if_neg hc]
    by_cases hH : H c = true
    · have hp := run_pos H hH (k := min most (16 - c)) (by omega)
      rw [if_neg (by omega)]
      have hr := runP_Lf (H := H) hT most c
      have hd := drop_Lf (H := H) (f := f) (T := T) (min most (16 - c)) c (by omega)
      have hrl := run_le H (min most (16 - c)) c
      have e : Lf H f c ++ T = ⟨f, c⟩ :: (Lf H f (c + 1) ++ T) := by rw [Lf_step (by omega), if_pos hH]; rfl
      have hlen : ((Lf H f c ++ T).drop (run H c (min most (16 - c)))).length + 1 ≤ (Lf H f c ++ T).length := by
        rw [List.length_drop]
        have : 1 ≤ (Lf H f c ++ T).length := by rw [e]; simp
        omega
      generalize run H c (min most (16 - c)) = r at *
      have hk' : ∃ j, k' = j + 1 := ⟨k' - 1, by rw [e] at h3; simp at h3; omega⟩
      obtain ⟨j, rfl⟩ := hk'
      have step : chop most (j + 1) (Lf H f c ++ T) = ⟨f, c, r⟩ :: chop most j ((Lf H f c ++ T).drop r) := by
        rw [e] at hr ⊢
        conv => lhs; unfold chop
        simp only
        rw [hr]
      rw [step, hd, List.map_cons, List.cons_append]
      congr 1
      rw [hd] at hlen
      rw [chop_fuel hm j (j + 1) _ (by omega) (by omega)]
      exact chop_scan hm hT n (c + r) k (j + 1) (by omega) (by omega) (by omega)
    · rw [if_pos (run_zero H (by simpa using hH)), Lf_step (by omega), if_neg hH]
      refine chop_scan hm hT n (c + 1) k k' (by omega) (by omega) ?_
      rw [Lf_step (by omega), if_neg hH] at h3
      exact h3
end Go.Wb
