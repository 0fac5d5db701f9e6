/- A PART OF THE PROOF. NO CONDITION. -/
import Derived.Test.YtgcedkklmmdabaaSxE
import Derived.Laws.Append
set_option linter.unusedSimpArgs false
set_option linter.unusedVariables false
set_option linter.unusedVariables false
set_option linter.unusedSimpArgs false
namespace Go.SX

/-- rows of k cells, as they lie behind A -/
def RowsAt (X : PH) (w : World) (A : Option Addr) (k : Nat) (rows : List (List SV)) : Prop :=
  ∀ i row, rows[i]? = some row → row.length = k ∧ allOne row = true ∧ ∃ b off, A = some ⟨b, off, none⟩ ∧ ∀ (j : Nat) (sv : SV), row[j]? = some sv → ∃ u, w.cell? ⟨b, off + (i * k + j), none⟩ = some u ∧ Rv X noKeys sv u

theorem chunk_length : ∀ (n k : Nat) (cs : List SV), (chunk n k cs).length = n
  | 0, _, _ => rfl
  | n + 1, k, cs => by simp [chunk, chunk_length n k]
theorem chunk_get : ∀ (n k : Nat) (cs : List SV) (i : Nat), i < n → (chunk n k cs)[i]? = some ((cs.drop (i * k)).take k)
  | 0, _, _, _, h => by omega
  | n + 1, k, cs, 0, _ => by simp [chunk]
  | n + 1, k, cs, i + 1, h => by
    simp only [chunk, List.getElem?_cons_succ]
    rw [chunk_get n k (cs.drop k) i (by omega), List.drop_drop]
    congr 3; rw [Nat.add_mul]; omega
theorem allOne_spec : ∀ {cs : List SV}, allOne cs = true → ∀ s ∈ cs, oneC s = true
  | [], _, s, hs => by cases hs
  | x :: r, h, s, hs => by
    simp only [allOne] at h
    cases hx : oneC x with
    | false => simp [hx] at h
    | true =>
      simp only [hx] at h
      rcases List.mem_cons.1 hs with rfl | hs
      · exact hx
      · exact allOne_spec h s hs
theorem allOne_mk : ∀ {cs : List SV}, (∀ s ∈ cs, oneC s = true) → allOne cs = true
  | [], _ => rfl
  | x :: r, h => by
    have h1 := h x List.mem_cons_self
    simp only [allOne, h1]
    exact allOne_mk fun s hs => h s (List.mem_cons_of_mem _ hs)

theorem rowsOf_sound {X : PH} {ρ : Rho} {B : Bl} {w : World} (hm : Mem X ρ B w) {k : Nat} {s : SV} {v : Value} (hv : Rv X ρ s v) {K : List (List SV) → Prop} (h : rowsOf B k s K) :
    ∃ rows A c, K rows ∧ v = .slice A rows.length c ∧ rows.length ≤ c ∧ RowsAt X w A k rows := by
  have empty : ∀ A, RowsAt X w A k [] := fun A i row hi => by simp at hi
  cases hv with
  | e0 _ A => exact ⟨[], A, 0, h, rfl, Nat.le_refl _, empty A⟩
  | val _ v =>
    simp only [rowsOf] at h
    split at h
    · rename_i he
      cases he
    · rename_i he
      cases he
      exact ⟨[], none, 0, h, rfl, Nat.le_refl _, empty _⟩
    · rename_i he; cases he
    · rename_i he; cases he
    · exact h.elim
  | ro _ α d enc xs A c b p cs ty fz cell hc hA hk hcs hr =>
    simp only [rowsOf] at h
    cases hb : Nat.beq k (enc d).length with
    | false => simp only [hb] at h
    | true =>
      simp only [hb] at h
      have hkk := Nat.eq_of_beq_eq_true hb
      refine ⟨_, A, c, h, by simp, by simpa using hc, fun i row hi => ?_⟩
      rw [List.getElem?_map] at hi
      obtain ⟨x, hx, rfl⟩ := Option.map_eq_some_iff.1 hi
      have hlt : i < xs.length := (List.getElem?_eq_some_iff.1 hx).1
      have hne : xs ≠ [] := fun e => by subst e; simp at hx
      refine ⟨by rw [(hk x).1, hkk], (hk x).2, b, p, (hA hne).1, fun j sv hj => ⟨cell i j, ?_, hr i j x sv hx hj⟩⟩
      have hjl : j < (enc d).length := by rw [← (hk x).1]; exact (List.getElem?_eq_some_iff.1 hj).1
      rw [cell_of_heap (hm.sub _ _ (hA hne).2), hkk]
      exact hcs i j hlt hjl
  | sl _ key k' o n c A hn hA =>
    simp only [rowsOf] at h
    cases hb : Nat.beq k k' with
    | false => simp only [hb] at h
    | true =>
      have hkk := Nat.eq_of_beq_eq_true hb
      subst hkk
      cases hg : Bl.get B key with
      | none => simp only [hb, hg] at h
      | some lb =>
        have hok := hm.own key _ hg
        cases lb with
        | mp isA n α d enc es => simp only [hb, hg] at h
        | objAt n svs mk => simp only [hb, hg] at h
        | cells cs =>
          simp only [hb, hg] at h
          cases h1 : Nat.ble ((o + n) * k) cs.length with
          | false => simp only [h1] at h
          | true =>
            cases h2 : allNoKey cs && allOne cs with
            | false => simp only [h1, h2] at h
            | true =>
              simp only [h1, h2] at h
              rw [Bool.and_eq_true] at h2
              have hle := Nat.le_of_ble_eq_true h1
              refine ⟨_, A, c, h, by rw [chunk_length], by rw [chunk_length]; exact hn, fun i row hi => ?_⟩
              have hin : i < n := by have := (List.getElem?_eq_some_iff.1 hi).1; rwa [chunk_length] at this
              rw [chunk_get _ _ _ _ hin] at hi
              cases hi
              have hmul : (i + 1) * k ≤ n * k := Nat.mul_le_mul_right k hin
              rw [Nat.add_mul] at hmul
              rw [Nat.add_mul] at hle
              have hlen : (List.take k (List.drop (i * k) (List.drop (o * k) cs))).length = k := by simp; omega
              refine ⟨hlen, allOne_mk fun s hs => allOne_spec h2.2 s (List.mem_of_mem_drop (List.mem_of_mem_drop (List.mem_of_mem_take hs))), ?_⟩
              have hl : ∃ l, ρ key = some l ∧ A = some ⟨l.b, l.p + o * k, none⟩ ∧ l.p + (o + c) * k ≤ l.sz := hA.resolve_left (by omega)
              obtain ⟨l, hl1, hl2, hl3⟩ := hl
              rw [hl1] at hok
              obtain ⟨h0, cc, ty, g1, g2, g3, g4⟩ := hok
              refine ⟨l.b, l.p + o * k, hl2, fun j sv hj => ?_⟩
              have hj2 : cs[o * k + (i * k + j)]? = some sv := by
                rw [List.getElem?_take] at hj
                split at hj
                · rw [List.getElem?_drop, List.getElem?_drop] at hj; exact hj
                · cases hj
              obtain ⟨u, hu1, hu2⟩ := g4 _ _ hj2
              refine ⟨u, ?_, hu2.unkey (allNoKey_spec h2.1 _ _ hj2)⟩
              rw [cell_of_heap g1, Nat.add_assoc]; exact hu1
        | arr α d enc xs =>
          simp only [hb, hg] at h
          cases h1 : Nat.beq k (enc d).length with
          | false => simp only [h1] at h
          | true =>
            simp only [h1] at h
            have hkd := Nat.eq_of_beq_eq_true h1
            obtain ⟨hon, h⟩ := h
            have hlen : (((xs.drop o).take n).map enc).length = n := by simp; omega
            refine ⟨_, A, c, h, by rw [hlen], by rw [hlen]; exact hn, fun i row hi => ?_⟩
            have hin : i < n := by have := (List.getElem?_eq_some_iff.1 hi).1; rwa [hlen] at this
            rw [List.getElem?_map] at hi
            obtain ⟨x, hx, rfl⟩ := Option.map_eq_some_iff.1 hi
            rw [List.getElem?_take, if_pos hin, List.getElem?_drop] at hx
            have hl : ∃ l, ρ key = some l ∧ A = some ⟨l.b, l.p + o * k, none⟩ ∧ l.p + (o + c) * k ≤ l.sz := hA.resolve_left (by omega)
            obtain ⟨l, hl1, hl2, hl3⟩ := hl
            rw [hl1] at hok
            obtain ⟨h0, hu, cc, ty, g1, g2, g3, g4⟩ := hok
            refine ⟨by rw [(hu x).1, hkd], (hu x).2, l.b, l.p + o * k, hl2, fun j sv hj => ?_⟩
            obtain ⟨u, hu1, hu2⟩ := g4 _ _ _ _ hx hj
            refine ⟨u, ?_, hu2⟩
            rw [cell_of_heap g1, ← hu1, hkd]
            congr 1; rw [Nat.add_mul]; omega
  | any => simp [rowsOf] at h
  | tt => simp [rowsOf] at h
  | ff => simp [rowsOf] at h
  | ptr => simp [rowsOf] at h
  | ptrE => simp [rowsOf] at h
  | row => simp [rowsOf] at h
  | rowE => simp [rowsOf] at h
  | rop => simp [rowsOf] at h
  | ropE => simp [rowsOf] at h
  | agg => simp [rowsOf] at h
  | tup => simp [rowsOf] at h
  | clo => simp [rowsOf] at h
  | one => simp [rowsOf] at h
  | mapv => simp [rowsOf] at h

/-- the cells of rows, one behind the other -/
theorem rows_cells {X : PH} {w : World} {A : Option Addr} {k : Nat} {rows : List (List SV)} (h : RowsAt X w A k rows) :
    ∃ us : List Value, us.length = rows.length * k ∧ (∀ u ∈ us, u.oneCell' = true) ∧ (∀ (b off : Nat), A = some ⟨b, off, none⟩ → ∀ j u, us[j]? = some u → w.cell? ⟨b, off + j, none⟩ = some u) ∧
      ∀ (i j : Nat) (row : List SV) (sv : SV), rows[i]? = some row → row[j]? = some sv → ∃ u, us[i * k + j]? = some u ∧ Rv X noKeys sv u := by
  by_cases hr : rows = []
  · subst hr
    exact ⟨[], by simp, by simp, by simp, fun i j row sv hi => by simp at hi⟩
  · obtain ⟨row0, hrow0⟩ : ∃ r, rows[0]? = some r := by
      cases rows with
      | nil => exact absurd rfl hr
      | cons r _ => exact ⟨r, rfl⟩
    obtain ⟨_, _, b, off, hA, _⟩ := h 0 row0 hrow0
    by_cases hk : k = 0
    · subst hk
      exact ⟨[], by simp, by simp, by simp, fun i j row sv hi hj => by
        have := (h i row hi).1
        have := (List.getElem?_eq_some_iff.1 hj).1
        omega⟩
    have hflat : ∀ q, q < rows.length * k → ∃ row sv, rows[q / k]? = some row ∧ row[q % k]? = some sv ∧ ∃ u, w.cell? ⟨b, off + q, none⟩ = some u ∧ Rv X noKeys sv u ∧ u.oneCell' = true := fun q hq => by
      have hi : q / k < rows.length := Nat.div_lt_of_lt_mul (by rwa [Nat.mul_comm])
      obtain ⟨h1, h2, b', off', hA', h3⟩ := h (q / k) rows[q / k] (by simp [hi])
      rw [hA] at hA'
      cases hA'
      have hj : q % k < rows[q / k].length := by rw [h1]; exact Nat.mod_lt _ (by omega)
      obtain ⟨u, hu1, hu2⟩ := h3 (q % k) rows[q / k][q % k] (by simp [hj])
      have hqe : q / k * k + q % k = q := by rw [Nat.mul_comm]; exact Nat.div_add_mod q k
      rw [hqe] at hu1
      exact ⟨rows[q / k], rows[q / k][q % k], by simp [hi], by simp [hj], u, hu1, hu2, hu2.oneC (allOne_spec h2 _ (List.getElem_mem _))⟩
    obtain ⟨us, hul, hus⟩ := choose_list (R := fun q (_ : Unit) u => ∃ row sv, rows[q / k]? = some row ∧ row[q % k]? = some sv ∧ w.cell? ⟨b, off + q, none⟩ = some u ∧ Rv X noKeys sv u ∧ u.oneCell' = true)
      (List.replicate (rows.length * k) ()) 0 (fun i a hi => by
        have hi2 : i < rows.length * k := by have := (List.getElem?_eq_some_iff.1 hi).1; simpa using this
        obtain ⟨row, sv, a1, a2, u, a3⟩ := hflat i hi2
        exact ⟨u, row, sv, by simpa using a1, by simpa using a2, by simpa using a3⟩)
    have hul' : us.length = rows.length * k := by simpa using hul
    have get : ∀ q u, us[q]? = some u → ∃ row sv, rows[q / k]? = some row ∧ row[q % k]? = some sv ∧ w.cell? ⟨b, off + q, none⟩ = some u ∧ Rv X noKeys sv u ∧ u.oneCell' = true := fun q u hq => by
      have hq2 : q < rows.length * k := by rw [← hul']; exact (List.getElem?_eq_some_iff.1 hq).1
      have := hus q () u (by simp [hq2]) hq
      simpa using this
    refine ⟨us, hul', fun u hu => ?_, fun b' off' hA' j u hj => ?_, fun i j row sv hi hj => ?_⟩
    · obtain ⟨q, hq, rfl⟩ := List.mem_iff_getElem.1 hu
      obtain ⟨_, _, _, _, _, _, h6⟩ := get q us[q] (by simp [hq])
      exact h6
    · rw [hA] at hA'
      cases hA'
      obtain ⟨_, _, _, _, h3, _⟩ := get j u hj
      exact h3
    · have hil : i < rows.length := (List.getElem?_eq_some_iff.1 hi).1
      have hjk : j < k := by rw [← (h i row hi).1]; exact (List.getElem?_eq_some_iff.1 hj).1
      have hmul : (i + 1) * k ≤ rows.length * k := Nat.mul_le_mul_right k hil
      rw [Nat.add_mul] at hmul
      have hq : i * k + j < us.length := by omega
      obtain ⟨row', sv', h1, h2, h3, h4, h5⟩ := get (i * k + j) us[i * k + j] (by simp [hq])
      have hd : (i * k + j) / k = i := by rw [Nat.mul_comm, Nat.mul_add_div (by omega)]; simp [Nat.div_eq_of_lt hjk]
      have hmo : (i * k + j) % k = j := by rw [Nat.mul_comm, Nat.mul_add_mod]; exact Nat.mod_eq_of_lt hjk
      rw [hd, hi] at h1
      cases h1
      rw [hmo, hj] at h2
      cases h2
      exact ⟨us[i * k + j], by simp [hq], h4⟩
end Go.SX
