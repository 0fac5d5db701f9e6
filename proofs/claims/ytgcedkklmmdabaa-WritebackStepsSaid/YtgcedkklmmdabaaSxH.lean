/- A PART OF THE PROOF. NO CONDITION. -/
import Derived.Test.YtgcedkklmmdabaaSxG
set_option linter.unusedSimpArgs false
set_option linter.unusedVariables false
set_option linter.unusedVariables false
set_option linter.unusedSimpArgs false
namespace Go.SX

/-- the flat cells of rows that stand one behind the other -/
def Flat (X : PH) (k : Nat) (rows : List (List SV)) (us : List Value) : Prop :=
  us.length = rows.length * k ∧ ∀ (i j : Nat) (row : List SV) (sv : SV), rows[i]? = some row → row[j]? = some sv → j < k ∧ ∃ u, us[i * k + j]? = some u ∧ Rv X noKeys sv u

theorem Flat.append {X : PH} {k : Nat} {r1 r2 : List (List SV)} {u1 u2 : List Value} (h1 : Flat X k r1 u1) (h2 : Flat X k r2 u2) : Flat X k (r1 ++ r2) (u1 ++ u2) := by
  refine ⟨by rw [List.length_append, List.length_append, h1.1, h2.1, Nat.add_mul], fun i j row sv hi hj => ?_⟩
  by_cases hlt : i < r1.length
  · rw [List.getElem?_append_left hlt] at hi
    obtain ⟨hjk, u, hu, hr⟩ := h1.2 i j row sv hi hj
    have : i * k + j < u1.length := (List.getElem?_eq_some_iff.1 hu).1
    exact ⟨hjk, u, by rw [List.getElem?_append_left this]; exact hu, hr⟩
  · rw [List.getElem?_append_right (by omega)] at hi
    obtain ⟨hjk, u, hu, hr⟩ := h2.2 (i - r1.length) j row sv hi hj
    refine ⟨hjk, u, ?_, hr⟩
    have hle : r1.length * k ≤ i * k := Nat.mul_le_mul_right k (by omega)
    rw [List.getElem?_append_right (by rw [h1.1]; omega), h1.1]
    rw [← hu, Nat.sub_mul]
    congr 1; omega

theorem relax_spec : ∀ {m row : List SV}, (relax m row).length = row.length ∧ ∀ (j : Nat) sv', (relax m row)[j]? = some sv' → ∃ sv, row[j]? = some sv ∧ (sv' = sv ∨ (sv' = .one ∧ oneC sv = true))
  | [], row => by
    have e : relax [] row = row := by cases row <;> rfl
    rw [e]
    exact ⟨rfl, fun j sv' h => ⟨sv', h, .inl rfl⟩⟩
  | x :: m, [] => by
    have e : relax (x :: m) [] = [] := by cases x <;> rfl
    rw [e]
    exact ⟨rfl, fun j sv' h => by simp at h⟩
  | x :: m, c :: r => by
    obtain ⟨h1, h2⟩ := @relax_spec m r
    have e : ∃ c', relax (x :: m) (c :: r) = c' :: relax m r ∧ (c' = c ∨ (c' = .one ∧ oneC c = true)) := by
      cases x with
      | one =>
        cases hc : oneC c with
        | true => exact ⟨.one, by simp [relax, hc], .inr ⟨rfl, rfl⟩⟩
        | false => exact ⟨c, by simp [relax, hc], .inl rfl⟩
      | _ => exact ⟨c, rfl, .inl rfl⟩
    obtain ⟨c', he, hc⟩ := e
    rw [he]
    refine ⟨by simp [h1], fun j sv' h => ?_⟩
    cases j with
    | zero => simp at h; subst h; exact ⟨c, rfl, hc⟩
    | succ j => simp at h; obtain ⟨sv, a, b⟩ := h2 j sv' h; exact ⟨sv, by simpa using a, b⟩
theorem relaxL_spec (m : List SV) (rows : List (List SV)) : (relaxL m rows).length = rows.length ∧ ∀ (i : Nat) row', (relaxL m rows)[i]? = some row' → ∃ row, rows[i]? = some row ∧ row'.length = row.length ∧
    ∀ (j : Nat) sv', row'[j]? = some sv' → ∃ sv, row[j]? = some sv ∧ (sv' = sv ∨ (sv' = .one ∧ oneC sv = true)) := by
  unfold relaxL
  split
  · refine ⟨by simp, fun i row' h => ?_⟩
    rw [List.getElem?_map] at h
    obtain ⟨row, h1, rfl⟩ := Option.map_eq_some_iff.1 h
    exact ⟨row, h1, relax_spec.1, fun j sv' h => relax_spec.2 j sv' h⟩
  · exact ⟨rfl, fun i row' h => ⟨row', h, rfl, fun j sv' h => ⟨sv', h, .inl rfl⟩⟩⟩
theorem Rv.relaxed {X : PH} {ρ : Rho} {sv sv' : SV} {v : Value} (h : Rv X ρ sv v) (hs : sv' = sv ∨ (sv' = .one ∧ SX.oneC sv = true)) : Rv X ρ sv' v := by
  rcases hs with rfl | ⟨rfl, ho⟩
  · exact h
  · exact .one _ _ (h.oneC ho)
theorem Flat.relax {X : PH} {k : Nat} {rows : List (List SV)} {us : List Value} (h : Flat X k rows us) (m : List SV) : Flat X k (relaxL m rows) us := by
  obtain ⟨r1, r2⟩ := relaxL_spec m rows
  refine ⟨by rw [r1]; exact h.1, fun i j row' sv' hi hj => ?_⟩
  obtain ⟨row, g1, _, g3⟩ := r2 i row' hi
  obtain ⟨sv, g4, g5⟩ := g3 j sv' hj
  obtain ⟨a, u, b, c⟩ := h.2 i j row sv g1 g4
  exact ⟨a, u, b, c.relaxed g5⟩

theorem Flat.bok {X : PH} {ρ : Rho} {H : Nat → Option Obj} {α : Type} {d : α} {enc : α → List SV} {xs : List α} {us : List Value} {l : Loc} {c : Array Value} {ty : TypeId}
    (hf : Flat X (enc d).length (xs.map enc) us) (he : EncOk d enc) (hX : X l.b = none) (hH : H l.b = some (.cells c ty (0, 0))) (hsz : c.size = l.sz) (hle : l.p + us.length ≤ l.sz)
    (hc : ∀ j u, us[j]? = some u → c[l.p + j]? = some u) : BOk X ρ H (some l) (.arr α d enc xs) := by
  refine ⟨hX, he, c, ty, hH, hsz, ?_, fun i x j sv hi hj => ?_⟩
  · have := hf.1; simp only [List.length_map] at this; omega
  · obtain ⟨hjk, u, hu, hr⟩ := hf.2 i j (enc x) sv (by simp [hi]) hj
    exact ⟨u, hc _ _ hu, hr⟩

/-- rows stored over rows -/
theorem bok_rows_write {X : PH} {ρ : Rho} {H H' : Nat → Option Obj} {l : Loc} {α : Type} {d : α} {enc : α → List SV} {xs ys : List α} {o : Nat} {us : List Value} {c c' : Array Value} {ty : TypeId}
    (h : BOk X ρ H (some l) (.arr α d enc xs)) (hc : H l.b = some (.cells c ty (0, 0))) (ho : o + ys.length ≤ xs.length) (hf : Flat X (enc d).length (ys.map enc) us)
    (hc' : H' l.b = some (.cells c' ty (0, 0))) (hsz : c'.size = c.size)
    (hw : ∀ j, c'[j]? = if l.p + o * (enc d).length ≤ j ∧ j < l.p + o * (enc d).length + us.length then us[j - (l.p + o * (enc d).length)]? else c[j]?) :
    BOk X ρ H' (some l) (.arr α d enc (xs.take o ++ ys ++ xs.drop (o + ys.length))) := by
  obtain ⟨h0, hu, c0, ty0, h1, h2, h3, h4⟩ := h
  rw [hc] at h1
  cases h1
  have hlen : (xs.take o ++ ys ++ xs.drop (o + ys.length)).length = xs.length := by simp; omega
  have hul : us.length = ys.length * (enc d).length := by have := hf.1; simpa using this
  refine ⟨h0, hu, c', ty, hc', by rw [hsz, h2], by rw [hlen]; exact h3, fun i x j sv hi hj => ?_⟩
  have hjk : j < (enc d).length := by rw [← (hu x).1]; exact (List.getElem?_eq_some_iff.1 hj).1
  rw [hw]
  by_cases h5 : i < o
  · have hi2 : xs[i]? = some x := by
      rw [List.append_assoc, List.getElem?_append_left (by simp; omega)] at hi
      rw [List.getElem?_take] at hi
      simpa [h5] using hi
    have : (i + 1) * (enc d).length ≤ o * (enc d).length := Nat.mul_le_mul_right _ h5
    rw [Nat.add_mul] at this
    rw [if_neg (by omega)]
    exact h4 i x j sv hi2 hj
  · by_cases h6 : i < o + ys.length
    · have hi2 : ys[i - o]? = some x := by
        rw [List.append_assoc, List.getElem?_append_right (by simp; omega)] at hi
        have e1 : (xs.take o).length = o := by simp; omega
        rw [e1, List.getElem?_append_left (by omega)] at hi
        exact hi
      obtain ⟨_, u, hu1, hu2⟩ := hf.2 (i - o) j (enc x) sv (by simp [hi2]) hj
      have hm : i * (enc d).length = o * (enc d).length + (i - o) * (enc d).length := by rw [← Nat.add_mul]; congr 1; omega
      have hlt := (List.getElem?_eq_some_iff.1 hu1).1
      rw [if_pos (by omega)]
      exact ⟨u, by rw [← hu1]; congr 1; omega, hu2⟩
    · have hi2 : xs[i]? = some x := by
        rw [List.getElem?_append_right (by simp; omega)] at hi
        have e1 : (xs.take o ++ ys).length = o + ys.length := by simp; omega
        rw [e1, List.getElem?_drop] at hi
        rw [← hi]; congr 1; omega
      have : (o + ys.length) * (enc d).length ≤ i * (enc d).length := Nat.mul_le_mul_right _ (by omega)
      rw [Nat.add_mul] at this
      rw [if_neg (by omega)]
      exact h4 i x j sv hi2 hj

theorem flat_of_rows {X : PH} {w : World} {A : Option Addr} {k : Nat} {rows : List (List SV)} (h : RowsAt X w A k rows) :
    ∃ us : List Value, Flat X k rows us ∧ (∀ u ∈ us, u.oneCell' = true) ∧ (∀ (b off : Nat), A = some ⟨b, off, none⟩ → ∀ j u, us[j]? = some u → w.cell? ⟨b, off + j, none⟩ = some u) ∧
      (us ≠ [] → ∃ b off, A = some ⟨b, off, none⟩) := by
  obtain ⟨us, h1, h2, h3, h4⟩ := rows_cells h
  refine ⟨us, ⟨h1, fun i j row sv hi hj => ⟨by rw [← (h i row hi).1]; exact (List.getElem?_eq_some_iff.1 hj).1, h4 i j row sv hi hj⟩⟩, h2, h3, fun hne => ?_⟩
  cases rows with
  | nil => simp at h1; exact absurd h1 hne
  | cons r rs => obtain ⟨_, _, b, off, hA, _⟩ := h 0 r rfl; exact ⟨b, off, hA⟩

theorem append_sound {P : Program} {E : Env} (hE : ∀ t ti, E.ty t = some ti → TyOk P t ti) {t t' ty e e' : Nat} (ht : P.underlying t = some (.slice e)) (ht' : P.underlying t' = some (.slice e'))
    {X : PH} {ρ : Rho} {B : Bl} {w : World} (hm : Mem X ρ B w) {kd : Nat} (hr : ρ kd = none) (hb : Bl.get B kd = none) {s x : SV} {vs vx : Value} (hs : Rv X ρ s vs) (hx : Rv X ρ x vx)
    {K : SV → Bl → Prop} (h : appendSV E kd e B s x K) : ∃ v w', (Builtin.append_ #[t, t'] ty #[vs, vx]).run P w = .ok v w' ∧ Out X ρ B kd K v w' := by
  unfold appendSV at h
  cases hti : E.ty e with
  | none => simp [hti] at h
  | some ti =>
    simp only [hti] at h
    have hok := hE e ti hti
    cases hby : Nat.blt 0 ti.bytes with
    | false => simp only [hby] at h
    | true =>
      simp only [hby] at h
      have hby' : 0 < ti.bytes := by have := Nat.le_of_ble_eq_true hby; omega
      have h' := h
      clear h
      obtain ⟨rows, Ax, cx, h, rfl, hcx, hrows⟩ := rowsOf_sound hm hx h'
      clear h'
      obtain ⟨us, hflat, hone, hcells, hAx⟩ := flat_of_rows hrows
      have hul : us.length = rows.length * ti.size := hflat.1
      have nilcase : ∀ A : Option Addr, (match E.encOf e with
          | some e => match Nat.beq ti.size (e.enc e.d).length with
            | true => ∃ ys : List e.α, relaxL (e.enc e.d) rows = ys.map e.enc ∧ (ys.length * ti.bytes ≤ 2 ^ 47 ∧ EncOk e.d e.enc) ∧
              K (.sl kd ti.size 0 ys.length) (Bl.ins B kd (.arr e.α e.d e.enc ys))
            | false => False
          | none => False) → ∃ v w', (Builtin.append_ #[t, t'] ty #[.slice A 0 0, .slice Ax rows.length cx]).run P w = .ok v w' ∧ Out X ρ B kd K v w' := fun A h => by
        cases henc0 : E.encOf e with
        | none => simp [henc0] at h
        | some en =>
          simp only [henc0] at h
          cases hk : Nat.beq ti.size (en.enc en.d).length with
          | false => simp only [hk] at h
          | true =>
            simp only [hk] at h
            obtain ⟨ys, hys, ⟨hbound, henc⟩, hK⟩ := h
            have hkd : ti.size = (en.enc en.d).length := Nat.eq_of_beq_eq_true hk
            have hml : rows.length = ys.length := by rw [← (relaxL_spec (en.enc en.d) rows).1, hys]; simp
            have hkeys : ∀ B2 : Bl, (∀ q, q ≠ kd → Bl.get B2 q = Bl.get B q) → ∀ q, ¬ (kd ≤ q ∧ q < kd + 8) → (Bl.get B q = none → Bl.get B2 q = none) := fun B2 hB2 q hq hBq => by
              rw [hB2 q (fun e => hq (by omega))]; exact hBq
            by_cases hroom : 0 + rows.length ≤ 0
            · have hrun := run_append_room' (P := P) (w := w) (ty := ty) (A := A) (n := 0) (c := 0) (cx := cx) ht ht' hok hul hcells hAx hroom
              have hr0 : rows.length = 0 := by omega
              have hus : us = [] := List.eq_nil_of_length_eq_zero (by rw [hul, hr0, Nat.zero_mul])
              have hy0 : ys = [] := List.eq_nil_of_length_eq_zero (by omega)
              subst hus
              have hrun2 : (Builtin.append_ #[t, t'] ty #[.slice A 0 0, .slice Ax rows.length cx]).run P w = .ok (.slice A (0 + rows.length) 0) w := by
                rw [hrun]
                cases A with
                | none => rfl
                | some a => rfl
              refine ⟨_, _, hrun2, X, ρ, _, _, X.le_refl, ρ.le_refl, fun q hq => ⟨rfl, hkeys _ (fun q hq => Bl.get_ins_other _ _ _ _ hq) q hq⟩, ?_, ?_, hK⟩
              · subst hy0; exact hm.insNone hr hb henc
              · rw [Nat.zero_add, hml]
                exact .sl _ _ _ _ _ _ _ (by omega) (.inl rfl)
            · obtain ⟨cap, rest, w1, hcap, hrest, hw1, hrun⟩ := run_append_grow' (P := P) (w := w) (ty := ty) (A := A) (n := 0) (c := 0) (cx := cx) (os := []) ht ht' hok hby' hul hcells hAx
                (by simp) (by simp) (by simp) hroom (by rw [Nat.zero_add, hml]; exact hbound)
              have hmw : Mem X ρ B w1 := hm.heap hw1
              have hws : w1.heap.size = w.heap.size := by rw [hw1.2]
              have hlen : ([] ++ us ++ rest).length = cap * ti.size := by
                rw [List.length_append, List.nil_append, hul, hrest, ← Nat.add_mul]
                congr 1; omega
              have hflat2 : Flat X (en.enc en.d).length (ys.map en.enc) us := by rw [← hys, ← hkd]; exact hflat.relax _
              have hnew := hmw.new (kd := kd) hr hb (lb := .arr en.α en.d en.enc ys) (c := ([] ++ us ++ rest).toArray) (ty := e) (fun H hH hX => Flat.bok hflat2 henc hX hH rfl
                (by simp only [Nat.zero_add]; simp) (fun j u hj => by
                  simp only [Nat.zero_add, List.nil_append]
                  rw [List.getElem?_toArray, List.getElem?_append_left (List.getElem?_eq_some_iff.1 hj).1]; exact hj))
              refine ⟨_, _, hrun, X, _, _, _, X.le_refl, Rho.upd_le hr, fun q hq => ⟨Rho.upd_other (fun e => hq (by omega)), hkeys _ (fun q hq => Bl.get_ins_other _ _ _ _ hq) q hq⟩, hnew, ?_, hK⟩
              rw [Nat.zero_add, hml, ← hws]
              refine .sl _ _ _ _ _ _ _ (by omega) (.inr ⟨_, Rho.upd_same _ _ _, by simp, ?_⟩)
              simp only [Nat.zero_add, List.size_toArray, hlen]; omega
      cases hs with
      | sl _ key k o n c A hn hA =>
        simp only at h
        cases hg : Bl.get B key with
        | none => simp [hg] at h
        | some lb =>
          cases lb with
          | cells cs => simp [hg] at h
          | mp isA n α d enc es => simp [hg] at h
          | objAt n svs mk => simp [hg] at h
          | arr α d enc xs =>
            cases hk : Nat.beq k ti.size with
            | false => simp only [hg, hk] at h
            | true =>
              cases hk2 : Nat.beq k (enc d).length with
              | false => simp only [hg, hk, hk2] at h
              | true =>
                simp only [hg, hk, hk2] at h
                obtain ⟨hon, ys, hys, hbound, hK⟩ := h
                have hkt : k = ti.size := Nat.eq_of_beq_eq_true hk
                have hkd : k = (enc d).length := Nat.eq_of_beq_eq_true hk2
                have hm1 := hm.own key _ hg
                have henc : EncOk d enc := by
                  cases hρ : ρ key with
                  | none => rw [hρ] at hm1; exact hm1.2
                  | some l => rw [hρ] at hm1; exact hm1.2.1
                have hml : rows.length = ys.length := by rw [← (relaxL_spec (enc d) rows).1, hys]; simp
                have hkdne : key ≠ kd := fun e => by subst e; rw [hb] at hg; cases hg
                have hbd : Bl.get (Bl.del B key) kd = none := by rw [Bl.get_del_other _ _ _ (fun e => hkdne e.symm)]; exact hb
                -- the old rows
                have hold : rowsOf B k (.sl key k o n) (fun r => r = ((xs.drop o).take n).map enc) := by
                  simp only [rowsOf, hg, hk2, (by simp : Nat.beq k k = true)]
                  exact ⟨hon, trivial⟩
                obtain ⟨rows1, A1, c1, hr1, he1, _, hrows1⟩ := rowsOf_sound hm (Rv.sl ρ key k o n c A hn hA) hold
                injection he1 with e1 e2 e3
                subst e1
                obtain ⟨os, hfl1, hone1, hcells1, hA1⟩ := flat_of_rows hrows1
                have hrl : rows1.length = n := e2.symm
                have hflat2 : Flat X (enc d).length (((xs.drop o).take n ++ ys).map enc) (os ++ us) := by
                  rw [List.map_append, ← hr1, ← hys, ← hkd]
                  exact Flat.append hfl1 ((hkt ▸ hflat : Flat X k rows us).relax _)
                have hkeys : ∀ B2 : Bl, (∀ q, q ≠ kd → Bl.get B2 q = Bl.get (Bl.del B key) q) → ∀ q, ¬ (kd ≤ q ∧ q < kd + 8) → (Bl.get B q = none → Bl.get B2 q = none) := fun B2 hB2 q hq hBq => by
                  rw [hB2 q (fun e => hq (by omega))]
                  by_cases hqk : q = key
                  · subst hqk; exact Bl.get_del_same _ _
                  · rw [Bl.get_del_other _ _ _ hqk]; exact hBq
                by_cases hroom : n + rows.length ≤ c
                · have hrun := run_append_room' (P := P) (w := w) (ty := ty) (A := A) (n := n) (c := c) (cx := cx) ht ht' hok hul hcells hAx hroom
                  rcases hA with hc0 | ⟨l, hl1, hl2, hl3⟩
                  · have hn0 : n = 0 := by omega
                    have hr0 : rows.length = 0 := by omega
                    have hus : us = [] := List.eq_nil_of_length_eq_zero (by rw [hul, hr0, Nat.zero_mul])
                    have hy0 : ys = [] := List.eq_nil_of_length_eq_zero (by omega)
                    subst hus
                    have hrun2 : (Builtin.append_ #[t, t'] ty #[.slice A n c, .slice Ax rows.length cx]).run P w = .ok (.slice A (n + rows.length) c) w := by
                      rw [hrun]
                      cases A with
                      | none => rfl
                      | some a => rfl
                    refine ⟨_, _, hrun2, X, ρ, _, _, X.le_refl, ρ.le_refl, fun q hq => ⟨rfl, hkeys _ (fun q hq => Bl.get_ins_other _ _ _ _ hq) q hq⟩, ?_, ?_, hK⟩
                    · subst hn0; subst hy0
                      simp only [List.take_zero, List.append_nil]
                      exact (hm.del key).insNone hr hbd henc
                    · rw [hml]
                      exact .sl _ _ _ _ _ _ _ (by omega) (.inl hc0)
                  · rw [hl1] at hm1
                    obtain ⟨hX, _, c0, ty0, g1, g2, g3, g4⟩ := hm1
                    subst hl2
                    have hmul : (o + c) * k = o * k + c * k := Nat.add_mul _ _ _
                    have hmul2 : (n + rows.length) * k ≤ c * k := Nat.mul_le_mul_right k hroom
                    rw [Nat.add_mul] at hmul2
                    have hul2 : us.length = rows.length * k := by rw [hul, hkt]
                    obtain ⟨w', c', hst, hc', hsz, hoth, hw⟩ := run_storeCells (P := P) us w l.b (l.p + o * k + n * k) 0 c0 ty0 g1 hone (by omega)
                    have hrun2 : (Builtin.append_ #[t, t'] ty #[.slice (some ⟨l.b, l.p + o * k, none⟩) n c, .slice Ax rows.length cx]).run P w = .ok (.slice (some ⟨l.b, l.p + o * k, none⟩) (n + rows.length) c) w' := by
                      rw [hrun]
                      simp only [addr_add, ← hkt, hst, Result.andThen]
                    have hBk : ∀ key' b q, Bl.get (Bl.del B key) key' = some b → ρ key' = some q → q.b ≠ l.b := fun key' b q hb' hq he => by
                      by_cases hkk : key' = key
                      · subst hkk; rw [Bl.get_del_same] at hb'; cases hb'
                      · rw [Bl.get_del_other _ _ _ hkk] at hb'
                        exact hkk (hm.inj key' key b _ q l hb' hg hq hl1 he)
                    have hol : os.length = n * k := by rw [hfl1.1, hrl]
                    refine ⟨_, _, hrun2, X, ρ.upd kd (some ⟨l.b, l.p + o * k, l.sz⟩), _, _, X.le_refl, Rho.upd_le hr, fun q hq => ⟨Rho.upd_other (fun e => hq (by omega)), hkeys _ (fun q hq => Bl.get_ins_other _ _ _ _ hq) q hq⟩,
                      (hm.del key).insAt (l := ⟨l.b, l.p + o * k, l.sz⟩) hr hbd ⟨hoth.1, fun q hq => .inl (hoth.2 q hq)⟩ hX hBk
                        (Flat.bok hflat2 henc hX hc' (by rw [hsz, g2]) (by simp only [List.length_append]; omega) (fun j u hj => ?_)), ?_, hK⟩
                    · show c'[l.p + o * k + j]? = some u
                      rw [hw]
                      by_cases hjn : j < os.length
                      · rw [List.getElem?_append_left hjn] at hj
                        rw [if_neg (by omega)]
                        have := hcells1 l.b (l.p + o * k) rfl j u hj
                        rwa [cell_of_heap g1] at this
                      · rw [List.getElem?_append_right (by omega)] at hj
                        have hju : j - os.length < us.length := (List.getElem?_eq_some_iff.1 hj).1
                        rw [if_pos (by omega)]
                        rw [← hj]; congr 1; omega
                    · rw [hml]
                      refine .sl _ _ _ _ _ _ _ (by omega) (.inr ⟨_, Rho.upd_same _ _ _, by simp, ?_⟩)
                      simp only [Nat.zero_add]; omega
                · obtain ⟨cap, rest, w1, hcap, hrest, hw1, hrun⟩ := run_append_grow' (P := P) (w := w) (ty := ty) (A := A) (n := n) (c := c) (cx := cx) (os := os) ht ht' hok hby' hul hcells hAx
                    (by rw [hfl1.1, hrl, hkt]) hcells1 hA1 hroom (by rw [hml]; exact hbound)
                  have hmw : Mem X ρ (Bl.del B key) w1 := (hm.del key).heap hw1
                  have hws : w1.heap.size = w.heap.size := by rw [hw1.2]
                  have hlen : (os ++ us ++ rest).length = cap * k := by
                    rw [List.length_append, List.length_append, hfl1.1, hul, hrest, hrl, ← hkt, ← Nat.add_mul, ← Nat.add_mul]
                    congr 1; omega
                  have hnew := hmw.new (kd := kd) hr hbd (lb := .arr α d enc ((xs.drop o).take n ++ ys)) (c := (os ++ us ++ rest).toArray) (ty := e) (fun H hH hX => Flat.bok hflat2 henc hX hH rfl
                    (by simp only [Nat.zero_add]; simp) (fun j u hj => by
                      simp only [Nat.zero_add]
                      rw [List.getElem?_toArray, List.getElem?_append_left (List.getElem?_eq_some_iff.1 hj).1]; exact hj))
                  refine ⟨_, _, hrun, X, _, _, _, X.le_refl, Rho.upd_le hr, fun q hq => ⟨Rho.upd_other (fun e => hq (by omega)), hkeys _ (fun q hq => Bl.get_ins_other _ _ _ _ hq) q hq⟩, hnew, ?_, hK⟩
                  rw [hml, ← hws]
                  refine .sl _ _ _ _ _ _ _ (by omega) (.inr ⟨_, Rho.upd_same _ _ _, by simp, ?_⟩)
                  simp only [Nat.zero_add, List.size_toArray, hlen]; omega
      | e0 _ A => exact nilcase A h
      | val _ v =>
        split at h
        · rename_i he; cases he
        · rename_i he; cases he
        · rename_i he; cases he; exact nilcase none h
        · exact h.elim
      | any => exact (show False from h).elim
      | tt => exact (show False from h).elim
      | ff => exact (show False from h).elim
      | ptr => exact (show False from h).elim
      | ptrE => exact (show False from h).elim
      | row => exact (show False from h).elim
      | rowE => exact (show False from h).elim
      | ro => exact (show False from h).elim
      | rop => exact (show False from h).elim
      | ropE => exact (show False from h).elim
      | agg => exact (show False from h).elim
      | tup => exact (show False from h).elim
      | clo => exact (show False from h).elim
      | one => exact (show False from h).elim
      | mapv => exact (show False from h).elim
end Go.SX
