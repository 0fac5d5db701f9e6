/- A PART OF THE PROOF. NO CONDITION. -/
import Derived.Test.YtgcedkklmmdabaaSxD
import Derived.Orders
import Derived.Laws.StructEq
import Derived.Laws.AppendOwn
set_option linter.unusedSimpArgs false
set_option linter.unusedVariables false
set_option linter.unusedVariables false
set_option linter.unusedSimpArgs false
namespace Go.SX

/-- a store through a key -/
theorem Mem.write {X : PH} {ρ : Rho} {B : Bl} {w w' : World} (hm : Mem X ρ B w) {key : Nat} {lb lb' : LB} {l : Loc} (hk : Bl.get B key = some lb) (hl : ρ key = some l)
    (hw : Fr w w' ∧ ∀ k, k ≠ l.b → w'.heap[k]? = w.heap[k]?) (hnew : BOk X ρ (fun b => w'.heap[b]?) (some l) lb') : Mem X ρ (Bl.set B key lb') w' := by
  have hX : X l.b = none := by
    cases lb' with
    | cells cs => exact hnew.1
    | arr α d enc xs => exact hnew.1
    | mp isA n α d enc es => exact hnew.1
    | objAt n svs mk => exact hnew.1
  obtain ⟨hfr, hw⟩ := hw
  refine ⟨hm.fr.trans hfr, fun b o h => ?_, fun key' lb2 h => ?_, fun k1 k2 b1 b2 l1 l2 h1 h2 e1 e2 hb => ?_⟩
  · have : b ≠ l.b := fun e => by subst e; rw [hX] at h; cases h
    rw [hw b this]; exact hm.sub b o h
  · by_cases hkk : key' = key
    · subst hkk
      rw [Bl.get_set_same _ _ _ hk] at h
      cases h
      rw [hl]; exact hnew
    · rw [Bl.get_set_other _ _ _ _ hkk] at h
      refine (hm.own key' lb2 h).congr fun q hq => hw _ fun e => hkk (hm.inj key' key lb2 lb q l h hk hq hl e)
  · have g : ∀ k b, Bl.get (Bl.set B key lb') k = some b → ∃ b', Bl.get B k = some b' := fun k b h => by
      by_cases hkk : k = key
      · subst hkk; exact ⟨lb, hk⟩
      · rw [Bl.get_set_other _ _ _ _ hkk] at h; exact ⟨b, h⟩
    obtain ⟨b1', h1'⟩ := g k1 b1 h1
    obtain ⟨b2', h2'⟩ := g k2 b2 h2
    exact hm.inj k1 k2 b1' b2' l1 l2 h1' h2' e1 e2 hb

theorem set_keys {B : Bl} {key : Nat} {c : LB} (k : Nat) (h : Bl.get B k = none) : Bl.get (Bl.set B key c) k = none := by
  by_cases hk : k = key
  · subst hk
    induction B with
    | nil => rfl
    | cons p r ih =>
      obtain ⟨j, b⟩ := p
      simp only [Bl.get] at h
      cases hj : Nat.beq j k with
      | true => simp [hj] at h
      | false => simp only [hj] at h; simp only [Bl.set, hj, Bl.get]; exact ih h
  · rw [Bl.get_set_other _ _ _ _ hk]; exact h

theorem row_far {i i' j k off n : Nat} (hne : i' ≠ i) (hj : j < k) (hn : off + n ≤ k) : ¬ (i * k + off ≤ i' * k + j ∧ i' * k + j < i * k + off + n) := by
  intro ⟨h1, h2⟩
  rcases Nat.lt_or_gt_of_ne hne with h | h
  · have : (i' + 1) * k ≤ i * k := Nat.mul_le_mul_right k h
    rw [Nat.add_mul] at this; omega
  · have : (i + 1) * k ≤ i' * k := Nat.mul_le_mul_right k h
    rw [Nat.add_mul] at this; omega

/-- what a store into cells leaves -/
theorem bok_cells_write {X : PH} {ρ : Rho} {H H' : Nat → Option Obj} {l : Loc} {cs vs : List SV} {off : Nat} {us : List Value} {c c' : Array Value} {ty : TypeId}
    (h : BOk X ρ H (some l) (.cells cs)) (hc : H l.b = some (.cells c ty (0, 0))) (hoff : off + vs.length ≤ cs.length) (hus : us.length = vs.length)
    (hv : ∀ (i : Nat) (s : SV) (u : Value), vs[i]? = some s → us[i]? = some u → Rv X ρ s u)
    (hc' : H' l.b = some (.cells c' ty (0, 0))) (hsz : c'.size = c.size) (hw : ∀ j, c'[j]? = if l.p + off ≤ j ∧ j < l.p + off + us.length then us[j - (l.p + off)]? else c[j]?) :
    BOk X ρ H' (some l) (.cells (splice off vs cs)) := by
  obtain ⟨h0, c0, ty0, h1, h2, h3, h4⟩ := h
  rw [hc] at h1
  cases h1
  refine ⟨h0, c', ty, hc', by rw [hsz, h2], by rw [splice_length hoff]; exact h3, fun i sv hi => ?_⟩
  rw [splice_get hoff] at hi
  rw [hw]
  by_cases hr : off ≤ i ∧ i < off + vs.length
  · rw [if_pos hr] at hi
    rw [if_pos (by omega)]
    have hlt : i - off < us.length := by omega
    refine ⟨us[i - off], ?_, hv _ _ _ hi (by simp [hlt])⟩
    rw [show l.p + i - (l.p + off) = i - off by omega]; simp [hlt]
  · rw [if_neg hr] at hi
    rw [if_neg (by omega)]
    exact h4 i sv hi

theorem bok_arr_write {X : PH} {ρ : Rho} {H H' : Nat → Option Obj} {l : Loc} {α : Type} {d : α} {enc : α → List SV} {xs : List α} {vs : List SV} {i off : Nat} {us : List Value} {c c' : Array Value} {ty : TypeId}
    (h : BOk X ρ H (some l) (.arr α d enc xs)) (hc : H l.b = some (.cells c ty (0, 0))) (hi : i < xs.length) (hoff : off + vs.length ≤ (enc d).length) (hus : us.length = vs.length)
    (hv : ∀ (i : Nat) (s : SV) (u : Value), vs[i]? = some s → us[i]? = some u → Rv X noKeys s u) {x : α} (hx : enc x = splice off vs (enc (xs.getD i d)))
    (hc' : H' l.b = some (.cells c' ty (0, 0))) (hsz : c'.size = c.size)
    (hw : ∀ j, c'[j]? = if l.p + (i * (enc d).length + off) ≤ j ∧ j < l.p + (i * (enc d).length + off) + us.length then us[j - (l.p + (i * (enc d).length + off))]? else c[j]?) :
    BOk X ρ H' (some l) (.arr α d enc (xs.set i x)) := by
  obtain ⟨h0, hu, c0, ty0, h1, h2, h3, h4⟩ := h
  rw [hc] at h1
  cases h1
  refine ⟨h0, hu, c', ty, hc', by rw [hsz, h2], by simpa using h3, fun i' x' j sv hi' hj => ?_⟩
  have hjk : j < (enc d).length := by rw [← (hu x').1]; exact (List.getElem?_eq_some_iff.1 hj).1
  rw [List.getElem?_set] at hi'
  rw [hw]
  by_cases hii : i = i'
  · subst hii
    simp only [if_true, hi, Option.some.injEq] at hi'
    subst hi'
    rw [hx] at hj
    have hoff' : off + vs.length ≤ (enc (xs.getD i d)).length := by rw [(hu _).1]; exact hoff
    rw [splice_get hoff'] at hj
    by_cases hr : off ≤ j ∧ j < off + vs.length
    · rw [if_pos hr] at hj
      rw [if_pos (by omega)]
      have hlt : j - off < us.length := by omega
      refine ⟨us[j - off], ?_, hv _ _ _ hj (by simp [hlt])⟩
      rw [show l.p + (i * (enc d).length + j) - (l.p + (i * (enc d).length + off)) = j - off by omega]; simp [hlt]
    · rw [if_neg hr] at hj
      rw [if_neg (by omega)]
      exact h4 i _ j sv (by simp [List.getD, hi]) hj
  · rw [if_neg hii] at hi'
    have := row_far (i := i) (i' := i') (fun e => hii e.symm) hjk hoff
    rw [if_neg (by omega)]
    exact h4 i' x' j sv hi' hj

theorem Rv.unkey {X : PH} {ρ : Rho} {sv : SV} {v : Value} (h : Rv X ρ sv v) (hkk : noKey sv = true) : Rv X noKeys sv v := by
  cases h with
  | any => exact .any _ _
  | tt => exact .tt _
  | ff => exact .ff _
  | e0 => exact .e0 _ _
  | one _ v h => exact .one _ v h
  | val => exact .val _ _
  | ro _ α d enc xs A c b p cs ty fz cell hc hA hk hcs hr => exact .ro _ α d enc xs A c b p cs ty fz cell hc hA hk hcs hr
  | rop _ α d enc xs i off b p cs ty fz cell hA hk hcs hr => exact .rop _ α d enc xs i off b p cs ty fz cell hA hk hcs hr
  | ropE _ α d enc xs i e b p cs ty fz cell hA hk hcs hr => exact .ropE _ α d enc xs i e b p cs ty fz cell hA hk hcs hr
  | ptr => simp [noKey] at hkk
  | ptrE => simp [noKey] at hkk
  | row => simp [noKey] at hkk
  | rowE => simp [noKey] at hkk
  | sl => simp [noKey] at hkk
  | agg => simp [noKey] at hkk
  | tup => simp [noKey] at hkk
  | clo => simp [noKey] at hkk
  | mapv => simp [noKey] at hkk
theorem allNoKey_spec : ∀ {cs : List SV}, allNoKey cs = true → ∀ (i : Nat) (sv : SV), cs[i]? = some sv → noKey sv = true
  | [], _, i, sv, hi => by simp at hi
  | x :: r, h, i, sv, hi => by
    simp only [allNoKey] at h
    cases hx : noKey x with
    | false => simp [hx] at h
    | true =>
      simp only [hx] at h
      cases i with
      | zero => simp at hi; subst hi; exact hx
      | succ n => exact allNoKey_spec h n sv (by simpa using hi)

/-- a store -/
theorem storeAt_sound {P : Program} {X : PH} {ρ : Rho} {B : Bl} {w : World} (hm : Mem X ρ B w) {p : SV} {v : Value} (hp : Rv X ρ p v) {vs : List SV} {us : List Value}
    (hus : us.length = vs.length) (hv : ∀ (i : Nat) (s : SV) (u : Value), vs[i]? = some s → us[i]? = some u → Rv X ρ s u) (ho : ∀ u ∈ us, u.oneCell' = true)
    {K : Bl → Prop} (h : storeAt B p vs K) :
    ∃ b off, v = .pointer (some ⟨b, off, none⟩) ∧ ∃ w' B', (storeCells ⟨b, off, none⟩ us 0).run P w = .ok () w' ∧ Mem X ρ B' w' ∧ K B' ∧ ∀ k, Bl.get B k = none → Bl.get B' k = none := by
  cases hp with
  | ptr _ key off l hl =>
    simp only [storeAt] at h
    cases hg : Bl.get B key with
    | none => simp [hg] at h
    | some lb =>
      cases lb with
      | arr α d enc xs => simp [hg] at h
      | mp isA n α d enc es => simp [hg] at h
      | objAt n svs mk => simp [hg] at h
      | cells cs =>
        simp only [hg] at h
        cases hb : Nat.ble (off + vs.length) cs.length with
        | false => simp only [hb] at h
        | true =>
          simp only [hb] at h
          have hle := Nat.le_of_ble_eq_true hb
          have hok := hm.own key _ hg
          rw [hl] at hok
          obtain ⟨h0, c, ty, h1, h2, h3, h4⟩ := id hok
          obtain ⟨w', c', hr, hc', hsz, hoth, hw⟩ := run_storeCells (P := P) us w l.b (l.p + off) 0 c ty h1 ho (by omega)
          exact ⟨_, _, rfl, w', _, hr, hm.write hg hl hoth (bok_cells_write hok h1 hle hus hv hc' hsz (fun j => by simpa using hw j)), h, fun k hk => set_keys k hk⟩
  | ptrE _ key off l hl =>
    simp only [storeAt] at h
    cases hg : Bl.get B key with
    | none => simp [hg] at h
    | some lb =>
      cases lb with
      | arr α d enc xs => simp [hg] at h
      | mp isA n α d enc es => simp [hg] at h
      | objAt n svs mk => simp [hg] at h
      | cells cs =>
        simp only [hg] at h
        obtain ⟨hle, h⟩ := h
        have hok := hm.own key _ hg
        rw [hl] at hok
        obtain ⟨h0, c, ty, h1, h2, h3, h4⟩ := id hok
        obtain ⟨w', c', hr, hc', hsz, hoth, hw⟩ := run_storeCells (P := P) us w l.b (l.p + off) 0 c ty h1 ho (by omega)
        exact ⟨_, _, rfl, w', _, hr, hm.write hg hl hoth (bok_cells_write hok h1 hle hus hv hc' hsz (fun j => by simpa using hw j)), h, fun k hk => set_keys k hk⟩
  | row _ key k i off l hl =>
    simp only [storeAt] at h
    cases hg : Bl.get B key with
    | none => simp [hg] at h
    | some lb =>
      cases lb with
      | cells cs => simp [hg] at h
      | mp isA n α d enc es => simp [hg] at h
      | objAt n svs mk => simp [hg] at h
      | arr α d enc xs =>
        simp only [hg] at h
        cases hb : Nat.beq k (enc d).length with
        | false => simp only [hb] at h
        | true =>
          cases hb2 : Nat.ble (off + vs.length) k && allNoKey vs with
          | false => simp only [hb, hb2] at h
          | true =>
            simp only [hb, hb2] at h
            rw [Bool.and_eq_true] at hb2
            obtain ⟨hi, x, hx, h⟩ := h
            have hk : k = (enc d).length := Nat.eq_of_beq_eq_true hb
            subst hk
            have hle := Nat.le_of_ble_eq_true hb2.1
            have hok := hm.own key _ hg
            rw [hl] at hok
            obtain ⟨h0, hu, c, ty, h1, h2, h3, h4⟩ := id hok
            have hsz0 : (i + 1) * (enc d).length ≤ xs.length * (enc d).length := Nat.mul_le_mul_right _ hi
            rw [Nat.add_mul] at hsz0
            obtain ⟨w', c', hr, hc', hsz, hoth, hw⟩ := run_storeCells (P := P) us w l.b (l.p + (i * (enc d).length + off)) 0 c ty h1 ho (by omega)
            exact ⟨_, _, rfl, w', _, hr, hm.write hg hl hoth (bok_arr_write hok h1 hi hle hus (fun i s u a b => (hv i s u a b).unkey (allNoKey_spec hb2.2 i s a)) hx hc' hsz (fun j => by simpa using hw j)), h, fun k hk => set_keys k hk⟩
  | rowE _ key k i off l hl =>
    simp only [storeAt] at h
    cases hg : Bl.get B key with
    | none => simp [hg] at h
    | some lb =>
      cases lb with
      | cells cs => simp [hg] at h
      | mp isA n α d enc es => simp [hg] at h
      | objAt n svs mk => simp [hg] at h
      | arr α d enc xs =>
        simp only [hg] at h
        cases hb : Nat.beq k (enc d).length with
        | false => simp only [hb] at h
        | true =>
          cases hb2 : allNoKey vs with
          | false => simp only [hb, hb2] at h
          | true =>
            simp only [hb, hb2] at h
            obtain ⟨⟨hi, hle⟩, x, hx, h⟩ := h
            have hk : k = (enc d).length := Nat.eq_of_beq_eq_true hb
            subst hk
            have hok := hm.own key _ hg
            rw [hl] at hok
            obtain ⟨h0, hu, c, ty, h1, h2, h3, h4⟩ := id hok
            have hsz0 : (i + 1) * (enc d).length ≤ xs.length * (enc d).length := Nat.mul_le_mul_right _ hi
            rw [Nat.add_mul] at hsz0
            obtain ⟨w', c', hr, hc', hsz, hoth, hw⟩ := run_storeCells (P := P) us w l.b (l.p + (i * (enc d).length + off)) 0 c ty h1 ho (by omega)
            exact ⟨_, _, rfl, w', _, hr, hm.write hg hl hoth (bok_arr_write hok h1 hi hle hus (fun i s u a b => (hv i s u a b).unkey (allNoKey_spec hb2 i s a)) hx hc' hsz (fun j => by simpa using hw j)), h, fun k hk => set_keys k hk⟩
  | any => simp [storeAt] at h
  | tt => simp [storeAt] at h
  | ff => simp [storeAt] at h
  | e0 => simp [storeAt] at h
  | one => simp [storeAt] at h
  | val => simp [storeAt] at h
  | sl => simp [storeAt] at h
  | ro => simp [storeAt] at h
  | rop => simp [storeAt] at h
  | ropE => simp [storeAt] at h
  | agg => simp [storeAt] at h
  | tup => simp [storeAt] at h
  | clo => simp [storeAt] at h
  | mapv => simp [storeAt] at h
end Go.SX
