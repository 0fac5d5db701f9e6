/- A PART OF THE PROOF. NO CONDITION. -/
import Derived.Test.YtgcedkklmmdabaaWbY0
noncomputable section
set_option linter.unusedVariables false
set_option linter.unusedVariables false
set_option linter.unusedSimpArgs false
namespace Go.WbW
open Go.Proofs Go.SX Go.Wb
/-! slices.Delete of one page, as a contract -/
structure GD where
  ys : List DP
  n : Nat
  k : Nat
def del (g : GD) : List DP := g.ys.take g.k ++ ((g.ys.take g.n).drop (g.k + 1) ++ dDP :: g.ys.drop g.n)
def cDel : Con := { γ := GD, β := Unit, keys := fun svs => slKeys (getSlot svs 0), m := 1, args := fun g => [.sl 0 3 0 g.n, I g.k, I ((g.k : Int) + 1)], ins := fun g => [.arr DP dDP encDP g.ys], pre := fun g => g.k < g.n ∧ g.n ≤ g.ys.length, post := fun _ _ => True, res := fun g _ => .sl 0 3 0 (g.n - 1), outs := fun g _ => [.arr DP dDP encDP (del g)], new := fun _ _ => none }
def valsD (p : DP) : List Value := [.int .i64 p.file, .int .i64 p.index, .int .i64 p.since]
theorem flat3 : ∀ (L : List DP) (q r : Nat), r < 3 → (L.flatMap valsD)[q * 3 + r]? = (L[q]?).bind fun x => (valsD x)[r]?
  | [], q, r, _ => by simp
  | x :: L, 0, r, h => by
    rw [List.flatMap_cons, List.getElem?_append_left (by show _ < 3; omega)]; simp
  | x :: L, q + 1, r, h => by
    rw [List.flatMap_cons, List.getElem?_append_right (by show 3 ≤ _; omega), show (q + 1) * 3 + r - (valsD x).length = q * 3 + r by show _ - 3 = _; omega, flat3 L q r h]; rfl
theorem flat3_len (L : List DP) : (L.flatMap valsD).length = L.length * 3 := by
  induction L with
  | nil => rfl
  | cons x L ih => rw [List.flatMap_cons, List.length_append, ih, List.length_cons]; show 3 + _ = _; omega
theorem del_get {ys : List DP} {n k i : Nat} (h1 : k < n) (h2 : n ≤ ys.length) : (del ⟨ys, n, k⟩)[i]? = if i < k then ys[i]? else if i < n - 1 then ys[i + 1]? else if i = n - 1 then some dDP else ys[i]? := by
  unfold del
  dsimp only
  by_cases a1 : i < k
  · rw [if_pos a1, List.getElem?_append_left (by rw [List.length_take]; omega), List.getElem?_take_of_lt a1]
  · rw [if_neg a1, List.getElem?_append_right (by rw [List.length_take]; omega), List.length_take, Nat.min_eq_left (by omega)]
    by_cases a2 : i < n - 1
    · rw [if_pos a2, List.getElem?_append_left (by rw [List.length_drop, List.length_take]; omega), List.getElem?_drop, List.getElem?_take_of_lt (by omega), show k + 1 + (i - k) = i + 1 by omega]
    · rw [if_neg a2, List.getElem?_append_right (by rw [List.length_drop, List.length_take]; omega), List.length_drop, List.length_take, Nat.min_eq_left (by omega)]
      by_cases a3 : i = n - 1
      · rw [if_pos a3, show i - k - (n - (k + 1)) = 0 by omega]; rfl
      · rw [if_neg a3, show i - k - (n - (k + 1)) = (i - n) + 1 by omega, List.getElem?_cons_succ, List.getElem?_drop, show n + (i - n) = i by omega]
theorem del_len {ys : List DP} {n k : Nat} (h1 : k < n) (h2 : n ≤ ys.length) : (del ⟨ys, n, k⟩).length = ys.length := by
  unfold del
  simp only [List.length_append, List.length_take, List.length_drop, List.length_cons]
  omega
theorem setCells_world (b : Nat) : ∀ (vs : List Value) (o : Nat) (w : World) (c : Array Value) (ty : TypeId), w.heap[b]? = some (.cells c ty (0, 0)) →
    ∃ c', (w.setCells b o vs).heap[b]? = some (.cells c' ty (0, 0)) ∧ c'.size = c.size ∧ Fr w (w.setCells b o vs) ∧ (∀ k, k ≠ b → (w.setCells b o vs).heap[k]? = w.heap[k]?) ∧
      ∀ i, i < c.size → c'[i]? = if o ≤ i ∧ i < o + vs.length then vs[i - o]? else c[i]?
  | [], o, w, c, ty, h => ⟨c, h, rfl, Fr.refl w, fun _ _ => rfl, fun i _ => by rw [if_neg (by simp only [List.length_nil]; omega)]⟩
  | v :: r, o, w, c, ty, h => by
    obtain ⟨c', a1, a2, a3, a4, a5⟩ := setCells_world b r (o + 1) (w.setCell ⟨b, o, none⟩ v) (c.setIfInBounds o v) ty (heap_setCell_same w b o c ty v h)
    refine ⟨c', a1, by rw [a2, Array.size_setIfInBounds], (Fr.setCell _ _ _).trans a3, fun k hk => by
      show ((w.setCell ⟨b, o, none⟩ v).setCells b (o + 1) r).heap[k]? = _
      rw [a4 k hk, heap_setCell_other w ⟨b, o, none⟩ k v hk], fun i hi => ?_⟩
    rw [a5 i (by rw [Array.size_setIfInBounds]; exact hi)]
    by_cases e1 : o + 1 ≤ i ∧ i < o + 1 + r.length
    · rw [if_pos e1, if_pos (by rw [List.length_cons]; omega), show i - o = (i - (o + 1)) + 1 by omega, List.getElem?_cons_succ]
    · rw [if_neg e1, Array.getElem?_setIfInBounds]
      by_cases e2 : o = i
      · subst e2
        rw [if_pos rfl, if_pos hi, if_pos (by rw [List.length_cons]; omega), Nat.sub_self]; rfl
      · rw [if_neg e2, if_neg (by rw [List.length_cons]; omega)]
theorem runsDel : ConRuns P cDel 29 := by
  rintro ⟨ys, n, k⟩ X ρ w vs ⟨h1, h2⟩ hM hfr ⟨hsz, hget⟩
  dsimp only at h1 h2
  obtain ⟨v0, g0, r0⟩ := hget 0 _ rfl
  obtain ⟨v1, g1, r1⟩ := hget 1 _ rfl
  obtain ⟨v2, g2, r2⟩ := hget 2 _ rfl
  obtain rfl : vs = #[v0, v1, v2] := by
    apply Array.ext_getElem?
    intro i
    rcases i with _ | _ | _ | i
    · exact g0
    · exact g1
    · exact g2
    · rw [Array.getElem?_eq_none (by rw [hsz]; simp [cDel]), Array.getElem?_eq_none (by simp)]
  clear hget g0 g1 g2 hsz
  cases r1
  cases r2
  cases r0 with
  | sl _ _ _ _ _ c A hn hA =>
  dsimp only at hn
  rcases hA with hc0 | ⟨l, hl, rfl, hroom⟩
  · omega
  have hget0 : Bl.get (blksOf 0 (cDel.ins ⟨ys, n, k⟩)) 0 = some (.arr DP dDP encDP ys) := rfl
  have hown := hM.own 0 _ hget0
  rw [hl] at hown
  obtain ⟨hX, hE, c0, ty, hb, hcs0, hroom2, hrows⟩ := hown
  have hroom2 : l.p + ys.length * 3 ≤ l.sz := hroom2
  have hrow : ∀ i x j v, ys[i]? = some x → (valsD x)[j]? = some v → c0[l.p + (i * 3 + j)]? = some v := fun i x j v hx hv => by
    obtain ⟨v', h, hr⟩ := hrows i x j (.val v) hx (by
      show ((valsD x).map SV.val)[j]? = _
      rw [List.getElem?_map, hv]; rfl)
    cases hr
    exact h
  have hcell : ∀ t, t < ys.length * 3 → ∃ v, c0[l.p + t]? = some v := fun t ht => ⟨_, Array.getElem?_eq_getElem (by omega)⟩
  obtain ⟨news, hnw⟩ : ∃ news, news = ((ys.take n).drop (k + 1)).flatMap valsD := ⟨_, rfl⟩
  have hnl : news.length = (n - (k + 1)) * 3 := by rw [hnw, flat3_len, List.length_drop, List.length_take, Nat.min_eq_left h2]
  have hng : ∀ q r, r < 3 → q < n - (k + 1) → news[q * 3 + r]? = (ys[k + 1 + q]?).bind fun x => (valsD x)[r]? := fun q r hr hq => by
    rw [hnw, flat3 _ q r hr, List.getElem?_drop, List.getElem?_take_of_lt (by omega)]
  have hrun := run29 l.b (l.p + 0 * 3) n c k news w h1 hn hnl (fun t u hu => ?_) (fun u hu => ?_) (fun t ht => ?_)
  · refine hrun.mono ?_
    rintro e w' ⟨rfl, rfl⟩
    have hbd : w.drew.heap[l.b]? = some (.cells c0 ty (0, 0)) := hb
    obtain ⟨c1, a1, a2, a3, a4, a5⟩ := setCells_world l.b news (l.p + 0 * 3 + k * 3) w.drew c0 ty hbd
    obtain ⟨c2, b1, b2, b3, b4, b5⟩ := setCells_world l.b zDP (l.p + 0 * 3 + (n - 1) * 3) _ c1 ty a1
    have hzl : zDP.length = 3 := rfl
    rw [Nat.zero_mul, Nat.add_zero] at a5 b5
    refine ⟨_, rfl, X, ρ, .sl 0 3 0 (n - 1), Bl.set (blksOf 0 (cDel.ins ⟨ys, n, k⟩)) 0 (.arr DP dDP encDP (del ⟨ys, n, k⟩)), X.le_refl, ?_, Mem.rewrite hM hget0 hl (((Fr.drew w).trans a3).trans b3) (fun q o hq ho => by rw [b4 q hq, a4 q hq]; exact ho) ⟨hX, hE, c2, ty, b1, by rw [b2, a2, hcs0], ?_, fun i x j sv hx hsv => ?_⟩, ?_, (), trivial, ?_, rfl, ?_⟩
    · exact RLe.refl 8 ρ
    · rw [del_len h1 h2]; exact hroom2
    · have hsv : ((valsD x).map SV.val)[j]? = some sv := hsv
      rw [List.getElem?_map] at hsv
      cases hv : (valsD x)[j]? with
      | none => rw [hv] at hsv; cases hsv
      | some v =>
        rw [hv] at hsv; cases hsv
        refine ⟨v, ?_, .val _ _⟩
        have hj : j < 3 := (List.getElem?_eq_some_iff.1 hv).1
        have hi : i < ys.length := by
          have := (List.getElem?_eq_some_iff.1 hx).1
          rwa [del_len h1 h2] at this
        show c2[l.p + (i * 3 + j)]? = some v
        rw [del_get h1 h2] at hx
        rw [b5 _ (by rw [a2, hcs0]; omega), hzl]
        by_cases e0 : i = n - 1
        · rw [if_neg (by omega), if_neg (by omega), if_pos e0] at hx
          cases hx
          rw [if_pos (by omega), show l.p + (i * 3 + j) - (l.p + (n - 1) * 3) = j by omega]
          exact hv
        · rw [if_neg (by omega), a5 _ (by rw [hcs0]; omega), hnl]
          by_cases e1 : i < k
          · rw [if_pos e1] at hx
            rw [if_neg (by omega)]
            exact hrow i x j v hx hv
          · rw [if_neg e1] at hx
            by_cases e2 : i < n - 1
            · rw [if_pos e2] at hx
              rw [if_pos (by omega), show l.p + (i * 3 + j) - (l.p + k * 3) = (i - k) * 3 + j by omega, hng _ _ hj (by omega), show k + 1 + (i - k) = i + 1 by omega, hx]
              exact hv
            · rw [if_neg e2, if_neg e0] at hx
              rw [if_neg (by omega)]
              exact hrow i x j v hx hv
    · exact .sl ρ 0 3 0 (n - 1) c _ (by omega) (.inr ⟨l, hl, rfl, hroom⟩)
    · exact ⟨rfl, rfl, rfl⟩
    · exact ⟨rfl, flDP⟩
  · have ht : t < (n - (k + 1)) * 3 := by rw [← hnl]; exact (List.getElem?_eq_some_iff.1 hu).1
    have e := hng (t / 3) (t % 3) (Nat.mod_lt _ (by omega)) (by omega)
    rw [show t / 3 * 3 + t % 3 = t by omega, hu] at e
    cases hx : ys[k + 1 + t / 3]? with
    | none => rw [hx] at e; cases e
    | some x =>
      rw [hx] at e
      have := hrow _ x (t % 3) u hx e.symm
      rw [show l.p + 0 * 3 + (k + 1) * 3 + t = l.p + ((k + 1 + t / 3) * 3 + t % 3) by omega]
      simp [World.cell?, hb, this]
  · rw [hnw] at hu
    obtain ⟨x, _, hx⟩ := List.mem_flatMap.1 hu
    simp only [valsD, List.mem_cons, List.not_mem_nil, or_false] at hx
    rcases hx with rfl | rfl | rfl <;> rfl
  · obtain ⟨v, hv⟩ := hcell t (by omega)
    rw [Nat.zero_mul, Nat.add_zero]
    exact ⟨by simp [World.cell?, hb, hv], by simp [World.frozen?, hb]⟩
theorem sDel : SpecOk P 29 cDel.spec := con_core cDel ⟨Try.f29, by kernel_rfl, by kernel_rfl, by kernel_rfl⟩ (by decide) (fun g lb _ hm => by rcases List.mem_cons.1 hm with rfl | hm; exact trivial; cases hm) runsDel
end Go.WbW
