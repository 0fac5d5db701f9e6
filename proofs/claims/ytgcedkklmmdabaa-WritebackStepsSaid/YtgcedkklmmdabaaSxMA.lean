/- A PART OF THE PROOF. NO CONDITION. -/
import Derived.Test.YtgcedkklmmdabaaSxM
set_option linter.unusedSimpArgs false
set_option linter.unusedVariables false
set_option linter.unusedVariables false
set_option linter.unusedSimpArgs false
namespace Go.SX

theorem mapTy_und {P : Program} {E : Env} (hE : EnvOk P E) {t k e : Nat} (he : mapTy E t = some (k, e)) : P.underlying t = some (.map k e) := by
  unfold mapTy at he
  cases ht : E.ty t with
  | none => simp [ht] at he
  | some ti =>
    simp only [ht] at he
    have hu := (hE.ty t ti ht).und
    split at he
    · rename_i k' e' hd
      cases he
      rw [hu, hd]
    · cases he

theorem intsOf_sound {X : PH} {ρ : Rho} : ∀ {cs : List SV} {xs : List Int}, intsOf cs = some xs → ∀ {vs : List Value}, vs.length = cs.length →
    (∀ (i : Nat) (sv : SV) (v : Value), cs[i]? = some sv → vs[i]? = some v → Rv X ρ sv v) → vs = xs.map (Value.int .i64)
  | [], xs, h, vs, hl, _ => by
    cases h
    exact List.eq_nil_of_length_eq_zero (by simpa using hl)
  | c :: r, xs, h, vs, hl, hv => by
    cases vs with
    | nil => simp at hl
    | cons v vs =>
      have hc := hv 0 c v rfl rfl
      unfold intsOf at h
      split at h
      · rename_i e; cases e
      · rename_i x r' e
        cases e
        cases hr : intsOf r with
        | none => simp [hr] at h
        | some ys =>
          simp only [hr] at h
          cases h
          cases hc
          rw [List.map_cons, intsOf_sound hr (vs := vs) (by simpa using hl) (fun i sv v a b => hv (i + 1) sv v (by simpa using a) (by simpa using b))]
      · cases h

theorem mkKey_sound {X : PH} {ρ : Rho} {isA : Bool} {n : Nat} {s : SV} {v : Value} (hv : Rv X ρ s v) {ks : List Int} (h : mkKey isA n s = some ks) :
    v = keyV isA ks ∧ (isA = true → ks.length = n) ∧ (isA = false → ks.length = 1) := by
  unfold mkKey at h
  split at h
  · rename_i cs
    cases hi : intsOf cs with
    | none => simp [hi] at h
    | some xs =>
      simp only [hi] at h
      cases hl : Nat.beq xs.length n with
      | false => simp [hl] at h
      | true =>
        simp only [hl] at h
        cases h
        cases hv with
        | agg _ _ vs hs hh =>
          have := intsOf_sound hi (vs := vs.toList) (by simpa using hs) (fun i sv v a b => hh i sv v a (by simpa using b))
          refine ⟨?_, fun _ => Nat.eq_of_beq_eq_true hl, fun q => by cases q⟩
          simp only [keyV]
          rw [← this]
  · cases h
    cases hv
    exact ⟨rfl, fun q => (by cases q), fun _ => rfl⟩
  · cases h

theorem keyV_inj {isA : Bool} {n : Nat} (h1 : isA = false → n = 1) {xs ys : List Int} (hx : xs.length = n) (hy : ys.length = n) (h : keyV isA xs = keyV isA ys) : xs = ys := by
  cases isA with
  | true =>
    simp only [keyV, Value.agg.injEq] at h
    have : xs.map (Value.int .i64) = ys.map (Value.int .i64) := by simpa using congrArg Array.toList h
    exact (List.map_inj_right (fun a b e => by cases e; rfl)).1 this
  | false =>
    have := h1 rfl; subst this
    match xs, ys, hx, hy with
    | [x], [y], _, _ => simp only [keyV, List.headD_cons, Value.int.injEq, true_and] at h; rw [h]

section assoc
variable {α : Type} {k : List Int} {y z : α}
theorem putE_new : ∀ {es : List (List Int × α)}, (∀ e ∈ es, e.1 ≠ k) → putE k y es = es ++ [(k, y)]
  | [], _ => rfl
  | (k', x) :: r, h => by
    have h1 : k' ≠ k := h (k', x) (by simp)
    simp only [putE, h1, if_false, List.cons_append, List.cons.injEq, true_and]
    exact putE_new fun e he => h e (by simp [he])
theorem putE_at : ∀ {es : List (List Int × α)} {j : Nat} {e : List Int × α}, es[j]? = some e → e.1 = k → (es.map (·.1)).Nodup → putE k y es = es.set j (k, y)
  | [], j, e, h, _, _ => by simp at h
  | (k', x) :: r, 0, e, h, hk, _ => by
    simp at h; subst h
    simp only at hk
    simp [putE, hk]
  | (k', x) :: r, j + 1, e, h, hk, hn => by
    simp at h
    rw [List.map_cons, List.nodup_cons] at hn
    have h1 : k' ≠ k := fun q => hn.1 (by rw [q, ← hk]; exact List.mem_map.2 ⟨e, List.mem_of_getElem? h, rfl⟩)
    simp only [putE, h1, if_false, List.set_cons_succ, List.cons.injEq, true_and]
    exact putE_at h hk hn.2
theorem lookE_new : ∀ {es : List (List Int × α)}, (∀ e ∈ es, e.1 ≠ k) → lookE k z es = z ∧ hasE k es = false
  | [], _ => ⟨rfl, rfl⟩
  | (k', x) :: r, h => by
    have h1 : k' ≠ k := h (k', x) (by simp)
    simp only [lookE, hasE, h1, if_false]
    exact lookE_new fun e he => h e (by simp [he])
theorem lookE_at : ∀ {es : List (List Int × α)} {j : Nat} {e : List Int × α}, es[j]? = some e → e.1 = k → (es.map (·.1)).Nodup → lookE k z es = e.2 ∧ hasE k es = true
  | [], j, e, h, _, _ => by simp at h
  | (k', x) :: r, 0, e, h, hk, _ => by
    simp at h; subst h
    simp only at hk
    simp [lookE, hasE, hk]
  | (k', x) :: r, j + 1, e, h, hk, hn => by
    simp at h
    rw [List.map_cons, List.nodup_cons] at hn
    have h1 : k' ≠ k := fun q => hn.1 (by rw [q, ← hk]; exact List.mem_map.2 ⟨e, List.mem_of_getElem? h, rfl⟩)
    simp only [lookE, hasE, h1, if_false]
    exact lookE_at h hk hn.2
end assoc

/-- where a key is found -/
theorem find_entry {P : Program} {k : Nat} {isA : Bool} {n : Nat} (hk : KeyOk P k isA n) {α : Type} {es : List (List Int × α)} {a : Array MapEntry} (hs : a.size = es.length)
    (he : ∀ (i : Nat) (e : List Int × α), es[i]? = some e → e.1.length = n ∧ inKs e.1 ∧ ∃ en : MapEntry, a[i]? = some en ∧ en.key = keyV isA e.1)
    {ks : List Int} (hl : ks.length = n) (hin : inKs ks) (w : World) :
    ((Instr.findKey k (keyV isA ks) a.toList).run P w = .ok none w ∧ ∀ e ∈ es, e.1 ≠ ks) ∨
    ∃ (j : Nat) (e : List Int × α) (en : MapEntry), (Instr.findKey k (keyV isA ks) a.toList).run P w = .ok (some (j, en.val)) w ∧ es[j]? = some e ∧ e.1 = ks ∧ a[j]? = some en ∧ en.key = keyV isA ks := by
  obtain ⟨lx, hlx⟩ := hk.lit ks hl hin
  have hkeys : ∀ e ∈ a.toList, ∃ l, keyOf P k e.key = some l := fun e hm => by
    obtain ⟨i, hi⟩ := List.getElem?_of_mem hm
    have hil : i < es.length := by rw [← hs]; simpa using (List.getElem?_eq_some_iff.1 hi).1
    obtain ⟨h1, h2, en, h3, h4⟩ := he i es[i] (by simp)
    have : e = en := by rw [Array.getElem?_toList, h3] at hi; cases hi; rfl
    subst this
    rw [h4]
    exact hk.lit _ h1 h2
  rcases hk.keyed.find w hlx a.toList hkeys with ⟨h1, h2⟩ | ⟨j, e, h1, h2, h3⟩
  · refine .inl ⟨h1, fun e hm hq => ?_⟩
    obtain ⟨i, hi⟩ := List.getElem?_of_mem hm
    obtain ⟨_, _, en, g3, g4⟩ := he i e hi
    refine h2 en (Array.mem_toList_iff.2 (Array.mem_of_getElem? g3)) ?_
    rw [g4, hq]
  · have hj : a[j]? = some e := by simpa using h2
    have hjl : j < es.length := by rw [← hs]; exact (Array.getElem?_eq_some_iff.1 hj).1
    obtain ⟨g1, _, en, g3, g4⟩ := he j es[j] (by simp)
    rw [hj] at g3; cases g3
    refine .inr ⟨j, es[j], e, h1, by simp, ?_, hj, h3⟩
    exact keyV_inj hk.one g1 hl (g4.symm.trans h3)

theorem Bl.set_self {B : Bl} {key : Nat} {lb : LB} (h : Bl.get B key = some lb) (k : Nat) : Bl.get (Bl.set B key lb) k = Bl.get B k := by
  by_cases hk : k = key
  · subst hk; rw [Bl.get_set_same _ _ _ h, h]
  · exact Bl.get_set_other _ _ _ _ hk
theorem Mem.set_self {X : PH} {ρ : Rho} {B : Bl} {w : World} (hm : Mem X ρ B w) {key : Nat} {lb : LB} (h : Bl.get B key = some lb) : Mem X ρ (Bl.set B key lb) w :=
  ⟨hm.fr, hm.sub, fun k b hb => hm.own k b (by rw [← Bl.set_self h]; exact hb), fun k1 k2 b1 b2 l1 l2 h1 h2 => hm.inj k1 k2 b1 b2 l1 l2 (by rw [← Bl.set_self h]; exact h1) (by rw [← Bl.set_self h]; exact h2)⟩

theorem flat_zero {X : PH} {k n : Nat} {α : Type} {enc : α → List SV} {z : α} {zv : Value} {zs : List Value} (hz : zv.cells.toList = zs) (hk : zs.length = k) (hen : enc z = zs.map SV.val) :
    Flat X k ((List.replicate n z).map enc) (Builtin.zeroCells zv.cells n).toList := by
  have hsz : zv.cells.size = k := by rw [← hk, ← hz]; simp
  refine ⟨by simp [Builtin.zeroCells, hsz], fun i j row sv hi hj => ?_⟩
  have hin : i < n := by have := (List.getElem?_eq_some_iff.1 hi).1; simpa using this
  have hr : row = enc z := by simp [hin] at hi; exact hi.symm
  subst hr
  rw [hen, List.getElem?_map] at hj
  obtain ⟨v, hv, rfl⟩ := Option.map_eq_some_iff.1 hj
  have hjk : j < k := by rw [← hk]; exact (List.getElem?_eq_some_iff.1 hv).1
  have hm : (i + 1) * k ≤ n * k := Nat.mul_le_mul_right k hin
  rw [Nat.add_mul] at hm
  refine ⟨hjk, v, ?_, .val _ _⟩
  have h1 : i * k + j < n * k := by omega
  have h2 : (i * k + j) % k = j := by rw [Nat.mul_comm, Nat.mul_add_mod, Nat.mod_eq_of_lt hjk]
  have h3 : zv.cells[j]? = some v := by rw [← hz] at hv; simpa using hv
  simp only [Builtin.zeroCells, hsz, Array.toList_map, List.getElem?_map, Array.toList_range]
  rw [List.getElem?_range h1]
  simp only [Option.map_some, h2]
  congr 1
  rw [Array.getElem!_eq_getD, Array.getD_eq_getD_getElem?, h3]
  rfl

section acts
variable {P : Program} {E : Env} (hE : EnvOk P E) {X : PH} {ρ : Rho} {B : Bl} {w : World} (hm : Mem X ρ B w) {kd : Nat} (hf : ∀ key, kd ≤ key → key < kd + 8 → ρ key = none ∧ Bl.get B key = none)
  {r : Operand → SV} {ev : Operand → Value} (hev : ∀ x, Rv X ρ (r x) (ev x)) {K : SV → Bl → Prop} {o : Oper}

include hE hm hf hev in
theorem act_makeMap {t : Nat} {q : Option Operand} (ho : o.op = .makeMap t q) (h : act0 E o kd r B K) : OpOk P o ev w (Out X ρ B kd K) := by
  simp only [act0, ho] at h
  cases hi : isIntS (q.map r) with
  | false => simp only [hi] at h
  | true =>
    simp only [hi, makeMapSV] at h
    cases ht : mapTy E t with
    | none => simp only [ht] at h
    | some ke =>
      obtain ⟨k, el⟩ := ke
      simp only [ht] at h
      have hu := mapTy_und hE ht
      split at h
      · rename_i isA n e hk he
        cases h1 : Nat.beq 1 (e.enc e.d).length with
        | false => simp only [h1] at h
        | true =>
          simp only [h1] at h
          obtain ⟨hen, hK⟩ := h
          have hX : X w.heap.size = none := hm.X_lt (Nat.le_refl _)
          have hfk := hf kd (Nat.le_refl _) (by omega)
          have hM : Mem X (ρ.upd kd (some ⟨w.heap.size, 0, 0⟩)) (Bl.ins B kd (.mp isA n e.α e.d e.enc [])) (w.alloc (.map #[] 0)) := by
            refine hm.insAt hfk.1 hfk.2 ⟨Fr.alloc _ _, fun b hb => ?_⟩ hX (fun key b q h hq => Nat.ne_of_lt (hm.lt h hq).1) ⟨hX, hen, (Nat.eq_of_beq_eq_true h1).symm, by simp, #[], 0, heap_push_eq, rfl, fun i e hi => by simp at hi⟩
            by_cases hlt : b < w.heap.size
            · exact .inl (heap_push_lt hlt)
            · refine .inr (Array.getElem?_eq_none (by omega))
          refine OpOk.value (v := .map (some w.heap.size)) (w' := w.alloc (.map #[] 0)) ?_ ⟨X, _, _, _, X.le_refl, Rho.upd_le hfk.1, fun q hq => ⟨Rho.upd_other (fun e => hq (by omega)), fun hb => ?_⟩, hM, .mapv _ _ _ (Rho.upd_same _ _ _), hK⟩
          · cases q with
            | none => simp only [execOp, ho]; rfl
            | some q =>
              have hq := hev q
              simp only [Option.map_some] at hi
              generalize r q = sq at hq hi
              unfold isIntS at hi
              split at hi
              · rename_i e; cases e
              · rename_i kk x e
                cases e
                generalize hqv : ev q = v at hq
                cases hq
                simp only [execOp, ho, Option.map_some, hqv]
                simp [Instr.makeMap, run_underlying hu, asInt]
                rfl
              · cases hi
          · rw [Bl.get_ins_other _ _ _ _ (fun e => hq (by omega))]; exact hb
      · exact h.elim

include hE hm hev in
theorem act_mapUpdate {t : Nat} {m k x : Operand} (ho : o.op = .mapUpdate t m k x) (h : act0 E o kd r B K) : OpOk P o ev w (Out X ρ B kd K) := by
  simp only [act0, ho, updMapSV] at h
  have hvm := hev m
  generalize r m = sm at h hvm
  split at h
  · rename_i key
    generalize hem : ev m = vm at hvm
    cases hvm with
    | mapv _ _ l hl =>
      split at h
      · rename_i isA n α d enc es kt el hg ht
        have hu := mapTy_und hE ht
        split at h
        · rename_i isA' n' hkt
          split at h
          · rename_i ks hb hks hone
            rw [Bool.and_eq_true] at hb hone
            have e1 : isA = isA' := by simpa using hb.1
            have e2 : n = n' := Nat.eq_of_beq_eq_true hb.2
            subst e1; subst e2
            have KO := hE.mkey kt isA n hkt
            obtain ⟨hin, y, hy, hK⟩ := h
            obtain ⟨hkv, hl1, hl2⟩ := mkKey_sound (hev k) hks
            have hlen : ks.length = n := by
              cases isA with
              | true => exact hl1 rfl
              | false => rw [hl2 rfl, KO.one rfl]
            have hok := hm.own key _ hg
            rw [hl] at hok
            obtain ⟨hX, hen, hen1, hnd, a, clock, hH, hsz, hes⟩ := hok
            simp only at hH
            obtain ⟨lx, hlx⟩ := KO.lit ks hlen hin
            have hval : ∀ sv, enc y = [sv] → Rv X noKeys sv (ev x) := fun sv hsv => by
              rw [hy] at hsv; cases hsv
              exact ((hev x).unkey hone.2).normB
            have hset : ∀ (a' : Array MapEntry) (c' : Nat) (es' : List (List Int × α)), BOk X ρ (fun b => ({ w with heap := w.heap.setIfInBounds l.b (.map a' c') } : World).heap[b]?) (some l) (.mp isA n α d enc es') →
                (Instr.mapUpdate t (.map (some l.b)) (ev k) (ev x)).run P w = .ok () { w with heap := w.heap.setIfInBounds l.b (.map a' c') } → es' = putE ks y es → OpOk P o ev w (Out X ρ B kd K) := fun a' c' es' hbok hrun hes' => by
              subst hes'
              refine OpOk.skip (w' := { w with heap := w.heap.setIfInBounds l.b (.map a' c') }) ?_ ⟨X, ρ, _, _, X.le_refl, ρ.le_refl, fun q _ => ⟨rfl, fun hq => set_keys q hq⟩, hm.write hg hl ⟨⟨rfl, rfl, rfl, Nat.le_refl _⟩, fun b hb => ?_⟩ hbok, .tup _ [] #[] rfl (fun i sv v hi => by simp at hi), hK⟩
              · simp only [execOp, ho, hem]
                rw [Sem.run_bind, hrun]; rfl
              · simp only [Array.getElem?_setIfInBounds, if_neg (Ne.symm hb)]
            have hlt := lt_of_heap hH
            rcases find_entry KO hsz (fun i e hi => let ⟨a1, a2, en, a3, a4, _⟩ := hes i e hi; ⟨a1, a2, en, a3, a4⟩) hlen hin w with ⟨h1, h2⟩ | ⟨j, e, en, h1, h2, h3, h4, h5⟩
            · refine hset (a.push ⟨keyV isA ks, ev x, clock⟩) (clock + 1) _ ⟨hX, hen, hen1, ?_, a.push ⟨keyV isA ks, ev x, clock⟩, clock + 1, by simp [hlt], by simp [putE_new h2, hsz], ?_⟩ ?_ rfl
              · rw [putE_new h2, List.map_append, List.nodup_append]
                refine ⟨hnd, by simp, fun p hp q hq => ?_⟩
                simp only [List.map_cons, List.map_nil, List.mem_singleton] at hq
                obtain ⟨e, he, rfl⟩ := List.mem_map.1 hp
                rw [hq]; exact h2 e he
              · intro i e hi
                rw [putE_new h2] at hi
                by_cases hil : i < es.length
                · rw [List.getElem?_append_left hil] at hi
                  obtain ⟨a1, a2, en, a3, a4, a5⟩ := hes i e hi
                  refine ⟨a1, a2, en, ?_, a4, a5⟩
                  rw [Array.getElem?_push, if_neg (by omega)]; exact a3
                · rw [List.getElem?_append_right (by omega)] at hi
                  have hi0 : i = es.length := by
                    have := (List.getElem?_eq_some_iff.1 hi).1
                    simp at this; omega
                  subst hi0
                  simp at hi; subst hi
                  refine ⟨hlen, hin, _, by rw [Array.getElem?_push, if_pos hsz.symm], rfl, hval⟩
              · simp [Instr.mapUpdate, run_underlying hu, MapKept.run_getObj_map hH, hkv ▸ KO.keyed.check w false hlx, hkv, KO.keyed.check w false hlx, h1, MapKept.run_setObj_map _ hH, Result.andThen]
            · refine hset (a.modify j fun q => { q with key := keyV isA ks, val := ev x }) clock _ ⟨hX, hen, hen1, ?_, a.modify j fun q => { q with key := keyV isA ks, val := ev x }, clock, by simp [hlt], by simp [putE_at h2 h3 hnd, hsz], ?_⟩ ?_ rfl
              · rw [putE_at h2 h3 hnd, List.map_set]
                have : (es.map (·.1)).set j ks = es.map (·.1) := by
                  refine List.ext_getElem? fun i => ?_
                  rw [List.getElem?_set]
                  by_cases hij : j = i
                  · subst hij
                    have hjl := (List.getElem?_eq_some_iff.1 h2).1
                    simp only [if_true, List.length_map, hjl, List.getElem?_map, h2, Option.map_some, h3]
                  · simp [hij]
                rw [this]; exact hnd
              · intro i q hi
                rw [putE_at h2 h3 hnd, List.getElem?_set] at hi
                by_cases hij : j = i
                · subst hij
                  have hjl := (List.getElem?_eq_some_iff.1 h2).1
                  simp only [if_true, hjl] at hi
                  cases hi
                  refine ⟨hlen, hin, _, by rw [Array.getElem?_modify, if_pos rfl, h4]; rfl, rfl, hval⟩
                · simp only [hij, if_false] at hi
                  obtain ⟨a1, a2, en', a3, a4, a5⟩ := hes i q hi
                  refine ⟨a1, a2, en', by rw [Array.getElem?_modify, if_neg hij]; exact a3, a4, a5⟩
              · simp [Instr.mapUpdate, run_underlying hu, MapKept.run_getObj_map hH, hkv, KO.keyed.check w false hlx, h1, h4, h5, KO.keyed.stays w hlx, MapKept.run_setObj_map _ hH, Result.andThen]
          · exact h.elim
        · exact h.elim
      · exact h.elim
  · exact h.elim

include hE hm hev in
theorem act_lookup {t : Nat} {m k : Operand} {ok : Bool} (ho : o.op = .lookup t m k ok) (h : act0 E o kd r B K) : OpOk P o ev w (Out X ρ B kd K) := by
  simp only [act0, ho, lookMapSV] at h
  have hvm := hev m
  generalize r m = sm at h hvm
  split at h
  · rename_i key
    generalize hem : ev m = vm at hvm
    cases hvm with
    | mapv _ _ l hl =>
      split at h
      · rename_i isA n α d enc es kt el hg ht
        have hu := mapTy_und hE ht
        split at h
        · rename_i isA' n' te hkt hte
          split at h
          · rename_i ks z0 hb hks hz
            rw [Bool.and_eq_true] at hb
            have e1 : isA = isA' := by simpa using hb.1
            have hagg := (Bool.and_eq_true _ _ ▸ hb.2 : _ ∧ _).2
            have e2 : n = n' := Nat.eq_of_beq_eq_true (Bool.and_eq_true _ _ ▸ hb.2 : _ ∧ _).1
            subst e1; subst e2
            have KO := hE.mkey kt isA n hkt
            obtain ⟨hin, z, hzz, hK⟩ := h
            obtain ⟨hkv, hl1, hl2⟩ := mkKey_sound (hev k) hks
            have hlen : ks.length = n := by
              cases isA with
              | true => exact hl1 rfl
              | false => rw [hl2 rfl, KO.one rfl]
            have hok := hm.own key _ hg
            rw [hl] at hok
            obtain ⟨hX, hen, hen1, hnd, a, clock, hH, hsz, hes⟩ := hok
            simp only at hH
            obtain ⟨lx, hlx⟩ := KO.lit ks hlen hin
            have fin : ∀ (v : Value) (q : Bool), (∀ sv, enc (lookE ks z es) = [sv] → Rv X ρ sv v) → hasE ks es = q →
                (Instr.lookup t (.map (some l.b)) (ev k) ok).run P w = .ok (if ok = true then .tuple #[v, .bool q] else v) w → OpOk P o ev w (Out X ρ B kd K) := fun v q hv hq hrun => by
              refine OpOk.value (v := if ok = true then .tuple #[v, .bool q] else v) (w' := w) ?_ ?_
              · simp [execOp, ho, hem, hrun]
              · split at hK
                · rename_i sv hsv
                  refine Out.same hm (sv := .tup [sv, .val (.bool (hasE ks es))]) ?_ hK
                  rw [if_pos rfl]
                  refine .tup _ _ _ rfl fun i s u hi hu => ?_
                  match i, hi, hu with
                  | 0, hi, hu => simp at hi hu; subst hi; subst hu; exact hv _ hsv
                  | 1, hi, hu => simp at hi hu; subst hi; subst hu; rw [hq]; exact .val _ _
                  | i + 2, hi, hu => simp at hi
                · rename_i sv hsv
                  refine Out.same hm (sv := sv) ?_ hK
                  simpa using hv _ hsv
                · exact hK.elim
            rcases find_entry KO hsz (fun i e hi => let ⟨a1, a2, en, a3, a4, _⟩ := hes i e hi; ⟨a1, a2, en, a3, a4⟩) hlen hin w with ⟨h1, h2⟩ | ⟨j, e, en, h1, h2, h3, h4, h5⟩
            · obtain ⟨zv, hzr, hzc⟩ := (hE.ty el te hte).run_zero1 (w := w) (by simpa using hagg)
              obtain ⟨g1, g2⟩ := lookE_new (z := z) h2
              have hz1 : zv = z0 := by rw [hz] at hzc; simpa using hzc
              subst hz1
              refine fin zv false (fun sv hsv => ?_) g2 ?_
              · rw [g1, hzz] at hsv
                cases hsv
                exact .val _ _
              · simp [Instr.lookup, run_underlying hu, MapKept.run_getObj_map hH, hkv, KO.keyed.check w _ hlx, h1, hzr, Result.andThen]
            · obtain ⟨g1, g2⟩ := lookE_at (z := z) h2 h3 hnd
              obtain ⟨_, _, en', a3, _, a5⟩ := hes j e h2
              rw [h4] at a3; cases a3
              refine fin en.val true (fun sv hsv => (a5 sv (by rw [← g1]; exact hsv)).monoR (Rho.none_le _)) g2 ?_
              simp [Instr.lookup, run_underlying hu, MapKept.run_getObj_map hH, hkv, KO.keyed.check w _ hlx, h1, Result.andThen]
          · exact h.elim
        · exact h.elim
      · exact h.elim
  · exact h.elim

include hm in
theorem clear_sound {e t ty : Nat} {te : TI} (hu : P.underlying t = some (.slice e)) (hte : TyOk P e te) {s : SV} {v : Value} (hv : Rv X ρ s v) {K' : Bl → Prop} (h : clearSV te B s K') :
    ∃ w' B', (Builtin.clear_ #[t] ty #[v]).run P w = .ok (.tuple #[]) w' ∧ Mem X ρ B' w' ∧ K' B' ∧ ∀ k, Bl.get B k = none → Bl.get B' k = none := by
  unfold clearSV at h
  split at h
  · cases hv
    refine ⟨w, B, ?_, hm, h, fun _ hk => hk⟩
    rename_i A
    cases A <;> simp [Builtin.clear_, run_underlying hu]
  · cases hv
    refine ⟨w, B, ?_, hm, h, fun _ hk => hk⟩
    simp [Builtin.clear_, run_underlying hu]
  · rename_i key k o n
    split at h
    · rename_i α d enc xs hg hk
      cases hk2 : Nat.beq k (enc d).length with
      | false => simp only [hk2] at h
      | true =>
        simp only [hk2] at h
        obtain ⟨hon, z, hz, hK⟩ := h
        have hkt : k = te.size := Nat.eq_of_beq_eq_true hk
        have hkd : k = (enc d).length := Nat.eq_of_beq_eq_true hk2
        cases hv with
        | sl _ _ _ _ _ c A hn hA =>
          by_cases hn0 : n = 0
          · subst hn0
            refine ⟨w, _, ?_, hm.set_self hg, by simpa using hK, fun q hq => by rw [Bl.set_self hg]; exact hq⟩
            cases A <;> simp [Builtin.clear_, run_underlying hu]
          · obtain ⟨l, hl1, hl2, hl3⟩ := hA.resolve_left (by omega)
            have hok := hm.own key _ hg
            rw [hl1] at hok
            obtain ⟨hX, hen, c0, ty0, g1, g2, g3, g4⟩ := id hok
            obtain ⟨zv, hzr, hzc⟩ := hte.run_zero (w := w)
            have hfl : Flat X (enc d).length ((List.replicate n z).map enc) (Builtin.zeroCells zv.cells n).toList := flat_zero hzc (by rw [hte.len, ← hkt, hkd]) hz
            have hul := hfl.1
            simp only [List.length_map, List.length_replicate] at hul
            have hb1 : (o + n) * k ≤ xs.length * k := Nat.mul_le_mul_right k hon
            rw [Nat.add_mul] at hb1
            rw [← hkd] at g3 hul
            have hone : ∀ u ∈ (Builtin.zeroCells zv.cells n).toList, u.oneCell' = true := fun u hu => by
              have : u ∈ te.zero := by
                rw [← hzc]
                simp only [Builtin.zeroCells, Array.toList_map, List.mem_map] at hu
                obtain ⟨i, hi, rfl⟩ := hu
                have hi2 : i < n * zv.cells.size := by simpa using hi
                have hpos : 0 < zv.cells.size := by
                  cases hs0 : zv.cells.size with
                  | zero => rw [hs0] at hi2; simp at hi2
                  | succ q => omega
                have hlt := Nat.mod_lt i hpos
                simp [Array.getElem!_eq_getD, Array.getD, hlt]
              exact hte.one u this
            obtain ⟨w', c', hst, hc', hsz, hoth, hw⟩ := run_storeCells (P := P) (Builtin.zeroCells zv.cells n).toList w l.b (l.p + o * k) 0 c0 ty0 g1 hone (by omega)
            have hbok := bok_rows_write (ys := List.replicate n z) (o := o) (c' := c') (H' := fun b => w'.heap[b]?) hok g1 (by simpa using hon) hfl hc' hsz (fun j => by simpa [← hkd] using hw j)
            simp only [List.length_replicate] at hbok
            refine ⟨w', _, ?_, hm.write hg hl1 hoth hbok, hK, fun q hq => set_keys q hq⟩
            subst hl2
            cases n with
            | zero => exact absurd rfl hn0
            | succ n => simp [Builtin.clear_, run_underlying hu, hzr, hst, Result.andThen]
    · exact h.elim
  · exact h.elim

include hm in
theorem lenM_sound {k e t ty : Nat} (hu : P.underlying t = some (.map k e)) {s : SV} {v : Value} (hv : Rv X ρ s v) {K' : SV → Prop} (h : lenM B s K') :
    ∃ n : Nat, (Builtin.len_ #[t] ty #[v]).run P w = .ok (.int .i64 n) w ∧ K' (.val (.int .i64 n)) := by
  unfold lenM at h
  split at h
  · rename_i key
    split at h
    · rename_i isA n α d enc es hg
      cases hv with
      | mapv _ _ l hl =>
        have hok := hm.own key _ hg
        rw [hl] at hok
        obtain ⟨hX, hen, hen1, hnd, a, clock, hH, hsz, hes⟩ := hok
        simp only at hH
        refine ⟨es.length, ?_, h⟩
        simp [Builtin.len_, run_underlying hu, MapKept.run_getObj_map hH, goInt, hsz]
    · exact h.elim
  · exact h.elim
end acts
end Go.SX
