/- A PART OF THE PROOF. NO CONDITION. -/
import Derived.Test.YtgcedkklmmdabaaSxJ
set_option linter.unusedSimpArgs false
set_option linter.unusedVariables false
set_option linter.unusedVariables false
set_option linter.unusedSimpArgs false
namespace Go.SX

theorem new_cells {X : PH} {ρ : Rho} {B : Bl} {w : World} (hm : Mem X ρ B w) {kd : Nat} (hr : ρ kd = none) (hb : Bl.get B kd = none) {cs : List SV} {zs : Array Value} (hl : Like X ρ cs zs) (ty : TypeId)
    {K : SV → Bl → Prop} {sv : SV} {v : Value} (hv : ∀ σ : Rho, σ kd = some ⟨w.heap.size, 0, zs.size⟩ → Rv X σ sv v) (h : K sv (Bl.ins B kd (.cells cs))) :
    Out X ρ B kd K v (w.alloc (.cells zs ty)) := by
  refine ⟨X, _, sv, _, X.le_refl, Rho.upd_le hr, fun q hq => ⟨Rho.upd_other (fun e => hq (by omega)), fun h0 => ?_⟩, hm.new hr hb (lb := .cells cs) (c := zs) (ty := ty) (fun H hH hX => ?_), hv _ (Rho.upd_same _ _ _), h⟩
  · rw [Bl.get_ins_other _ _ _ _ (fun e => hq (by omega))]; exact h0
  · exact ⟨hX, zs, ty, hH, rfl, by simp [hl.1], fun i sv hi => by simpa using hl.2 i sv hi⟩

theorem run_sliceBound' {P : Program} (k : IntKind) (i : Int) (y : Nat) (code : BoundsCode) (w : World) (h0 : 0 ≤ i) (h1 : i ≤ (y : Int)) : (Instr.sliceBound (.int k i) y code).run P w = .ok i.toNat w := by
  simp [Instr.sliceBound, asIntOf, h0, h1]

theorem sliceLH_sound {P : Program} {X : PH} {ρ : Rho} {l h : Option SV} {lv hv : Option Value} (hl : ∀ s, l = some s → ∃ v, lv = some v ∧ Rv X ρ s v) (hl0 : l = none → lv = none)
    (hh : ∀ s, h = some s → ∃ v, hv = some v ∧ Rv X ρ s v) (hh0 : h = none → hv = none) {n c : Nat} (hn : n ≤ c) {K : Nat → Nat → Prop} (hK : sliceLH l h n K) (w : World) :
    ∃ a b, K a b ∧ a ≤ b ∧ b ≤ n ∧ (Instr.sliceBounds true n c lv hv none).run P w = .ok (a, b, c) w := by
  unfold sliceLH at hK
  split at hK
  · rw [hl0 rfl, hh0 rfl]
    exact ⟨0, n, hK, Nat.zero_le _, Nat.le_refl _, by simp [Instr.sliceBounds]⟩
  · rename_i k a
    obtain ⟨v, rfl, hr⟩ := hl _ rfl
    rw [hh0 rfl]
    cases hr
    refine ⟨a.toNat, n, hK.2, by omega, Nat.le_refl _, ?_⟩
    simp [Instr.sliceBounds, run_sliceBound' _ _ _ _ _ hK.1.1 hK.1.2]
  · rename_i k b
    obtain ⟨v, rfl, hr⟩ := hh _ rfl
    rw [hl0 rfl]
    cases hr
    refine ⟨0, b.toNat, hK.2, Nat.zero_le _, by omega, ?_⟩
    simp [Instr.sliceBounds, run_sliceBound' _ _ _ _ _ hK.1.1 (show b ≤ (c : Int) by omega)]
  · rename_i k a k' b
    obtain ⟨v, rfl, hr⟩ := hl _ rfl
    obtain ⟨v', rfl, hr'⟩ := hh _ rfl
    cases hr
    cases hr'
    obtain ⟨⟨h1, h2, h3⟩, hK⟩ := hK
    refine ⟨a.toNat, b.toNat, hK, by omega, by omega, ?_⟩
    simp [Instr.sliceBounds, run_sliceBound' _ _ _ _ _ (show 0 ≤ b by omega) (show b ≤ (c : Int) by omega), run_sliceBound' _ _ _ _ _ h1 (show a ≤ (b.toNat : Int) by omega)]
  · exact hK.elim

theorem shift_sound {X : PH} {ρ : Rho} {p q : SV} {v : Value} (hv : Rv X ρ p v) {n : Nat} (h : shift p n = some q) : ∃ b off, v = .pointer (some ⟨b, off, none⟩) ∧ Rv X ρ q (.pointer (some ⟨b, off + n, none⟩)) := by
  cases hv with
  | ptr _ key off l hl => simp only [shift, Option.some.injEq] at h; subst h; exact ⟨_, _, rfl, by rw [Nat.add_assoc]; exact .ptr _ _ _ _ hl⟩
  | row _ key k i off l hl =>
    simp only [shift, Option.some.injEq] at h; subst h
    refine ⟨_, _, rfl, ?_⟩
    rw [show l.p + (i * k + off) + n = l.p + (i * k + (off + n)) by omega]; exact .row _ _ _ _ _ _ hl
  | rop _ α d enc xs i off b p cs ty fz cell hA hk hcs hr =>
    simp only [shift, Option.some.injEq] at h; subst h
    refine ⟨_, _, rfl, ?_⟩
    rw [show p + (i * (enc d).length + off) + n = p + (i * (enc d).length + (off + n)) by omega]
    exact .rop _ _ _ _ _ _ _ _ _ _ _ _ _ hA hk hcs hr
  | _ => simp [shift] at h

theorem slice_sl {X : PH} {ρ : Rho} {key k o n c a b : Nat} {A : Option Addr} (hn : n ≤ c) (h : c = 0 ∨ ∃ l, ρ key = some l ∧ A = some ⟨l.b, l.p + o * k, none⟩ ∧ l.p + (o + c) * k ≤ l.sz) (hab : a ≤ b) (hbn : b ≤ n) :
    Rv X ρ (.sl key k (o + a) (b - a)) (.slice (if c = a then A else A.map (·.add (a * k))) (b - a) (c - a)) := by
  refine .sl _ _ _ _ _ _ _ (by omega) ?_
  by_cases hca : c = a
  · exact .inl (by omega)
  · rw [if_neg hca]
    rcases h with h0 | ⟨l, h1, rfl, h3⟩
    · omega
    · refine .inr ⟨l, h1, by simp [addr_add, Nat.add_mul, Nat.add_assoc], ?_⟩
      rw [show o + a + (c - a) = o + c by omega]; exact h3

theorem slice_ro {X : PH} {ρ : Rho} {α : Type} {d : α} {enc : α → List SV} {xs : List α} {A : Option Addr} {c a b : Nat} (h : Rv X ρ (.ro α d enc xs) (.slice A xs.length c)) (hab : a ≤ b) (hbn : b ≤ xs.length) :
    Rv X ρ (.ro α d enc ((xs.take b).drop a)) (.slice (if c = a then A else A.map (·.add (a * (enc d).length))) (b - a) (c - a)) := by
  cases h with
  | ro _ _ _ _ _ _ _ b0 p cs ty fz cell hc hA hk hcs hr =>
    have hlen : ((xs.take b).drop a).length = b - a := by simp; omega
    have hget : ∀ i x, ((xs.take b).drop a)[i]? = some x → xs[a + i]? = some x ∧ a + i < b := fun i x hi => by
      rw [List.getElem?_drop, List.getElem?_take] at hi
      split at hi
      · exact ⟨hi, by assumption⟩
      · cases hi
    have key := Rv.ro (X := X) ρ α d enc ((xs.take b).drop a) (if c = a then A else A.map (·.add (a * (enc d).length))) (c - a) b0 (p + a * (enc d).length) cs ty fz (fun i j => cell (a + i) j)
      (by rw [hlen]; omega) (fun hne => by
        have hne' : xs ≠ [] := fun e => by subst e; simp at hne
        obtain ⟨g1, g2⟩ := hA hne'
        have hpos : 0 < b - a := by rw [← hlen]; exact List.length_pos_iff.2 hne
        rw [if_neg (by omega), g1]
        exact ⟨by simp [addr_add], g2⟩) hk
      (fun i j hi hj => by
        rw [hlen] at hi
        rw [← hcs (a + i) j (by omega) hj, Nat.add_mul]
        congr 1; omega)
      (fun i j x sv hi hj => hr (a + i) j x sv (hget i x hi).1 hj)
    rwa [hlen] at key

theorem rv_tt {X : PH} {ρ : Rho} {v : Value} (h : Rv X ρ .tt v) : v = .bool true := by cases h; rfl
theorem rv_ff {X : PH} {ρ : Rho} {v : Value} (h : Rv X ρ .ff v) : v = .bool false := by cases h; rfl
theorem rv_val {X : PH} {ρ : Rho} {u v : Value} (h : Rv X ρ (.val u) v) : v = u := by cases h; rfl

theorem fillS_length {off size : Nat} {sv : SV} {cs cs' : List SV} (h : fillS off size sv cs = some cs') : cs'.length = cs.length := by
  have one : (match SX.oneC sv && Nat.beq 1 size, Nat.ble (off + 1) cs.length with | true, true => some (splice off [SX.normB sv] cs) | _, _ => none) = some cs' → cs'.length = cs.length := fun h => by
    cases h1 : SX.oneC sv && Nat.beq 1 size with
    | false => simp only [h1] at h; cases h
    | true =>
      cases h2 : Nat.ble (off + 1) cs.length with
      | false => simp only [h1, h2] at h; cases h
      | true =>
        simp only [h1, h2, Option.some.injEq] at h
        have hle := Nat.le_of_ble_eq_true h2
        rw [← h]; exact splice_length (by simpa using hle)
  cases sv with
  | agg c0 =>
    simp only [fillS] at h
    cases h1 : Nat.beq c0.length size with
    | false => simp only [h1] at h; cases h
    | true =>
      cases h2 : Nat.ble (off + size) cs.length with
      | false => simp only [h1, h2] at h; cases h
      | true =>
        simp only [h1, h2, Option.some.injEq] at h
        have hle := Nat.le_of_ble_eq_true h2
        have hs := Nat.eq_of_beq_eq_true h1
        rw [← h]; exact splice_length (by omega)
  | _ => exact one h
theorem builds_length (place : Nat → Option (Nat × Nat)) : ∀ (l : List (Nat × SV)) (cs cs' : List SV), builds place l cs = some cs' → cs'.length = cs.length
  | [], cs, cs', h => by simp only [builds, Option.some.injEq] at h; rw [h]
  | (i, v) :: l, cs, cs', h => by
    simp only [builds] at h
    cases hp : place i with
    | none => simp [hp] at h
    | some q =>
      obtain ⟨off, size⟩ := q
      simp only [hp] at h
      cases hf : fillS off size v cs with
      | none => simp [hf] at h
      | some c1 =>
        simp only [hf] at h
        rw [builds_length place l c1 cs' h, fillS_length hf]

section acts
variable {P : Program} {E : Env} (hE : EnvOk P E) {X : PH} {ρ : Rho} {B : Bl} {w : World} (hm : Mem X ρ B w) {kd : Nat} (hf : ∀ key, kd ≤ key → key < kd + 8 → ρ key = none ∧ Bl.get B key = none)
  {r : Operand → SV} {ev : Operand → Value} (hev : ∀ x, Rv X ρ (r x) (ev x)) {K : SV → Bl → Prop} {o : Oper}

include hm hev in
theorem act_pick {c a b : Operand} (ho : o.op = .pick c a b) (h : act0 E o kd r B K) : OpOk P o ev w (Out X ρ B kd K) := by
  simp only [act0, ho] at h
  have hc := hev c
  have run : ∀ q, ev c = .bool q → (execOp ev o).run P w = .ok (.value (if q then ev a else ev b)) w := fun q hq => by simp [execOp, ho, hq, asBool]
  split at h
  · rename_i he; rw [he] at hc
    exact OpOk.value (run true (rv_tt hc)) (Out.same hm (hev a) h)
  · rename_i he; rw [he] at hc
    exact OpOk.value (run false (rv_ff hc)) (Out.same hm (hev b) h)
  · rename_i t he; rw [he] at hc
    have hc := rv_val hc
    split at h
    · rename_i x y hx hy
      refine OpOk.value (run t hc) (Out.same hm (sv := .val (.bool (bif t then x else y))) ?_ h)
      rw [rv_bool (hev a) hx, rv_bool (hev b) hy]
      cases t <;> exact .val _ _
    · cases t with
      | true => exact OpOk.value (run true hc) (Out.same hm (hev a) (h.1 rfl))
      | false => exact OpOk.value (run false hc) (Out.same hm (hev b) (h.2 rfl))
  · exact h.elim

include hE hm hf in
theorem act_alloc {t : Nat} (ho : o.op = .alloc t) (h : act0 E o kd r B K) : OpOk P o ev w (Out X ρ B kd K) := by
  simp only [act0, ho] at h
  cases ht : E.ty t with
  | none => simp [ht] at h
  | some ti =>
    simp only [ht] at h
    obtain ⟨z, hz, hzc⟩ := (hE.ty t ti ht).run_zero w
    have hl : Like X ρ (ti.zero.map SV.val) z.cells := by rw [← hzc]; exact like_zero z
    refine OpOk.value (v := .pointer (some ⟨w.heap.size, 0, none⟩)) (w' := w.alloc (.cells z.cells t)) ?_ (new_cells hm (hf kd (Nat.le_refl _) (by omega)).1 (hf kd (Nat.le_refl _) (by omega)).2 hl t (fun σ hσ => .ptr σ kd 0 _ hσ) h)
    simp [execOp, ho, Instr.alloc, hz, newVar, newRow]

include hm hf hev in
theorem act_box {t : Nat} {x : Operand} (ho : o.op = .box t x) (h : act0 E o kd r B K) : OpOk P o ev w (Out X ρ B kd K) := by
  simp only [act0, ho] at h
  cases ht : E.ty t with
  | none => simp [ht] at h
  | some ti =>
    simp only [ht] at h
    cases hc : cellsSV ti (r x) with
    | none => simp [hc] at h
    | some cs =>
      simp only [hc] at h
      obtain ⟨h1, h2, h3, h4⟩ := cells_sound (hev x) hc
      have hl : Like X ρ cs (ev x).cells := ⟨by omega, fun i sv hi => by
        have : i < (ev x).cells.size := by have := (List.getElem?_eq_some_iff.1 hi).1; omega
        exact ⟨(ev x).cells[i], by simp [this], h3 i sv _ hi (by simp [this])⟩⟩
      refine OpOk.value (v := .pointer (some ⟨w.heap.size, 0, none⟩)) (w' := w.alloc (.cells (ev x).cells t)) ?_ (new_cells hm (hf kd (Nat.le_refl _) (by omega)).1 (hf kd (Nat.le_refl _) (by omega)).2 hl t (fun σ hσ => .ptr σ kd 0 _ hσ) h)
      simp [execOp, ho, Instr.box, newVar, newRow]

include hE hm hev in
theorem act_build {t : Nat} {ps : Array (Nat × Operand)} (ho : o.op = .build t ps) (h : act0 E o kd r B K) : OpOk P o ev w (Out X ρ B kd K) := by
  simp only [act0, ho] at h
  cases ht : E.ty t with
  | none => simp [ht] at h
  | some ti =>
    simp only [ht] at h
    have hok := hE.ty t ti ht
    obtain ⟨i, z, g1, g2, g3, g4, g5⟩ := hok.info
    have hl : Like X ρ (ti.zero.map SV.val) z.cells := by rw [← g5]; exact like_zero z
    have fin : ∀ cs zs, Like X ρ cs zs → P.built t (ps.toList.map fun p => (p.1, ev p.2)) = some zs → K (.agg cs) B → OpOk P o ev w (Out X ρ B kd K) := fun cs zs hlk hb hK => by
      refine OpOk.value (v := .agg zs) (w' := w) ?_ (Out.same hm hlk.agg hK)
      have := run_build (P := P) w t (ps.map fun p => (p.1, ev p.2)) zs (by simpa using hb)
      simp only [execOp, ho, Sem.run_bind]
      rw [this]; rfl
    cases hd : ti.desc <;> simp only [hd] at h
    case struct fs =>
      have hu := hok.und
      rw [hd] at hu
      cases hp : placesOf E fs.toList with
      | none => simp [hp] at h
      | some pl =>
        simp only [hp] at h
        cases hb : builds (fun i => pl[i]?) (ps.toList.map fun p => (p.1, r p.2)) (ti.zero.map SV.val) with
        | none => simp [hb] at h
        | some cs =>
          simp only [hb] at h
          obtain ⟨zs, hfill, hlk⟩ := builds_sound hev _ ps.toList _ cs z.cells hl hb
          refine fin cs zs hlk ?_ h
          simp only [Program.built, g1, hu, g4, placesOf_sound hE.ty _ _ hp]
          simpa using hfill
    case array n e =>
      have hu := hok.und
      rw [hd] at hu
      cases he : E.ty e with
      | none => simp [he] at h
      | some te =>
        simp only [he] at h
        obtain ⟨ie, ze, k1, k2, _⟩ := (hE.ty e te he).info
        cases hb : builds (fun i => some (i * te.size, te.size)) (ps.toList.map fun p => (p.1, r p.2)) (ti.zero.map SV.val) with
        | none => simp [hb] at h
        | some cs =>
          simp only [hb] at h
          obtain ⟨zs, hfill, hlk⟩ := builds_sound hev _ ps.toList _ cs z.cells hl hb
          refine fin cs zs hlk ?_ h
          simp only [Program.built, g1, hu, g4, k1, k2]
          exact hfill

include hE hm hf hev in
theorem act_buildSlice {t n : Nat} {ps : Array (Nat × Operand)} (ho : o.op = .buildSlice t n ps) (h : act0 E o kd r B K) : OpOk P o ev w (Out X ρ B kd K) := by
  simp only [act0, ho] at h
  cases he : elemSl E t with
  | none => simp [he] at h
  | some e =>
    simp only [he] at h
    have hu : P.underlying t = some (.slice e) := by
      unfold elemSl at he
      cases ht : E.ty t with
      | none => simp [ht] at he
      | some ti =>
        simp only [ht] at he
        have := (hE.ty t ti ht).und
        cases hd : ti.desc <;> simp only [hd] at he <;> try (cases he; done)
        rw [this, hd]; cases he; rfl
    cases hte : E.ty e with
    | none => simp [hte] at h
    | some te =>
      simp only [hte] at h
      have hok := hE.ty e te hte
      obtain ⟨ie, ze, k1, k2, k3, k4, k5⟩ := hok.info
      cases hb : builds (fun i => some (i * te.size, te.size)) (ps.toList.map fun p => (p.1, r p.2)) (reps n (te.zero.map SV.val)) with
      | none => simp only [hb] at h
      | some cs =>
        cases hbl : Nat.ble (n * te.size) 16777216 with
        | false => simp only [hb, hbl] at h
        | true =>
          simp only [hb, hbl] at h
          cases hone : allOne cs with
          | false => simp only [hone] at h
          | true =>
            simp only [hone] at h
            have hle := Nat.le_of_ble_eq_true hbl
            have hzs : ze.cells.size = te.size := by rw [← Array.length_toList, k5, hok.len]
            have hl0 : Like X ρ (reps n (te.zero.map SV.val)) ((Array.range (n * te.size)).map (ze.cells[· % ze.cells.size]!)) := by
              refine ⟨by rw [reps_length]; simp [hok.len], fun i sv hi => ?_⟩
              obtain ⟨h1, h2⟩ := reps_get _ _ _ _ hi
              simp only [List.length_map, hok.len] at h1 h2
              rw [List.getElem?_map] at h2
              obtain ⟨u, hu2, rfl⟩ := Option.map_eq_some_iff.1 h2
              refine ⟨u, ?_, .val _ _⟩
              have hlt : i % te.size < ze.cells.size := by rw [hzs]; exact Nat.mod_lt _ (by
                rcases Nat.eq_zero_or_pos te.size with h0 | h0
                · rw [h0] at h1; omega
                · exact h0)
              have hu3 : ze.cells[i % te.size]? = some u := by
                have : ze.cells.toList[i % te.size]? = some u := by rw [k5]; exact hu2
                simpa using this
              have hu4 : ze.cells[i % ze.cells.size]! = u := by
                rw [hzs, Array.getElem!_eq_getD, Array.getD_eq_getD_getElem?, hu3]; rfl
              simp [h1, hu4]
            obtain ⟨zs, hfill, hlk⟩ := builds_sound hev _ ps.toList _ cs _ hl0 hb
            refine OpOk.value (v := .slice (some ⟨w.heap.size, 0, none⟩) n n) (w' := w.alloc (.cells zs e)) ?_ (new_cells hm (hf kd (Nat.le_refl _) (by omega)).1 (hf kd (Nat.le_refl _) (by omega)).2 hlk e
              (fun σ hσ => ?_) h)
            · have hfill' : Instr.fill (fun i => some (i * ie.size, ie.size)) ((Array.range (n * ie.size)).map ((if n * ie.size = 0 then (#[] : Array Value) else ze.cells)[· % (if n * ie.size = 0 then (#[] : Array Value) else ze.cells).size]!)) (ps.map fun p => (p.1, ev p.2)).toList = some zs := by
                rw [k2]
                by_cases h0 : n * te.size = 0
                · rw [h0] at hfill ⊢
                  have e0 : Array.range 0 = (#[] : Array Nat) := rfl
                  rw [e0] at hfill ⊢
                  simpa using hfill
                · simp only [if_neg h0]
                  simpa using hfill
              have hsm : ¬ n * ie.size > 2 ^ 24 := by rw [k2]; omega
              by_cases h0 : n * ie.size = 0
              · simp only [h0, if_true] at hfill'
                simp [execOp, ho, Instr.buildSlice, run_underlying hu, sizeOf, typeInfo, zeroValue, k1, k4, h0, newRow]
                simp at hfill'
                simp [hfill']
              · simp only [if_neg h0] at hfill'
                simp [execOp, ho, Instr.buildSlice, run_underlying hu, sizeOf, typeInfo, zeroValue, k1, k4, h0, hsm, newRow]
                simp at hfill'
                simp [hfill']
            · have hcs : cs.length = n * te.size := by
                rw [builds_length _ _ _ _ hb, reps_length]; simp [hok.len]
              cases n with
              | zero => exact .e0 _ _
              | succ m =>
                refine .sl σ kd te.size 0 (m + 1) (m + 1) _ (Nat.le_refl _) (.inr ⟨_, hσ, by simp, ?_⟩)
                simp only [Nat.zero_add]
                rw [hlk.1]
                omega
end acts
end Go.SX
