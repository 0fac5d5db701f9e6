/- A PART OF THE PROOF. NO CONDITION. -/
import Derived.Test.YtgcedkklmmdabaaSxK
set_option linter.unusedSimpArgs false
set_option linter.unusedVariables false
set_option linter.unusedVariables false
set_option linter.unusedSimpArgs false
namespace Go.SX

theorem elemSl_und {P : Program} {E : Env} (hE : EnvOk P E) {t e : Nat} (he : elemSl E t = some e) : P.underlying t = some (.slice e) := by
  unfold elemSl at he
  cases ht : E.ty t with
  | none => simp [ht] at he
  | some ti =>
    simp only [ht] at he
    have := (hE.ty t ti ht).und
    cases hd : ti.desc <;> simp only [hd] at he <;> try (cases he; done)
    rw [this, hd]; cases he; rfl
theorem elemArr_und {P : Program} {E : Env} (hE : EnvOk P E) {t e n : Nat} (he : elemArr E t = some (e, n)) : P.underlying t = some (.array n e) := by
  unfold elemArr at he
  cases ht : E.ty t with
  | none => simp [ht] at he
  | some ti =>
    simp only [ht] at he
    have := (hE.ty t ti ht).und
    cases hd : ti.desc <;> simp only [hd] at he <;> try (cases he; done)
    rw [this, hd]; cases he; rfl
theorem fieldOff_und {P : Program} {E : Env} (hE : EnvOk P E) {t f off ft : Nat} (he : fieldOff E t f = some (off, ft)) : ∃ fs fd, P.underlying t = some (.struct fs) ∧ fs[f]? = some fd ∧ fd.offset = off ∧ fd.type = ft := by
  unfold fieldOff at he
  cases ht : E.ty t with
  | none => simp [ht] at he
  | some ti =>
    simp only [ht] at he
    have hu := (hE.ty t ti ht).und
    cases hd : ti.desc <;> simp only [hd] at he <;> try (cases he; done)
    rename_i fs
    cases hf : fs.toList[f]? with
    | none => simp [hf] at he
    | some fd =>
      simp only [hf, Option.some.injEq, Prod.mk.injEq] at he
      exact ⟨fs, fd, by rw [hu, hd], by simpa using hf, he.1, he.2⟩

section acts
variable {P : Program} {E : Env} (hE : EnvOk P E) {X : PH} {ρ : Rho} {B : Bl} {w : World} (hm : Mem X ρ B w) {kd : Nat} (hf : ∀ key, kd ≤ key → key < kd + 8 → ρ key = none ∧ Bl.get B key = none)
  {r : Operand → SV} {ev : Operand → Value} (hev : ∀ x, Rv X ρ (r x) (ev x)) {K : SV → Bl → Prop} {o : Oper}

include hE hm hev in
theorem act_load {t : Nat} {x : Operand} (ho : o.op = .load t x) (h : act0 E o kd r B K) : OpOk P o ev w (Out X ρ B kd K) := by
  simp only [act0, ho] at h
  cases ht : E.ty t with
  | none => simp [ht] at h
  | some ti =>
    simp only [ht] at h
    obtain ⟨b, off, cs, he, hK, hc⟩ := atAddr_sound hm (hev x) h
    cases hl : loadSV ti cs with
    | none => simp [hl] at hK
    | some sv =>
      simp only [hl] at hK
      obtain ⟨v, hv, hr⟩ := load_sound (hE.ty t ti ht) hc hl
      refine OpOk.value (v := v) (w' := w) ?_ (Out.same hm hr hK)
      simp [execOp, ho, Instr.loadAt, he, Instr.sureAddr, hv]

include hE hm hev in
theorem act_store {t : Nat} {x y : Operand} (ho : o.op = .store t x y) (h : act0 E o kd r B K) : OpOk P o ev w (Out X ρ B kd K) := by
  simp only [act0, ho] at h
  cases ht : E.ty t with
  | none => simp [ht] at h
  | some ti =>
    simp only [ht] at h
    cases hc : cellsSV ti (r y) with
    | none => simp [hc] at h
    | some vs =>
      simp only [hc] at h
      obtain ⟨h1, h2, h3, h4⟩ := cells_sound (hev y) hc
      obtain ⟨b, off, he, w', B', hrun, hm', hK, hkeys⟩ := storeAt_sound (P := P) hm (hev x) (us := (ev y).cells.toList) (by simp [h1, h2]) (fun i s u hi hu => h3 i s u hi (by simpa using hu)) h4 h
      refine OpOk.skip (w' := w') ?_ ⟨X, ρ, _, B', X.le_refl, ρ.le_refl, fun q _ => ⟨rfl, hkeys q⟩, hm', .tup _ [] #[] rfl (fun i sv v hi => by simp at hi), hK⟩
      have hsz := (hE.ty t ti ht).run_sizeOf w
      simp [execOp, ho, Instr.storeAt, he, Instr.sureAddr, storeVar, hsz, h2]
      rw [hrun]; rfl

include hm hev in
theorem act_nilCheck {x : Operand} (ho : o.op = .nilCheck x) (h : act0 E o kd r B K) : OpOk P o ev w (Out X ρ B kd K) := by
  simp only [act0, ho] at h
  have hx := hev x
  have run : (∃ a, ev x = .pointer (some a)) ∨ (∃ f c, ev x = .func (.func f) #[] c) → (execOp ev o).run P w = .ok (.value (ev x)) w := fun hq => by
    rcases hq with ⟨a, e⟩ | ⟨f, c, e⟩ <;> (simp only [execOp, ho, e]; rfl)
  have fin : ((∃ a, ev x = .pointer (some a)) ∨ (∃ f c, ev x = .func (.func f) #[] c)) → K (r x) B → OpOk P o ev w (Out X ρ B kd K) := fun hq hK => OpOk.value (run hq) (Out.same hm hx hK)
  have hx2 := hx
  generalize hv : ev x = v at hx2
  split at h <;> first | exact h.elim | skip
  all_goals (rename_i hr; rw [hr] at hx2; refine fin ?_ h; rw [hv])
  · cases hx2; exact .inl ⟨_, rfl⟩
  · cases hx2; exact .inl ⟨_, rfl⟩
  · cases hx2; exact .inl ⟨_, rfl⟩
  · cases hx2; exact .inl ⟨_, rfl⟩
  · cases hx2; exact .inl ⟨_, rfl⟩
  · cases hx2; exact .inl ⟨_, rfl⟩
  · cases hx2; exact .inr ⟨_, _, rfl⟩

include hE hm hev in
theorem act_binOp {op : BinOp} {t yt : Nat} {x y : Operand} (ho : o.op = .binOp op t x y yt) (h : act0 E o kd r B K) : OpOk P o ev w (Out X ρ B kd K) := by
  simp only [act0, ho] at h
  have hx := hev x
  have hy := hev y
  split at h
  · rename_i k a k' b h1 h2
    rw [h1] at hx; rw [h2] at hy
    have ex := rv_val hx
    have ey := rv_val hy
    cases hk : (isShift op || kEq k k') with
    | false => simp only [hk] at h
    | true =>
      simp only [hk] at h
      obtain ⟨v, sv, hrun, rfl, hK⟩ := binInt_sound (P := P) hk h t x y w
      refine OpOk.value (v := v) (w' := w) ?_ (Out.same hm (.val _ _) hK)
      simp only [execOp, ho, ex, ey]
      rw [Sem.run_bind, hrun]; rfl
  · rename_i h0
    have hnot : ∀ k q k' q', ¬ (r x = .val (.int k q) ∧ r y = .val (.int k' q')) := fun k q k' q' ⟨e1, e2⟩ => h0 k q k' q' e1 e2
    split at h
    · obtain ⟨q, hrun, hK⟩ := eqSV_sound hE.ty hx hy hnot h x y w false
      refine OpOk.value (v := .bool q) (w' := w) ?_ (Out.same hm (.val _ _) hK)
      simp only [Bool.false_eq_true, if_false] at hrun
      simp only [execOp, ho]
      rw [Sem.run_bind, hrun]; rfl
    · obtain ⟨q, hrun, hK⟩ := eqSV_sound hE.ty hx hy hnot h x y w true
      refine OpOk.value (v := .bool (!q)) (w' := w) ?_ (Out.same hm (.val _ _) hK)
      simp only [if_true] at hrun
      simp only [execOp, ho]
      rw [Sem.run_bind, hrun]; rfl
    · exact h.elim

include hm hev in
theorem act_unOp {op : UnOp} {t : Nat} {x : Operand} (ho : o.op = .unOp op t x) (h : act0 E o kd r B K) : OpOk P o ev w (Out X ρ B kd K) := by
  have hx := hev x
  cases op with
  | not =>
    simp only [act0, ho] at h
    have run : ∀ q, ev x = .bool q → (execOp ev o).run P w = .ok (.value (.bool (!q))) w := fun q hq => by simp only [execOp, ho, hq]; rfl
    split at h
    · rename_i he; rw [he] at hx; exact OpOk.value (run true (rv_tt hx)) (Out.same hm (.ff _) h)
    · rename_i he; rw [he] at hx; exact OpOk.value (run false (rv_ff hx)) (Out.same hm (.tt _) h)
    · rename_i b he; rw [he] at hx; exact OpOk.value (run b (rv_val hx)) (Out.same hm (.val _ _) h)
    · exact h.elim
  | neg =>
    simp only [act0, ho] at h
    split at h
    · rename_i k n he; rw [he] at hx
      have ex := rv_val hx
      refine OpOk.value (v := .int k (-n)) (w' := w) ?_ (Out.same hm (.val _ _) h.2)
      simp only [execOp, ho, ex, Op.unary, Op.intArith]
      rw [show (0 : Int) - n = -n by omega, wrap_in h.1]; rfl
    · exact h.elim
  | xor => simp only [act0, ho] at h
  | plus => simp only [act0, ho] at h

include hE hm hev in
theorem act_convert {s t : Nat} {x : Operand} (ho : o.op = .convert s t x) (h : act0 E o kd r B K) : OpOk P o ev w (Out X ρ B kd K) := by
  simp only [act0, ho] at h
  have hx := hev x
  split at h
  · rename_i si ti k0 n h1 h2 he
    rw [he] at hx
    have ex := rv_val hx
    split at h
    · rename_i k1 k hd1 hd
      have hu1 := (hE.ty s si h1).run_underlying w
      have hu := (hE.ty t ti h2).run_underlying w
      refine OpOk.value (v := .int k n) (w' := w) ?_ (Out.same hm (.val _ _) h.2)
      simp [execOp, ho, ex, convert, hu1, hu, hd, hd1, Conv.intToInt, wrap_in h.1]
    · exact h.elim
  · exact h.elim

include hm hev in
theorem act_makeFunc {fn : Fn} {first caps : Array Operand} (ho : o.op = .makeFunc fn first caps) (h : act0 E o kd r B K) : OpOk P o ev w (Out X ρ B kd K) := by
  cases fn with
  | func f =>
    simp only [act0, ho] at h
    cases hfi : first.toList with
    | cons a q => simp [hfi] at h
    | nil =>
      simp only [hfi] at h
      have hf0 : first = #[] := by apply Array.ext'; simp [hfi]
      subst hf0
      refine OpOk.value (v := .func (.func f) #[] (caps.map ev)) (w' := w) ?_ (Out.same hm (.clo _ f _ _ (by simp) fun i sv v hi hv => ?_) h)
      · simp [execOp, ho, Instr.makeFunc]
      · rw [List.getElem?_map] at hi
        obtain ⟨x, hx, rfl⟩ := Option.map_eq_some_iff.1 hi
        have : (caps.map ev)[i]? = some (ev x) := by rw [Array.getElem?_map]; simp at hx; simp [hx]
        rw [this] at hv; cases hv; exact hev x
  | _ => simp only [act0, ho] at h

include hm hev in
theorem act_extract {x : Operand} {i : Nat} (ho : o.op = .extract x i) (h : act0 E o kd r B K) : OpOk P o ev w (Out X ρ B kd K) := by
  simp only [act0, ho] at h
  have hx := hev x
  split at h
  · rename_i vs he
    rw [he] at hx
    cases hb : Nat.blt i vs.length with
    | false => simp only [hb] at h
    | true =>
      simp only [hb] at h
      have hlt : i < vs.length := by have := Nat.le_of_ble_eq_true hb; omega
      generalize hw : ev x = v at hx
      cases hx with
      | tup _ _ zs hs hh =>
        have hlt2 : i < zs.size := by omega
        have hg : getSlot vs i = vs[i] := by rw [getSlot_eq]; simp [hlt]
        refine OpOk.value (v := zs[i]) (w' := w) ?_ (Out.same hm (hh i _ _ (by rw [hg]; simp [hlt]) (by simp [hlt2])) h)
        simp [execOp, ho, hw, Instr.extract, hlt2]
  · exact h.elim

include hE hm hev in
theorem act_fieldAddr {t f : Nat} {x : Operand} (ho : o.op = .fieldAddr t x f) (h : act0 E o kd r B K) : OpOk P o ev w (Out X ρ B kd K) := by
  simp only [act0, ho] at h
  cases hfo : fieldOff E t f with
  | none => simp [hfo] at h
  | some q =>
    obtain ⟨off, ft⟩ := q
    simp only [hfo] at h
    obtain ⟨fs, fd, hu, hfd, rfl, rfl⟩ := fieldOff_und hE hfo
    cases hft : E.ty fd.type with
    | none => simp [hft] at h
    | some fi =>
      simp only [hft] at h
      cases hz : Nat.beq fi.size 0 with
      | true => simp only [hz] at h
      | false =>
        cases hs : shift (r x) fd.offset with
        | none => simp only [hz, hs] at h
        | some v =>
          simp only [hz, hs] at h
          obtain ⟨b, off, he, hr⟩ := shift_sound (hev x) hs
          have hne : fi.size ≠ 0 := fun e => by rw [e] at hz; simp at hz
          have hsz := (hE.ty fd.type fi hft).run_sizeOf w
          refine OpOk.value (v := .pointer (some ⟨b, off + fd.offset, none⟩)) (w' := w) ?_ (Out.same hm hr h)
          simp [execOp, ho, he, Instr.fieldAt, run_underlying hu, hfd, Instr.sureAddr, fieldPlace, hsz, hne, addr_add]

include hE hm hev in
theorem act_field {t f : Nat} {x : Operand} (ho : o.op = .field t x f) (h : act0 E o kd r B K) : OpOk P o ev w (Out X ρ B kd K) := by
  simp only [act0, ho] at h
  have hx := hev x
  split at h
  · rename_i off ft cs hfo he
    rw [he] at hx
    obtain ⟨fs, fd, hu, hfd, rfl, rfl⟩ := fieldOff_und hE hfo
    obtain ⟨zs, ez, hl⟩ := like_of_agg hx
    cases hft : E.ty fd.type with
    | none => simp [hft] at h
    | some fi =>
      simp only [hft] at h
      cases hld : loadSV fi (cs.drop fd.offset) with
      | none => simp [hld] at h
      | some v =>
        simp only [hld] at h
        obtain ⟨u, hu2, hr⟩ := part_sound (w := w) (hE.ty _ _ hft) hl hld
        refine OpOk.value (v := u) (w' := w) ?_ (Out.same hm hr h)
        simp [execOp, ho, ez, Instr.field, run_underlying hu, hfd, asAgg, hu2]
  · exact h.elim
end acts
end Go.SX
