/- A PART OF THE PROOF. NO CONDITION. -/
import Derived.Test.YtgcedkklmmdabaaSxMA
set_option linter.unusedSimpArgs false
set_option linter.unusedVariables false
set_option linter.unusedVariables false
set_option linter.unusedSimpArgs false
namespace Go.SX

section acts
variable {P : Program} {E : Env} (hE : EnvOk P E) {X : PH} {ρ : Rho} {B : Bl} {w : World} (hm : Mem X ρ B w) {kd : Nat} (hf : ∀ key, kd ≤ key → key < kd + 8 → ρ key = none ∧ Bl.get B key = none)
  {r : Operand → SV} {ev : Operand → Value} (hev : ∀ x, Rv X ρ (r x) (ev x)) {K : SV → Bl → Prop} {o : Oper}

theorem idx_slice {t e : Nat} {te : TI} (hu : P.underlying t = some (.slice e)) (hte : TyOk P e te) {x i : Operand} (ho : o.op = .indexAddr t x i) {b off len c : Nat} {k : IntKind} {n : Int}
    (hx : ev x = .slice (some ⟨b, off, none⟩) len c) (hi : ev i = .int k n) (h0 : 0 ≤ n) (h1 : n < len) :
    (execOp ev o).run P w = .ok (.value (.pointer (some ⟨b, off + n.toNat * te.size, none⟩))) w := by
  have hsz := hte.run_sizeOf w
  simp [execOp, ho, hx, hi, Instr.indexAt, asIntOf, run_underlying hu, h0, h1, hsz, addr_add]
theorem idx_arr {t e len : Nat} {te : TI} (hu : P.underlying t = some (.array len e)) (hte : TyOk P e te) {x i : Operand} (ho : o.op = .indexAddr t x i) {b off : Nat} {k : IntKind} {n : Int}
    (hx : ev x = .pointer (some ⟨b, off, none⟩)) (hi : ev i = .int k n) (h0 : 0 ≤ n) (h1 : n < len) :
    (execOp ev o).run P w = .ok (.value (.pointer (some ⟨b, off + n.toNat * te.size, none⟩))) w := by
  have hsz := hte.run_sizeOf w
  simp [execOp, ho, hx, hi, Instr.indexAt, asIntOf, run_underlying hu, h0, h1, hsz, addr_add, Instr.sureAddr]

include hE hm hev in
theorem act_indexAddr {t : Nat} {x i : Operand} (ho : o.op = .indexAddr t x i) (h : act0 E o kd r B K) : OpOk P o ev w (Out X ρ B kd K) := by
  simp only [act0, ho] at h
  have hx := hev x
  have hi0 := hev i
  split at h
  case h_2 => exact h.elim
  rename_i ki n hri
  rw [hri] at hi0
  have hi := rv_val hi0
  cases he : elemSl E t with
  | some e =>
    simp only [he] at h
    have hu := elemSl_und hE he
    split at h
    · rename_i te key k q len hte hr
      have hok := hE.ty e te hte
      rw [hr] at hx
      cases hk : Nat.beq k te.size with
      | false => simp only [hk] at h
      | true =>
        simp only [hk] at h
        have hks := Nat.eq_of_beq_eq_true hk
        obtain ⟨⟨h0, h1⟩, h⟩ := h
        generalize hv : ev x = v at hx
        cases hx with
        | sl _ _ _ _ _ c A hn hA =>
          obtain ⟨l, hl1, rfl, hl3⟩ := hA.resolve_left (by omega)
          have hrun := idx_slice (P := P) (w := w) hu hok ho hv hi h0 h1
          have heq : l.p + q * k + n.toNat * te.size = l.p + (q + n.toNat) * k := by rw [← hks, Nat.add_mul]; omega
          rw [heq] at hrun
          split at h
          · exact OpOk.value hrun (Out.same hm (.ptr _ _ _ _ hl1) h)
          · exact OpOk.value hrun (Out.same hm (.ptrE _ _ _ _ hl1) h)
          · exact OpOk.value hrun (Out.same hm (by have := Rv.row (X := X) ρ key k (q + n.toNat) 0 l hl1; rwa [Nat.add_zero] at this) h)
          · exact h.elim
    · rename_i te α d enc xs hte hr
      have hok := hE.ty e te hte
      rw [hr] at hx
      cases hk : Nat.beq te.size (enc d).length with
      | false => simp only [hk] at h
      | true =>
        simp only [hk] at h
        have hks := Nat.eq_of_beq_eq_true hk
        obtain ⟨⟨h0, h1⟩, h⟩ := h
        generalize hv : ev x = v at hx
        cases hx with
        | ro _ _ _ _ _ A c b0 p cs ty fz cell hc hA hkk hcs hrr =>
          have hne : xs ≠ [] := fun e => by subst e; simp at h1; omega
          obtain ⟨g1, g2⟩ := hA hne
          subst g1
          have hrun := idx_slice (P := P) (w := w) hu hok ho hv hi h0 h1
          refine OpOk.value hrun (Out.same hm ?_ h)
          have := Rv.rop (X := X) ρ α d enc xs n.toNat 0 b0 p cs ty fz cell g2 hkk hcs hrr
          rwa [Nat.add_zero, ← hks] at this
    · exact h.elim
  | none =>
    simp only [he] at h
    cases ha : elemArr E t with
    | none => simp [ha] at h
    | some q =>
      obtain ⟨e, len⟩ := q
      simp only [ha] at h
      have hu := elemArr_und hE ha
      cases hte : E.ty e with
      | none => simp [hte] at h
      | some te =>
        simp only [hte] at h
        have hok := hE.ty e te hte
        obtain ⟨⟨h0, h1⟩, h⟩ := h
        have run : ∀ b off, ev x = .pointer (some ⟨b, off, none⟩) → (execOp ev o).run P w = .ok (.value (.pointer (some ⟨b, off + n.toNat * te.size, none⟩))) w := fun b off hv => idx_arr hu hok ho hv hi h0 h1
        have ptrCase : ∀ key off l, ρ key = some l → ev x = .pointer (some ⟨l.b, l.p + off, none⟩) → ∀ sv, (∀ y, l.p + off + n.toNat * te.size = y → Rv X ρ sv (.pointer (some ⟨l.b, y, none⟩))) → K sv B → OpOk P o ev w (Out X ρ B kd K) := fun key off l hl hv sv hsv hK =>
          OpOk.value (run _ _ hv) (Out.same hm (hsv _ rfl) hK)
        split at h
        · rename_i key off q hr
          rw [hr] at hx
          generalize hv : ev x = v at hx
          cases hx with
          | ptr _ _ _ l hl => exact ptrCase key off l hl hv _ (fun y hy => by subst hy; rw [Nat.add_assoc]; exact .ptr _ _ _ _ hl) h
        · rename_i key off hr hconst
          rw [hr] at hx
          generalize hv : ev x = v at hx
          cases hx with
          | ptr _ _ _ l hl =>
            split at h
            · rename_i α d enc xs hg
              split at h
              · rename_i hb1 hb2
                have hd : off % te.size = 0 := Nat.eq_of_beq_eq_true hb2
                have hdiv : off / te.size * te.size = off := Nat.div_mul_cancel (Nat.dvd_of_mod_eq_zero hd)
                exact ptrCase key off l hl hv _ (fun y hy => by
                  have := Rv.row (X := X) ρ key te.size (off / te.size + n.toNat) 0 l hl
                  rw [Nat.add_mul, hdiv, Nat.add_zero] at this
                  subst hy; rw [Nat.add_assoc]; exact this) h
              · split at h
                · rename_i hb
                  have h00 : off = 0 := Nat.eq_of_beq_eq_true hb
                  exact ptrCase key off l hl hv _ (fun y hy => by
                    have := Rv.row (X := X) ρ key te.size n.toNat 0 l hl
                    rw [Nat.add_zero] at this
                    subst hy; rw [h00, Nat.add_zero]; exact this) h
                · exact h.elim
            · exact ptrCase key off l hl hv _ (fun y hy => by subst hy; rw [Nat.add_assoc]; exact .ptrE _ _ _ _ hl) h
            · exact h.elim
        · rename_i key k j off q hr
          rw [hr] at hx
          generalize hv : ev x = v at hx
          cases hx with
          | row _ _ _ _ _ l hl => exact ptrCase key (j * k + off) l hl hv _ (fun y hy => by
              subst hy; rw [show l.p + (j * k + off) + n.toNat * te.size = l.p + (j * k + (off + n.toNat * te.size)) by omega]; exact .row _ _ _ _ _ _ hl) h
        · rename_i key k j off hr hconst
          rw [hr] at hx
          generalize hv : ev x = v at hx
          cases hx with
          | row _ _ _ _ _ l hl =>
            split at h
            · rename_i α d enc xs hg
              split at h
              · exact ptrCase key (j * k + off) l hl hv _ (fun y hy => by
                  subst hy; rw [show l.p + (j * k + off) + n.toNat * te.size = l.p + (j * k + (off + n.toNat * te.size)) by omega]; exact .rowE _ _ _ _ _ _ hl) h
              · split at h
                · rename_i hb1 hb2 hb3
                  have hd1 : k / te.size * te.size = k := Nat.div_mul_cancel (Nat.dvd_of_mod_eq_zero (Nat.eq_of_beq_eq_true hb2))
                  have hd2 : off / te.size * te.size = off := Nat.div_mul_cancel (Nat.dvd_of_mod_eq_zero (Nat.eq_of_beq_eq_true hb3))
                  exact ptrCase key (j * k + off) l hl hv _ (fun y hy => by
                    have := Rv.row (X := X) ρ key te.size (j * (k / te.size) + off / te.size + n.toNat) 0 l hl
                    rw [Nat.add_mul, Nat.add_mul, Nat.mul_assoc, hd1, hd2, Nat.add_zero] at this
                    subst hy
                    rw [show l.p + (j * k + off) + n.toNat * te.size = l.p + (j * k + off + n.toNat * te.size) by omega]; exact this) h
                · exact h.elim
            · exact h.elim
        · rename_i α d enc xs j off q hr
          rw [hr] at hx
          generalize hv : ev x = v at hx
          cases hx with
          | rop _ _ _ _ _ _ _ b p cs ty fz cell hA hkk hcs hrr =>
            refine OpOk.value (run _ _ hv) (Out.same hm ?_ h)
            rw [show p + (j * (enc d).length + off) + n.toNat * te.size = p + (j * (enc d).length + (off + n.toNat * te.size)) by omega]
            exact .rop _ _ _ _ _ _ _ _ _ _ _ _ _ hA hkk hcs hrr
        · rename_i α d enc xs j off hr hconst
          rw [hr] at hx
          generalize hv : ev x = v at hx
          cases hx with
          | rop _ _ _ _ _ _ _ b p cs ty fz cell hA hkk hcs hrr =>
            refine OpOk.value (run _ _ hv) (Out.same hm ?_ h)
            rw [show p + (j * (enc d).length + off) + n.toNat * te.size = p + (j * (enc d).length + (off + n.toNat * te.size)) by omega]
            exact .ropE _ _ _ _ _ _ _ _ _ _ _ _ _ hA hkk hcs hrr
        · exact h.elim

include hE hm hev in
theorem act_index {t : Nat} {x i : Operand} (ho : o.op = .index t x i) (h : act0 E o kd r B K) : OpOk P o ev w (Out X ρ B kd K) := by
  simp only [act0, ho] at h
  have hx := hev x
  have hi0 := hev i
  split at h
  case h_3 => exact h.elim
  case h_2 =>
    rename_i ki n s hri ha hr
    cases hs : isStr E t with
    | false => simp only [hs] at h
    | true =>
      simp only [hs] at h
      obtain ⟨⟨h0, h1⟩, hK⟩ := h
      rw [hri] at hi0
      have hi := rv_val hi0
      rw [hr] at hx
      have hxv := rv_val hx
      have hu : P.underlying t = some .string := by
        unfold isStr at hs
        cases ht : E.ty t with
        | none => simp [ht] at hs
        | some ti =>
          simp only [ht] at hs
          have hu := (hE.ty t ti ht).und
          split at hs
          · rename_i hd; rw [hu, hd]
          · cases hs
      have hlt : n.toNat < s.size := by omega
      have hb : s[n.toNat]? = some s[n.toNat] := getElem?_pos s n.toNat hlt
      refine OpOk.value (v := .int .u8 (byteAt s n.toNat)) (w' := w) ?_ (Out.same hm (.val _ _) hK)
      simp [execOp, ho, hxv, hi, Instr.index, asIntOf, run_underlying hu, h0, hb, byteAt]
  rename_i ki n e len cs hri ha hr
  rw [hri] at hi0
  have hi := rv_val hi0
  rw [hr] at hx
  have hu := elemArr_und hE ha
  obtain ⟨zs, hz, hl⟩ := like_of_agg hx
  cases hte : E.ty e with
  | none => simp [hte] at h
  | some te =>
    simp only [hte] at h
    have hok := hE.ty e te hte
    obtain ⟨⟨h0, h1⟩, h⟩ := h
    have fin : ∀ sv, loadSV te (cs.drop (n.toNat * te.size)) = some sv → K sv B → OpOk P o ev w (Out X ρ B kd K) := fun sv hld hK => by
      obtain ⟨u, hu2, hru⟩ := part_sound (w := w) hok hl hld
      have hsz := hok.run_sizeOf w
      refine OpOk.value (v := u) (w' := w) ?_ (Out.same hm hru hK)
      simp [execOp, ho, hz, hi, Instr.index, asIntOf, run_underlying hu, h0, h1, hsz, hu2]
    split at h
    · cases hld : loadSV te (cs.drop (n.toNat * te.size)) with
      | none => simp [hld] at h
      | some sv => simp only [hld] at h; exact fin sv hld h
    · split at h
      · rename_i hagg hone
        obtain ⟨c, hc, hK⟩ := h
        have h1s := Nat.eq_of_beq_eq_true hone
        refine fin c ?_ hK
        rw [h1s, Nat.mul_one]
        unfold loadSV
        rw [hagg]
        have : (cs.drop n.toNat)[0]? = some c := by rw [List.getElem?_drop]; exact hc
        cases hd : cs.drop n.toNat with
        | nil => rw [hd] at this; simp at this
        | cons q l => rw [hd] at this; simp at this; simp [this]
      · exact h.elim

include hE hm hf hev in
theorem act_call {c : Call} (ho : o.op = .call c) (h : act0 E o kd r B K) : OpOk P o ev w (Out X ρ B kd K) := by
  simp only [act0, ho, actC] at h
  obtain ⟨callee, args, ats⟩ := c
  simp only at h
  cases callee with
  | value f =>
    simp only at h
    have hfv := hev f
    split at h
    · rename_i g caps hr
      rw [hr] at hfv
      cases hs : E.spec g with
      | none => simp [hs] at h
      | some sp =>
        simp only [hs] at h
        generalize hv : ev f = v at hfv
        cases hfv with
        | clo _ _ _ zs hsz hh =>
          obtain ⟨⟨fn, hfn, hname, hbody⟩, hsp⟩ := hE.spec g sp hs
          have hlike : Like X ρ (args.toList.map r ++ caps) (args.map ev ++ zs) := by
            refine ⟨by simp [hsz], fun i sv hi => ?_⟩
            by_cases hlt : i < args.size
            · rw [List.getElem?_append_left (by simpa using hlt), List.getElem?_map] at hi
              obtain ⟨q, hq, rfl⟩ := Option.map_eq_some_iff.1 hi
              refine ⟨ev q, ?_, hev q⟩
              rw [Array.getElem?_append_left (by simpa using hlt), Array.getElem?_map]
              simp at hq; simp [hq]
            · rw [List.getElem?_append_right (by simpa using hlt)] at hi
              simp only [List.length_map, Array.length_toList] at hi
              have hl2 : i - args.size < zs.size := by rw [hsz]; exact (List.getElem?_eq_some_iff.1 hi).1
              refine ⟨zs[i - args.size], ?_, hh _ _ _ hi (by simp [hl2])⟩
              rw [Array.getElem?_append_right (by simpa using hlt)]
              simp [hl2]
          have hc := hsp X ρ B w kd _ _ K hm hf hlike h
          unfold OpOk
          have hrun : (execOp ev o).run P w = .ok (.enter g (args.map ev ++ zs)) w := by
            have hname' : ¬ fn.name = "runtime.NumGoroutine" := by simpa using hname
            have hbody' : ¬ fn.body = none := fun e => by rw [e] at hbody; simp at hbody
            simp [execOp, ho, resolve, hv, Deferred.ofValue, invoke, callFunc, hfn, hname', hbody']
          rw [hrun]
          exact hc
    · rename_i l qa qb hr
      rw [hr] at hfv
      split at h
      · rename_i sp hz hs
        simp only [Bool.and_eq_true] at hz
        obtain rfl : qa = #[] := Array.eq_empty_of_size_eq_zero (Nat.eq_of_beq_eq_true hz.1)
        obtain rfl : qb = #[] := Array.eq_empty_of_size_eq_zero (Nat.eq_of_beq_eq_true hz.2)
        generalize hv : ev f = v at hfv
        cases hfv
        have hlike : Like X ρ (args.toList.map r) (args.map ev) := by
          refine ⟨by simp, fun i sv hi => ?_⟩
          rw [List.getElem?_map] at hi
          obtain ⟨q, hq, rfl⟩ := Option.map_eq_some_iff.1 hi
          refine ⟨ev q, ?_, hev q⟩
          rw [Array.getElem?_map]
          simp at hq; simp [hq]
        obtain ⟨fn, tmps, assign, body, hrun, hR⟩ := hE.yld l sp hs X ρ B w kd _ _ K hm hf hlike h
        unfold OpOk
        have hrun : (execOp ev o).run P w = .ok (.round l fn tmps assign body) w := by
          simp [execOp, ho, resolve, hv, Deferred.ofValue, invoke, hrun]
        rw [hrun]
        exact hR
      · exact h.elim
    · exact h.elim
  | invoke a b => simp only at h
  | builtin b =>
    cases b <;> simp only at h
    case len =>
      split at h
      · rename_i x t ha hat
        cases he : elemSl E t with
        | none =>
          simp only [he] at h
          cases hme : mapTy E t with
          | none => simp only [hme] at h
          | some ke =>
            obtain ⟨k, e⟩ := ke
            simp only [hme] at h
            have hu := mapTy_und hE hme
            have hargs : args = #[x] := by apply Array.ext'; simp [ha]
            have hats : ats = #[t] := by apply Array.ext'; simp [hat]
            subst hargs; subst hats
            obtain ⟨n, hrun, hK⟩ := lenM_sound (P := P) (ty := o.type) hm hu (hev x) h
            refine OpOk.value (v := .int .i64 n) (w' := w) ?_ (Out.same hm (.val _ _) hK)
            simp [execOp, ho, resolve, invoke, builtin, hrun]
        | some e =>
          simp only [he] at h
          have hu := elemSl_und hE he
          have hargs : args = #[x] := by apply Array.ext'; simp [ha]
          have hats : ats = #[t] := by apply Array.ext'; simp [hat]
          subst hargs; subst hats
          have hx := hev x
          have run : ∀ A n c, ev x = .slice A n c → (execOp ev o).run P w = .ok (.value (.int .i64 n)) w := fun A n c hv => by
            simp [execOp, ho, resolve, invoke, builtin, Builtin.len_, hv, run_underlying hu, goInt]
          unfold lenSV at h
          generalize hv : ev x = v at hx
          split at h
          · rename_i hr; rw [hr] at hx; cases hx; exact OpOk.value (run _ _ _ hv) (Out.same hm (.val _ _) h)
          · rename_i hr; rw [hr] at hx; cases hx; exact OpOk.value (run _ _ _ hv) (Out.same hm (.val _ _) h)
          · rename_i hr; rw [hr] at hx; cases hx; exact OpOk.value (run _ _ _ hv) (Out.same hm (.val _ _) h)
          · rename_i hr; rw [hr] at hx; cases hx; exact OpOk.value (run _ _ _ hv) (Out.same hm (.val _ _) h)
          · exact h.elim
      · exact h.elim
    case clear =>
      split at h
      · rename_i x t ha hat
        cases he : elemSl E t with
        | none => simp only [he] at h
        | some e =>
          simp only [he] at h
          cases hte : E.ty e with
          | none => simp only [hte] at h
          | some te =>
            simp only [hte] at h
            have hu := elemSl_und hE he
            have hargs : args = #[x] := by apply Array.ext'; simp [ha]
            have hats : ats = #[t] := by apply Array.ext'; simp [hat]
            subst hargs; subst hats
            obtain ⟨w', B', hrun, hm', hK, hkeys⟩ := clear_sound (P := P) (ty := o.type) hm hu (hE.ty e te hte) (hev x) h
            refine OpOk.value (v := .tuple #[]) (w' := w') ?_ ⟨X, ρ, _, B', X.le_refl, ρ.le_refl, fun q _ => ⟨rfl, hkeys q⟩, hm', .tup _ [] #[] rfl (fun i sv v hi => by simp at hi), hK⟩
            simp [execOp, ho, resolve, invoke, builtin, hrun]
      · exact h.elim
    case append =>
      split at h
      · rename_i s x t t' ha hat
        split at h
        · rename_i e e' he he'
          have hu := elemSl_und hE he
          have hu' := elemSl_und hE he'
          have hargs : args = #[s, x] := by apply Array.ext'; simp [ha]
          have hats : ats = #[t, t'] := by apply Array.ext'; simp [hat]
          subst hargs; subst hats
          obtain ⟨v, w', hrun, hout⟩ := append_sound (P := P) (ty := o.type) hE.ty hu hu' hm (hf kd (Nat.le_refl _) (by omega)).1 (hf kd (Nat.le_refl _) (by omega)).2 (hev s) (hev x) h
          refine OpOk.value (v := v) (w' := w') ?_ hout
          simp [execOp, ho, resolve, invoke, builtin, hrun]
        · exact h.elim
      · exact h.elim
    case min =>
      split at h
      · rename_i x y ha
        have hargs : args = #[x, y] := by apply Array.ext'; simp [ha]
        subst hargs
        split at h
        · rename_i k a k' b h1 h2
          have hx := hev x
          have hy := hev y
          rw [h1] at hx; rw [h2] at hy
          have ex := rv_val hx
          have ey := rv_val hy
          refine OpOk.value (v := .int k (if b < a then b else a)) (w' := w) ?_ (Out.same hm (.val _ _) h)
          simp [execOp, ho, resolve, invoke, builtin, Builtin.min_, Builtin.min2, ex, ey]
        · exact h.elim
      · exact h.elim

include hE hm hf hev in
/-- AN OPERATION DOES WHAT ITS SYMBOLIC STEP SAYS. -/
theorem act0_sound (hconst : ∀ v, ev (.const v) = v) (h : act0 E o kd r B K) : OpOk P o ev w (Out X ρ B kd K) := by
  cases ho : o.op with
  | move x => simp only [act0, ho] at h; exact OpOk.value (by simp only [execOp, ho]; rfl) (Out.same hm (hev x) h)
  | assign x => simp only [act0, ho] at h; exact OpOk.value (by simp only [execOp, ho]; rfl) (Out.same hm (hev x) h)
  | pick c a b => exact act_pick hm hev ho h
  | alloc t => exact act_alloc hE hm hf ho h
  | box t x => exact act_box hm hf hev ho h
  | build t ps => exact act_build hE hm hev ho h
  | buildSlice t n ps => exact act_buildSlice hE hm hf hev ho h
  | load t x => exact act_load hE hm hev ho h
  | store t x y => exact act_store hE hm hev ho h
  | nilCheck x => exact act_nilCheck hm hev ho h
  | binOp op t x y yt => exact act_binOp hE hm hev ho h
  | unOp op t x => exact act_unOp hm hev ho h
  | convert s t x => exact act_convert hE hm hev ho h
  | makeFunc fn a b => exact act_makeFunc hm hev ho h
  | slice t x l hh m => exact act_slice hE hm hev hconst ho h
  | fieldAddr t x f => exact act_fieldAddr hE hm hev ho h
  | field t x f => exact act_field hE hm hev ho h
  | indexAddr t x i => exact act_indexAddr hE hm hev ho h
  | index t x i => exact act_index hE hm hev ho h
  | extract x i => exact act_extract hm hev ho h
  | call c => exact act_call hE hm hf hev ho h
  | makeMap t q => exact act_makeMap hE hm hf hev ho h
  | mapUpdate t m k x => exact act_mapUpdate hE hm hev ho h
  | lookup t m k ok => exact act_lookup hE hm hev ho h
  | _ => simp only [act0, ho] at h
end acts
end Go.SX
