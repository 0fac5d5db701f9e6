/- A PART OF THE PROOF. NO CONDITION. -/
import Derived.Test.YtgcedkklmmdabaaSxF
set_option linter.unusedSimpArgs false
set_option linter.unusedVariables false
set_option linter.unusedVariables false
set_option linter.unusedSimpArgs false
namespace Go.SX

/-- what an operation's or a call's end gives -/
def Out (X : PH) (ρ : Rho) (B : Bl) (kd : Nat) (K : SV → Bl → Prop) (v : Value) (w' : World) : Prop :=
  ∃ Y σ sv B', X.le Y ∧ ρ.le σ ∧ (∀ key, ¬ (kd ≤ key ∧ key < kd + 8) → σ key = ρ key ∧ (Bl.get B key = none → Bl.get B' key = none)) ∧ Mem Y σ B' w' ∧ Rv Y σ sv v ∧ K sv B'

theorem Out.same {X : PH} {ρ : Rho} {B : Bl} {kd : Nat} {K : SV → Bl → Prop} {v : Value} {w : World} {sv : SV} (hm : Mem X ρ B w) (hv : Rv X ρ sv v) (h : K sv B) : Out X ρ B kd K v w :=
  ⟨X, ρ, sv, B, X.le_refl, ρ.le_refl, fun _ _ => ⟨rfl, id⟩, hm, hv, h⟩

theorem Mem.heap {X : PH} {ρ : Rho} {B : Bl} {w w' : World} (hm : Mem X ρ B w) (h : Fr w w' ∧ w'.heap = w.heap) : Mem X ρ B w' :=
  have hf := h.1
  have h := h.2
  ⟨hm.fr.trans hf, fun b o e => by rw [h]; exact hm.sub b o e, fun k lb e => by rw [h]; exact hm.own k lb e, hm.inj⟩

theorem Mem.del {X : PH} {ρ : Rho} {B : Bl} {w : World} (hm : Mem X ρ B w) (key : Nat) : Mem X ρ (Bl.del B key) w := by
  have g : ∀ k b, Bl.get (Bl.del B key) k = some b → Bl.get B k = some b := fun k b h => by
    by_cases hk : k = key
    · subst hk; rw [Bl.get_del_same] at h; cases h
    · rwa [Bl.get_del_other _ _ _ hk] at h
  exact ⟨hm.fr, hm.sub, fun k lb h => hm.own k lb (g k lb h), fun k1 k2 b1 b2 l1 l2 h1 h2 => hm.inj k1 k2 b1 b2 l1 l2 (g _ _ h1) (g _ _ h2)⟩

def Rho.upd (ρ : Rho) (kd : Nat) (l : Option Loc) : Rho := fun k => if k = kd then l else ρ k
theorem Rho.upd_le {ρ : Rho} {kd : Nat} {l : Option Loc} (h : ρ kd = none) : ρ.le (ρ.upd kd l) := fun k q hq => by
  unfold Rho.upd
  by_cases hk : k = kd
  · subst hk; rw [h] at hq; cases hq
  · rw [if_neg hk]; exact hq
theorem Rho.upd_same (ρ : Rho) (kd : Nat) (l : Option Loc) : ρ.upd kd l kd = l := by simp [Rho.upd]
theorem Rho.upd_other {ρ : Rho} {kd k : Nat} {l : Option Loc} (h : k ≠ kd) : ρ.upd kd l k = ρ k := by simp [Rho.upd, h]

/-- a block under a key of its own: its cells may be other than before -/
theorem Mem.insAt {X : PH} {ρ : Rho} {B : Bl} {w w' : World} (hm : Mem X ρ B w) {kd : Nat} (hr : ρ kd = none) (hb : Bl.get B kd = none) {l : Loc} {lb : LB}
    (hw : Fr w w' ∧ ∀ k, k ≠ l.b → w'.heap[k]? = w.heap[k]? ∨ w.heap[k]? = none) (hX : X l.b = none) (hB : ∀ key b q, Bl.get B key = some b → ρ key = some q → q.b ≠ l.b)
    (hlb : BOk X ρ (fun b => w'.heap[b]?) (some l) lb) : Mem X (ρ.upd kd (some l)) (Bl.ins B kd lb) w' := by
  obtain ⟨hfr, hw⟩ := hw
  have hle := Rho.upd_le (l := some l) hr
  have hw2 : ∀ k o, k ≠ l.b → w.heap[k]? = some o → w'.heap[k]? = some o := fun k o hk ho => by
    rcases hw k hk with h | h
    · rw [h]; exact ho
    · rw [h] at ho; cases ho
  refine ⟨hm.fr.trans hfr, fun b o h => ?_, fun key lb' h => ?_, fun k1 k2 b1 b2 l1 l2 h1 h2 e1 e2 hl => ?_⟩
  · have hne : b ≠ l.b := fun e => by subst e; rw [hX] at h; cases h
    exact hw2 b o hne (hm.sub b o h)
  · by_cases hk : key = kd
    · subst hk
      rw [Bl.get_ins_same _ _ _ hb] at h
      cases h
      rw [Rho.upd_same]
      exact hlb.mono hle
    · rw [Bl.get_ins_other _ _ _ _ hk] at h
      rw [Rho.upd_other hk]
      have hok := hm.own key lb' h
      refine (hok.congr (fun q hq => ?_)).mono hle
      have hne := hB key lb' q h hq
      rw [hq] at hok
      cases lb' with
      | cells cs => obtain ⟨_, c, ty, g1, _⟩ := hok; exact (hw2 _ _ hne g1).trans g1.symm
      | arr α d enc xs => obtain ⟨_, _, c, ty, g1, _⟩ := hok; exact (hw2 _ _ hne g1).trans g1.symm
      | mp isA n α d enc es => obtain ⟨_, _, _, _, c, ty, g1, _⟩ := hok; exact (hw2 _ _ hne g1).trans g1.symm
      | objAt n svs mk => obtain ⟨_, _, vs, _, _, g1⟩ := hok; exact (hw2 _ _ hne g1).trans g1.symm
  · by_cases hk1 : k1 = kd <;> by_cases hk2 : k2 = kd
    · rw [hk1, hk2]
    · subst hk1
      rw [Rho.upd_same] at e1; cases e1
      rw [Rho.upd_other hk2] at e2
      rw [Bl.get_ins_other _ _ _ _ hk2] at h2
      exact absurd hl.symm (hB k2 b2 l2 h2 e2)
    · subst hk2
      rw [Rho.upd_same] at e2; cases e2
      rw [Rho.upd_other hk1] at e1
      rw [Bl.get_ins_other _ _ _ _ hk1] at h1
      exact absurd hl (hB k1 b1 l1 h1 e1)
    · rw [Rho.upd_other hk1] at e1
      rw [Rho.upd_other hk2] at e2
      rw [Bl.get_ins_other _ _ _ _ hk1] at h1
      rw [Bl.get_ins_other _ _ _ _ hk2] at h2
      exact hm.inj k1 k2 b1 b2 l1 l2 h1 h2 e1 e2 hl

/-- a slice of no room -/
theorem Mem.insNone {X : PH} {ρ : Rho} {B : Bl} {w : World} (hm : Mem X ρ B w) {kd : Nat} (hr : ρ kd = none) (hb : Bl.get B kd = none) {α : Type} {d : α} {enc : α → List SV} (he : EncOk d enc) :
    Mem X ρ (Bl.ins B kd (.arr α d enc [])) w := by
  refine ⟨hm.fr, hm.sub, fun key lb' h => ?_, fun k1 k2 b1 b2 l1 l2 h1 h2 e1 e2 hl => ?_⟩
  · by_cases hk : key = kd
    · subst hk
      rw [Bl.get_ins_same _ _ _ hb] at h
      cases h
      rw [hr]; exact ⟨rfl, he⟩
    · rw [Bl.get_ins_other _ _ _ _ hk] at h
      exact hm.own key lb' h
  · by_cases hk1 : k1 = kd
    · subst hk1; rw [hr] at e1; cases e1
    · by_cases hk2 : k2 = kd
      · subst hk2; rw [hr] at e2; cases e2
      · rw [Bl.get_ins_other _ _ _ _ hk1] at h1
        rw [Bl.get_ins_other _ _ _ _ hk2] at h2
        exact hm.inj k1 k2 b1 b2 l1 l2 h1 h2 e1 e2 hl

theorem Mem.lt {X : PH} {ρ : Rho} {B : Bl} {w : World} (hm : Mem X ρ B w) {key : Nat} {b : LB} {q : Loc} (h : Bl.get B key = some b) (hq : ρ key = some q) : q.b < w.heap.size ∧ X q.b = none := by
  have hok := hm.own key b h
  rw [hq] at hok
  cases b with
  | cells cs => obtain ⟨h0, c, ty, g1, _⟩ := hok; exact ⟨lt_of_heap g1, h0⟩
  | arr α d enc xs => obtain ⟨h0, _, c, ty, g1, _⟩ := hok; exact ⟨lt_of_heap g1, h0⟩
  | mp isA n α d enc es => obtain ⟨h0, _, _, _, c, ty, g1, _⟩ := hok; exact ⟨lt_of_heap g1, h0⟩
  | objAt n svs mk => obtain ⟨h0, _, vs, _, _, g1⟩ := hok; exact ⟨lt_of_heap g1, h0⟩
theorem Mem.X_lt {X : PH} {ρ : Rho} {B : Bl} {w : World} (hm : Mem X ρ B w) {b : Nat} (h : w.heap.size ≤ b) : X b = none := by
  cases e : X b with
  | none => rfl
  | some o => have := lt_of_heap (hm.sub b o e); omega

/-- a new block, whatever its cells -/
theorem Mem.new {X : PH} {ρ : Rho} {B : Bl} {w : World} (hm : Mem X ρ B w) {kd : Nat} (hr : ρ kd = none) (hb : Bl.get B kd = none) {lb : LB} {c : Array Value} {ty : TypeId}
    (hlb : ∀ H : Nat → Option Obj, H w.heap.size = some (.cells c ty (0, 0)) → X w.heap.size = none → BOk X ρ H (some ⟨w.heap.size, 0, c.size⟩) lb) :
    Mem X (ρ.upd kd (some ⟨w.heap.size, 0, c.size⟩)) (Bl.ins B kd lb) (w.alloc (.cells c ty)) := by
  have hX : X w.heap.size = none := hm.X_lt (Nat.le_refl _)
  refine hm.insAt hr hb ⟨Fr.alloc _ _, fun k hk => ?_⟩ hX (fun key b q h hq => Nat.ne_of_lt (hm.lt h hq).1) (hlb _ heap_push_eq hX)
  rcases Nat.lt_or_ge k w.heap.size with h | h
  · exact .inl (heap_push_lt h)
  · exact .inr (by simp [Array.getElem?_eq_none h])

section append
variable {P : Program} {w : World}
theorem run_first {k n : Nat} {A : Option Addr} {l c : Nat} {us : List Value} (hl : us.length = n * k) (h : ∀ b off, A = some ⟨b, off, none⟩ → ∀ j u, us[j]? = some u → w.cell? ⟨b, off + j, none⟩ = some u)
    (hA : us ≠ [] → ∃ b off, A = some ⟨b, off, none⟩) : (Builtin.firstCells k n (.slice A l c)).run P w = .ok us.toArray w := by
  cases A with
  | none =>
    have : us = [] := by
      cases us with
      | nil => rfl
      | cons u r => obtain ⟨b, off, e⟩ := hA (by simp); cases e
    subst this
    rfl
  | some a =>
    simp only [Builtin.firstCells, ← hl]
    cases us with
    | nil => rfl
    | cons u r =>
      obtain ⟨b, off, e⟩ := hA (by simp)
      cases e
      exact run_loadCells_list w ⟨b, off, none⟩ (u :: r) (fun j v hj => by rw [addr_add]; exact h b off rfl j v hj)

theorem run_append_room' {t t' ty e e' : Nat} {ti : TI} (ht : P.underlying t = some (.slice e)) (ht' : P.underlying t' = some (.slice e')) (hti : TyOk P e ti)
    {A Ax : Option Addr} {n c m cx : Nat} {us : List Value} (hl : us.length = m * ti.size) (hu : ∀ b off, Ax = some ⟨b, off, none⟩ → ∀ j u, us[j]? = some u → w.cell? ⟨b, off + j, none⟩ = some u)
    (hAx : us ≠ [] → ∃ b off, Ax = some ⟨b, off, none⟩) (hroom : n + m ≤ c) :
    (Builtin.append_ #[t, t'] ty #[.slice A n c, .slice Ax m cx]).run P w = (match A with | some a => (storeCells (a.add (n * ti.size)) us 0).run P w | none => .ok () w).andThen fun _ w' => .ok (.slice A (n + m) c) w' := by
  have hf := run_first (P := P) (w := w) (k := ti.size) (n := m) (A := Ax) (l := m) (c := cx) hl hu hAx
  have hu1 : ∀ w : World, (underlying t).run P w = .ok (.slice e) w := fun w => by simp [underlying, ht]
  have hu2 : ∀ w : World, (underlying t').run P w = .ok (.slice e') w := fun w => by simp [underlying, ht']
  cases A with
  | none => simp [Builtin.append_, hu1, hu2, hti.run_sizeOf, Builtin.lenOf, hroom, hf]
  | some a =>
    simp [Builtin.append_, hu1, hu2, hti.run_sizeOf, Builtin.lenOf, hroom, hf]

theorem run_append_grow' {t t' ty e e' : Nat} {ti : TI} (ht : P.underlying t = some (.slice e)) (ht' : P.underlying t' = some (.slice e')) (hti : TyOk P e ti) (hby : 0 < ti.bytes)
    {A Ax : Option Addr} {n c m cx : Nat} {us os : List Value} (hl : us.length = m * ti.size) (hu : ∀ b off, Ax = some ⟨b, off, none⟩ → ∀ j u, us[j]? = some u → w.cell? ⟨b, off + j, none⟩ = some u)
    (hAx : us ≠ [] → ∃ b off, Ax = some ⟨b, off, none⟩)
    (hol : os.length = n * ti.size) (ho : ∀ b off, A = some ⟨b, off, none⟩ → ∀ j u, os[j]? = some u → w.cell? ⟨b, off + j, none⟩ = some u)
    (hA : os ≠ [] → ∃ b off, A = some ⟨b, off, none⟩) (hroom : ¬ n + m ≤ c) (hb : (n + m) * ti.bytes ≤ 2 ^ 47) :
    ∃ (cap : Nat) (rest : List Value) (w1 : World), n + m ≤ cap ∧ rest.length = (cap - (n + m)) * ti.size ∧ (Fr w w1 ∧ w1.heap = w.heap) ∧
      (Builtin.append_ #[t, t'] ty #[.slice A n c, .slice Ax m cx]).run P w = .ok (.slice (some ⟨w.heap.size, 0, none⟩) (n + m) cap) (w1.alloc (.cells (os ++ us ++ rest).toArray e)) := by
  obtain ⟨i, z, hi, hi1, hi2, hi3, hi4⟩ := hti.run_info w
  obtain ⟨i', z', hq1, hq2, hq3, hq4, hq5⟩ := hti.info
  have hu1 : ∀ w : World, (underlying t).run P w = .ok (.slice e) w := fun w => by simp [underlying, ht]
  have hu2 : ∀ w : World, (underlying t').run P w = .ok (.slice e') w := fun w => by simp [underlying, ht']
  have hfit := growslice_fits (need := n + m) (old := c) (bytes := ti.bytes) (by omega) (by simpa using hb)
  have hneed : n + m ≤ 140737488355328 := Nat.le_trans (Nat.le_mul_of_pos_right _ hby) (by simpa using hb)
  refine ⟨(Question.appendCap (n + m) c e).cut (w.tape w.drawn (.appendCap (n + m) c e)), ((Builtin.zeroCells z'.cells ((Question.appendCap (n + m) c e).cut (w.tape w.drawn (.appendCap (n + m) c e)) - (n + m)))).toList, w.drew, ?_, ?_, ⟨Fr.drew w, rfl⟩, ?_⟩
  · simp [Question.cut]
  · have : z'.cells.size = ti.size := by rw [← Array.length_toList, hq5, hti.len]
    simp [Builtin.zeroCells, this]
  · have hinfo : ∀ w : World, (typeInfo e).run P w = .ok i' w := fun w => by simp [typeInfo, hq1]
    have hsz : ∀ w : World, (sizeOf e).run P w = .ok ti.size w := fun w => hti.run_sizeOf w
    have hzv : ∀ w : World, (zeroValue e).run P w = .ok z' w := fun w => by simp [zeroValue, typeInfo, hq1, hq4]
    have hbig : ¬ (281474976710656 < Builtin.nextslicecap (n + m) c * ti.bytes) := by omega
    have hmax : ¬ (IntKind.i64.max < ((n : Int) + (m : Int))) := by simp [IntKind.max, IntKind.signed, IntKind.bits]; omega
    have hfo := run_first (P := P) (w := w.drew) (k := ti.size) (n := n) (A := A) (l := n) (c := c) hol ho hA
    have hfn := run_first (P := P) (w := w.drew) (k := ti.size) (n := m) (A := Ax) (l := m) (c := cx) hl hu hAx
    have hmax2 : ¬ ((9223372036854775807 : Int) < (n : Int) + (m : Int) ∧ ti.bytes = 0) := fun h => by omega
    simp [Builtin.append_, hu1, hu2, hsz, Builtin.lenOf, hroom, hinfo, hq3, hbig, hmax2, hfo, hfn, hzv, newRow, Question.forced]
    refine congrArg (World.alloc w.drew) (congrArg (fun q => Obj.cells q e) ?_)
    apply Array.ext'
    simp
end append
end Go.SX
