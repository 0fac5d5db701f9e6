/- A PART OF THE PROOF. NO CONDITION. -/
import Derived.Test.YtgcedkklmmdabaaSxA
import Derived.Calls
import Derived.Laws.World
set_option linter.unusedVariables false
set_option linter.unusedSimpArgs false
namespace Go.SX

/-- where an owned block lies: the block, where its known part begins, how many cells the block has -/
structure Loc where
  b : Nat
  p : Nat
  sz : Nat

abbrev Rho := Nat → Option Loc
/-- the part of memory that nobody turns -/
structure PH where
  obj : Nat → Option Obj
  /-- the world at the start -/
  w0 : World
instance : CoeFun PH fun _ => Nat → Option Obj := ⟨PH.obj⟩
/-- nothing but memory and draws has turned -/
structure Fr (w w' : World) : Prop where
  tape : w'.tape = w.tape
  os : w'.os = w.os
  output : w'.output = w.output
  drawn : w.drawn ≤ w'.drawn
theorem Fr.refl (w : World) : Fr w w := ⟨rfl, rfl, rfl, Nat.le_refl _⟩
theorem Fr.trans {a b c : World} (h : Fr a b) (h' : Fr b c) : Fr a c := ⟨h'.tape.trans h.tape, h'.os.trans h.os, h'.output.trans h.output, Nat.le_trans h.drawn h'.drawn⟩
theorem Fr.alloc (w : World) (o : Obj) : Fr w (w.alloc o) := ⟨rfl, rfl, rfl, Nat.le_refl _⟩
theorem Fr.drew (w : World) : Fr w w.drew := ⟨rfl, rfl, rfl, Nat.le_succ _⟩
theorem Fr.setCell (w : World) (a : Addr) (v : Value) : Fr w (w.setCell a v) := ⟨rfl, rfl, rfl, Nat.le_refl _⟩

abbrev noKeys : Rho := fun _ => none

inductive Rv (X : PH) : Rho → SV → Value → Prop
  | any (ρ : Rho) (v : Value) : Rv X ρ .any v
  | tt (ρ : Rho) : Rv X ρ .tt (.bool true)
  | ff (ρ : Rho) : Rv X ρ .ff (.bool false)
  | e0 (ρ : Rho) (A : Option Addr) : Rv X ρ .e0 (.slice A 0 0)
  | one (ρ : Rho) (v : Value) (h : v.oneCell' = true) : Rv X ρ .one v
  | val (ρ : Rho) (v : Value) : Rv X ρ (.val v) v
  | ptr (ρ : Rho) (key off : Nat) (l : Loc) (h : ρ key = some l) : Rv X ρ (.ptr key off) (.pointer (some ⟨l.b, l.p + off, none⟩))
  | ptrE (ρ : Rho) (key e : Nat) (l : Loc) (h : ρ key = some l) : Rv X ρ (.ptrE key e) (.pointer (some ⟨l.b, l.p + e, none⟩))
  | row (ρ : Rho) (key k i off : Nat) (l : Loc) (h : ρ key = some l) : Rv X ρ (.row key k i off) (.pointer (some ⟨l.b, l.p + (i * k + off), none⟩))
  | rowE (ρ : Rho) (key k i e : Nat) (l : Loc) (h : ρ key = some l) : Rv X ρ (.rowE key k i e) (.pointer (some ⟨l.b, l.p + (i * k + e), none⟩))
  | sl (ρ : Rho) (key k o n c : Nat) (A : Option Addr) (hn : n ≤ c)
      (h : c = 0 ∨ ∃ l, ρ key = some l ∧ A = some ⟨l.b, l.p + o * k, none⟩ ∧ l.p + (o + c) * k ≤ l.sz) : Rv X ρ (.sl key k o n) (.slice A n c)
  | ro (ρ : Rho) (α : Type) (d : α) (enc : α → List SV) (xs : List α) (A : Option Addr) (c b p : Nat) (cs : Array Value) (ty : TypeId) (fz : Nat × Nat) (cell : Nat → Nat → Value)
      (hc : xs.length ≤ c) (hA : xs ≠ [] → A = some ⟨b, p, none⟩ ∧ X b = some (.cells cs ty fz)) (hk : EncOk d enc)
      (hcs : ∀ i j, i < xs.length → j < (enc d).length → cs[p + (i * (enc d).length + j)]? = some (cell i j))
      (hr : ∀ (i j : Nat) (x : α) (sv : SV), xs[i]? = some x → (enc x)[j]? = some sv → Rv X noKeys sv (cell i j)) : Rv X ρ (.ro α d enc xs) (.slice A xs.length c)
  | rop (ρ : Rho) (α : Type) (d : α) (enc : α → List SV) (xs : List α) (i off : Nat) (b p : Nat) (cs : Array Value) (ty : TypeId) (fz : Nat × Nat) (cell : Nat → Nat → Value)
      (hA : X b = some (.cells cs ty fz)) (hk : EncOk d enc)
      (hcs : ∀ i j, i < xs.length → j < (enc d).length → cs[p + (i * (enc d).length + j)]? = some (cell i j))
      (hr : ∀ (i j : Nat) (x : α) (sv : SV), xs[i]? = some x → (enc x)[j]? = some sv → Rv X noKeys sv (cell i j)) :
      Rv X ρ (.rop α d enc xs i off) (.pointer (some ⟨b, p + (i * (enc d).length + off), none⟩))
  | ropE (ρ : Rho) (α : Type) (d : α) (enc : α → List SV) (xs : List α) (i e : Nat) (b p : Nat) (cs : Array Value) (ty : TypeId) (fz : Nat × Nat) (cell : Nat → Nat → Value)
      (hA : X b = some (.cells cs ty fz)) (hk : EncOk d enc)
      (hcs : ∀ i j, i < xs.length → j < (enc d).length → cs[p + (i * (enc d).length + j)]? = some (cell i j))
      (hr : ∀ (i j : Nat) (x : α) (sv : SV), xs[i]? = some x → (enc x)[j]? = some sv → Rv X noKeys sv (cell i j)) :
      Rv X ρ (.ropE α d enc xs i e) (.pointer (some ⟨b, p + (i * (enc d).length + e), none⟩))
  | agg (ρ : Rho) (cs : List SV) (vs : Array Value) (hs : vs.size = cs.length) (h : ∀ (i : Nat) (sv : SV) (v : Value), cs[i]? = some sv → vs[i]? = some v → Rv X ρ sv v) : Rv X ρ (.agg cs) (.agg vs)
  | tup (ρ : Rho) (cs : List SV) (vs : Array Value) (hs : vs.size = cs.length) (h : ∀ (i : Nat) (sv : SV) (v : Value), cs[i]? = some sv → vs[i]? = some v → Rv X ρ sv v) : Rv X ρ (.tup cs) (.tuple vs)
  | clo (ρ : Rho) (f : Nat) (cs : List SV) (vs : Array Value) (hs : vs.size = cs.length) (h : ∀ (i : Nat) (sv : SV) (v : Value), cs[i]? = some sv → vs[i]? = some v → Rv X ρ sv v) :
      Rv X ρ (.clo f cs) (.func (.func f) #[] vs)
  | mapv (ρ : Rho) (key : Nat) (l : Loc) (h : ρ key = some l) : Rv X ρ (.mapv key) (.map (some l.b))

structure PH.le (X Y : PH) : Prop where
  sub : ∀ b o, X b = some o → Y b = some o
  w0 : Y.w0 = X.w0
instance {X Y : PH} : CoeFun (X.le Y) fun _ => ∀ b o, X b = some o → Y b = some o := ⟨PH.le.sub⟩
def Rho.le (ρ σ : Rho) : Prop := ∀ k l, ρ k = some l → σ k = some l
theorem PH.le_refl (X : PH) : X.le X := ⟨fun _ _ h => h, rfl⟩
theorem PH.le_trans {X Y Z : PH} (h : X.le Y) (h' : Y.le Z) : X.le Z := ⟨fun b o e => h' b o (h b o e), h'.w0.trans h.w0⟩
theorem Rho.le_refl (ρ : Rho) : ρ.le ρ := fun _ _ h => h
theorem Rho.le_trans {a b c : Rho} (h : a.le b) (h' : b.le c) : a.le c := fun k l e => h' k l (h k l e)
theorem Rho.none_le (ρ : Rho) : noKeys.le ρ := fun _ _ h => by cases h

theorem Rv.monoX {X Y : PH} (hX : X.le Y) {ρ : Rho} {sv : SV} {v : Value} (h : Rv X ρ sv v) : Rv Y ρ sv v := by
  induction h with
  | any ρ v => exact .any ρ v
  | tt ρ => exact .tt ρ
  | ff ρ => exact .ff ρ
  | e0 ρ A => exact .e0 ρ A
  | one ρ v h => exact .one ρ v h
  | val ρ v => exact .val ρ v
  | ptr ρ key off l h => exact .ptr ρ key off l h
  | ptrE ρ key e l h => exact .ptrE ρ key e l h
  | row ρ key k i off l h => exact .row ρ key k i off l h
  | rowE ρ key k i e l h => exact .rowE ρ key k i e l h
  | sl ρ key k o n c A hn h => exact .sl ρ key k o n c A hn h
  | ro ρ α d enc xs A c b p cs ty fz cell hc hA hk hcs hr ih =>
    exact .ro ρ α d enc xs A c b p cs ty fz cell hc (fun h => ⟨(hA h).1, hX _ _ (hA h).2⟩) hk hcs ih
  | rop ρ α d enc xs i off b p cs ty fz cell hA hk hcs hr ih => exact .rop ρ α d enc xs i off b p cs ty fz cell (hX _ _ hA) hk hcs ih
  | ropE ρ α d enc xs i e b p cs ty fz cell hA hk hcs hr ih => exact .ropE ρ α d enc xs i e b p cs ty fz cell (hX _ _ hA) hk hcs ih
  | agg ρ cs vs hs h ih => exact .agg ρ cs vs hs ih
  | tup ρ cs vs hs h ih => exact .tup ρ cs vs hs ih
  | clo ρ f cs vs hs h ih => exact .clo ρ f cs vs hs ih
  | mapv ρ key l h => exact .mapv ρ key l h

theorem Rv.monoR {X : PH} {ρ : Rho} {sv : SV} {v : Value} (h : Rv X ρ sv v) : ∀ {σ : Rho}, ρ.le σ → Rv X σ sv v := by
  induction h with
  | any ρ v => exact fun _ => .any _ v
  | tt ρ => exact fun _ => .tt _
  | ff ρ => exact fun _ => .ff _
  | e0 ρ A => exact fun _ => .e0 _ A
  | one ρ v h => exact fun _ => .one _ v h
  | val ρ v => exact fun _ => .val _ v
  | ptr ρ key off l h => exact fun hs => .ptr _ key off l (hs _ _ h)
  | ptrE ρ key e l h => exact fun hs => .ptrE _ key e l (hs _ _ h)
  | row ρ key k i off l h => exact fun hs => .row _ key k i off l (hs _ _ h)
  | rowE ρ key k i e l h => exact fun hs => .rowE _ key k i e l (hs _ _ h)
  | sl ρ key k o n c A hn h => exact fun hs => .sl _ key k o n c A hn (h.imp id fun ⟨l, a, b⟩ => ⟨l, hs _ _ a, b⟩)
  | ro ρ α d enc xs A c b p cs ty fz cell hc hA hk hcs hr ih => exact fun _ => .ro _ α d enc xs A c b p cs ty fz cell hc hA hk hcs hr
  | rop ρ α d enc xs i off b p cs ty fz cell hA hk hcs hr ih => exact fun _ => .rop _ α d enc xs i off b p cs ty fz cell hA hk hcs hr
  | ropE ρ α d enc xs i e b p cs ty fz cell hA hk hcs hr ih => exact fun _ => .ropE _ α d enc xs i e b p cs ty fz cell hA hk hcs hr
  | agg ρ cs vs hs h ih => exact fun hσ => .agg _ cs vs hs fun i sv v a b => ih i sv v a b hσ
  | tup ρ cs vs hs h ih => exact fun hσ => .tup _ cs vs hs fun i sv v a b => ih i sv v a b hσ
  | clo ρ f cs vs hs h ih => exact fun hσ => .clo _ f cs vs hs fun i sv v a b => ih i sv v a b hσ
  | mapv ρ key l h => exact fun hs => .mapv _ key l (hs _ _ h)

/-- a value of one cell -/
theorem Rv.oneC {X : PH} {ρ : Rho} {sv : SV} {v : Value} (h : Rv X ρ sv v) (ho : SX.oneC sv = true) : v.oneCell' = true := by
  cases h <;> first | rfl | exact ho | assumption | (simp [SX.oneC] at ho)

theorem Rv.normB {X : PH} {ρ : Rho} {sv : SV} {v : Value} (h : Rv X ρ sv v) : Rv X ρ (SX.normB sv) v := by
  cases h with
  | tt => exact .val _ _
  | ff => exact .val _ _
  | _ => first | (constructor; done) | (constructor <;> assumption)

/-- a map's key -/
def keyV (isA : Bool) (ks : List Int) : Value :=
  match isA with
  | true => .agg (ks.map (Value.int .i64)).toArray
  | false => .int .i64 (ks.headD 0)

/-- an owned block, as it lies -/
def BOk (X : PH) (ρ : Rho) (H : Nat → Option Obj) : Option Loc → LB → Prop
  | some l, .cells cs => X l.b = none ∧ ∃ c ty, H l.b = some (.cells c ty (0, 0)) ∧ c.size = l.sz ∧ l.p + cs.length ≤ l.sz ∧
      ∀ i sv, cs[i]? = some sv → ∃ v, c[l.p + i]? = some v ∧ Rv X ρ sv v
  | some l, .arr _ d enc xs => X l.b = none ∧ EncOk d enc ∧ ∃ c ty, H l.b = some (.cells c ty (0, 0)) ∧ c.size = l.sz ∧ l.p + xs.length * (enc d).length ≤ l.sz ∧
      ∀ i x j sv, xs[i]? = some x → (enc x)[j]? = some sv → ∃ v, c[l.p + (i * (enc d).length + j)]? = some v ∧ Rv X noKeys sv v
  | some l, .mp isA n α d enc es => X l.b = none ∧ EncOk d enc ∧ (enc d).length = 1 ∧ (es.map (·.1)).Nodup ∧ ∃ (a : Array MapEntry) (clock : Nat), H l.b = some (.map a clock) ∧ a.size = es.length ∧
      ∀ (i : Nat) (e : List Int × α), es[i]? = some e → e.1.length = n ∧ inKs e.1 ∧ ∃ en : MapEntry, a[i]? = some en ∧ en.key = keyV isA e.1 ∧ ∀ sv, enc e.2 = [sv] → Rv X noKeys sv en.val
  | none, .arr _ d enc xs => xs = [] ∧ EncOk d enc
  | none, .cells _ => False
  | some l, .objAt n svs mk => X l.b = none ∧ l.b = n ∧ ∃ vs : Array Value, vs.size = svs.length ∧ (∀ (i : Nat) sv, svs[i]? = some sv → ∃ v, vs[i]? = some v ∧ Rv X ρ sv v) ∧ H l.b = some (mk vs)
  | none, .mp .. => False
  | none, .objAt .. => False

theorem BOk.mono {X : PH} {ρ σ : Rho} {H : Nat → Option Obj} {l : Option Loc} {lb : LB} (h : BOk X ρ H l lb) (hρ : ρ.le σ) : BOk X σ H l lb := by
  cases l with
  | none => cases lb <;> exact h
  | some l => cases lb with
    | cells cs =>
      obtain ⟨h0, c, ty, h1, h2, h3, h4⟩ := h
      exact ⟨h0, c, ty, h1, h2, h3, fun i sv hi => let ⟨v, a, b⟩ := h4 i sv hi; ⟨v, a, b.monoR hρ⟩⟩
    | arr α d enc xs => exact h
    | mp isA n α d enc es => exact h
    | objAt n svs mk =>
      obtain ⟨h0, h1, vs, h2, h3, h4⟩ := h
      exact ⟨h0, h1, vs, h2, fun i sv hi => let ⟨v, a, b⟩ := h3 i sv hi; ⟨v, a, b.monoR hρ⟩, h4⟩

theorem BOk.congr {X : PH} {ρ : Rho} {H H' : Nat → Option Obj} {l : Option Loc} {lb : LB} (h : BOk X ρ H l lb) (hH : ∀ q, l = some q → H' q.b = H q.b) : BOk X ρ H' l lb := by
  cases l with
  | none => cases lb <;> exact h
  | some l => have e := hH l rfl; cases lb <;> (simp only [BOk, e]; exact h)

/-- a block that stands outside both -/
theorem BOk.monoX {X Y : PH} {ρ : Rho} {H : Nat → Option Obj} {l : Option Loc} {lb : LB} (h : BOk X ρ H l lb) (hX : X.le Y) (hl : ∀ q, l = some q → Y q.b = none) : BOk Y ρ H l lb := by
  cases l with
  | none => cases lb <;> exact h
  | some l => cases lb with
    | cells cs =>
      obtain ⟨h0, c, ty, h1, h2, h3, h4⟩ := h
      exact ⟨hl l rfl, c, ty, h1, h2, h3, fun i sv hi => let ⟨v, a, b⟩ := h4 i sv hi; ⟨v, a, b.monoX hX⟩⟩
    | arr α d enc xs =>
      obtain ⟨h0, hu, c, ty, h1, h2, h3, h4⟩ := h
      exact ⟨hl l rfl, hu, c, ty, h1, h2, h3, fun i x j sv hi hj => let ⟨v, a, b⟩ := h4 i x j sv hi hj; ⟨v, a, b.monoX hX⟩⟩
    | mp isA n α d enc es =>
      obtain ⟨h0, hu, hu1, hnd, c, ck, h1, h2, h4⟩ := h
      exact ⟨hl l rfl, hu, hu1, hnd, c, ck, h1, h2, fun i e hi => let ⟨a, b, en, g1, g2, g3⟩ := h4 i e hi; ⟨a, b, en, g1, g2, fun sv hs => (g3 sv hs).monoX hX⟩⟩
    | objAt n svs mk =>
      obtain ⟨h0, h1, vs, h2, h3, h4⟩ := h
      exact ⟨hl l rfl, h1, vs, h2, fun i sv hi => let ⟨v, a, b⟩ := h3 i sv hi; ⟨v, a, b.monoX hX⟩, h4⟩

structure Mem (X : PH) (ρ : Rho) (B : Bl) (w : World) : Prop where
  fr : Fr X.w0 w
  sub : ∀ b o, X b = some o → w.heap[b]? = some o
  own : ∀ key lb, Bl.get B key = some lb → BOk X ρ (fun b => w.heap[b]?) (ρ key) lb
  inj : ∀ k1 k2 b1 b2 l1 l2, Bl.get B k1 = some b1 → Bl.get B k2 = some b2 → ρ k1 = some l1 → ρ k2 = some l2 → l1.b = l2.b → k1 = k2

/-- from n on no key is used -/
def Fresh (ρ : Rho) (B : Bl) (n : Nat) : Prop := ∀ key, n ≤ key → ρ key = none ∧ Bl.get B key = none

structure Conc (X : PH) (ρ : Rho) (st : St) (a : Act) (w : World) : Prop where
  mem : Mem X ρ st.blks w
  size : a.tmps.size = st.tmps.length
  slots : ∀ i, Rv X ρ (getSlot st.tmps i) (a.tmps.getD i undef)
  dfr : a.defers = []
  fresh : Fresh ρ st.blks st.next

theorem getSlot_out : ∀ (ts : List SV) (i : Nat), ts.length ≤ i → getSlot ts i = .any
  | [], _, _ => rfl
  | _ :: _, 0, h => by simp at h
  | _ :: r, n + 1, h => getSlot_out r n (by simpa using h)
theorem getSlot_eq : ∀ (ts : List SV) (i : Nat), getSlot ts i = (ts[i]?).getD .any
  | [], _ => rfl
  | _ :: _, 0 => rfl
  | _ :: r, n + 1 => by simpa [getSlot] using getSlot_eq r n
theorem setSlot_length : ∀ (ts : List SV) (i : Nat) (v : SV), (setSlot ts i v).length = ts.length
  | [], _, _ => rfl
  | _ :: _, 0, _ => rfl
  | _ :: r, n + 1, v => by simp [setSlot, setSlot_length r n v]
theorem getSlot_set : ∀ (ts : List SV) (i j : Nat) (v : SV), getSlot (setSlot ts i v) j = if i = j ∧ i < ts.length then v else getSlot ts j
  | [], _, _, _ => by simp [setSlot, getSlot]
  | x :: r, 0, 0, v => by simp [setSlot, getSlot]
  | x :: r, 0, j + 1, v => by simp [setSlot, getSlot]
  | x :: r, n + 1, 0, v => by simp [setSlot, getSlot]
  | x :: r, n + 1, j + 1, v => by simpa [setSlot, getSlot] using getSlot_set r n j v

theorem Conc.eval {X : PH} {ρ : Rho} {st : St} {a : Act} {w : World} (h : Conc X ρ st a w) (x : Operand) : Rv X ρ (evalO st.tmps x) (a.eval x) := by
  cases x with
  | tmp t => exact h.slots t
  | const v =>
    cases v with
    | bool b => cases b <;> constructor
    | _ => exact .val _ _
  | global g => exact .any _ _
  | func f => exact .clo _ f [] #[] rfl (fun i sv v hi => by simp at hi)

theorem Conc.put {X Y : PH} {ρ σ : Rho} {st : St} {a : Act} {w w' : World} (h : Conc X ρ st a w) {B : Bl} {n : Nat} (hm : Mem Y σ B w') (hX : X.le Y) (hρ : ρ.le σ)
    (hf : Fresh σ B n) (d : Option Nat) {sv : SV} {v : Value} (hv : Rv Y σ sv v) : Conc Y σ ⟨setDst st.tmps d sv, B, n⟩ (a.put d v) w' := by
  cases d with
  | none => exact ⟨hm, h.size, fun i => ((h.slots i).monoX hX).monoR hρ, h.dfr, hf⟩
  | some d =>
    refine ⟨hm, ?_, fun i => ?_, h.dfr, hf⟩
    · simp [Act.put, setDst, setSlot_length, h.size]
    · simp only [Act.put, setDst, getSlot_set]
      by_cases hi : d = i ∧ d < st.tmps.length
      · rw [if_pos hi]
        obtain ⟨rfl, hl⟩ := hi
        have : (a.tmps.setIfInBounds d v).getD d undef = v := by
          have hs : d < a.tmps.size := by rw [h.size]; exact hl
          simp [Array.getD_eq_getD_getElem?, hs]
        rw [this]; exact hv
      · rw [if_neg hi]
        have : (a.tmps.setIfInBounds d v).getD i undef = a.tmps.getD i undef := by
          simp only [Array.getD_eq_getD_getElem?, Array.getElem?_setIfInBounds]
          by_cases hdi : d = i
          · subst hdi
            have hs : ¬ d < a.tmps.size := by rw [h.size]; exact fun hl => hi ⟨rfl, hl⟩
            simp [hs]
          · simp [hdi]
        rw [this]; exact ((h.slots i).monoX hX).monoR hρ
end Go.SX
