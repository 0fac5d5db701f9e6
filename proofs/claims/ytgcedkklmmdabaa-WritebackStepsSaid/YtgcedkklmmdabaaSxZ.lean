/- A PART OF THE PROOF. NO CONDITION. -/
import Derived.Test.YtgcedkklmmdabaaSxY
set_option linter.unusedSimpArgs false
set_option linter.unusedVariables false
set_option linter.unusedVariables false
set_option linter.unusedSimpArgs false
namespace Go.SX

/-- a value that speaks of no memory at all -/
def flat : SV → Bool
  | .any | .tt | .ff | .e0 | .one | .val _ => true
  | _ => false
def allFlat : List SV → Bool
  | [] => true
  | x :: r => match flat x with | true => allFlat r | false => false
def LBflat : LB → Prop
  | .cells cs => allFlat cs = true
  | .arr _ _ enc _ => ∀ x, allFlat (enc x) = true
  | .mp .. => False
  | .objAt .. => False

/-- what a caller gives, as the callee sees it: the keys ks are passed as 0, 1, ..; any other owned slice is seen as a slice that nobody turns -/
def viewA (B : Bl) (ks : List Nat) (sv a : SV) : Prop :=
  match a with
  | .ro α d enc xs => match sv with
    | .ro α' d' enc' xs' => SV.ro α' d' enc' xs' = .ro α d enc xs
    | .sl key k o n => match memN key ks with
      | true => False
      | false => match Bl.get B key with
        | some (.arr α' d' enc' xs') => match Nat.beq k (enc' d').length with
          | true => o + n ≤ xs'.length ∧ SV.ro α' d' enc' ((xs'.drop o).take n) = .ro α d enc xs
          | false => False
        | some (.cells cs) => match Nat.beq k (enc d).length, Nat.ble ((o + n) * k) cs.length, allNoKey cs with
          | true, true, true => relaxL (enc d) (chunk n k (cs.drop (o * k))) = xs.map enc ∧ EncOk d enc
          | _, _, _ => False
        | _ => False
    | .e0 => xs = [] ∧ EncOk d enc
    | .val (.slice none 0 0) => xs = [] ∧ EncOk d enc
    | _ => False
  | .sl i k o n => match sv with
    | .sl key k' o' n' => match ks[i]? with
      | some q => match Nat.beq key q with
        | true => k' = k ∧ o' = o ∧ n' = n
        | false => False
      | none => False
    | _ => False
  | .ptr i off => match sv with
    | .ptr key off' => match ks[i]? with
      | some q => match Nat.beq key q with
        | true => off' = off
        | false => False
      | none => False
    | _ => False
  | .any => True
  | .val (.bool b) => match sv with
    | .tt => b = true
    | .ff => b = false
    | sv => sv = .val (.bool b)
  | a => match noKey a with
    | true => sv = a
    | false => False
def listR (R : SV → SV → Prop) : List SV → List SV → Prop
  | [], [] => True
  | [s], [a] => R s a
  | s :: r, a :: q => R s a ∧ listR R r q
  | _, _ => False
/-- a block that is not passed, as memory that nobody turns: one row -/
def viewR : Nat → Bl → List Nat → SV → SV → Prop
  | 0, _, _, _, _ => False
  | n + 1, B, ks, sv, a => match a with
    | .rop α d enc xs i off => match sv with
      | .ptr key o => match memN key ks, Bl.get B key with
        | false, some (.cells cs) => match xs, i, Nat.beq cs.length (enc d).length with
          | [x], 0, true => o = off ∧ EncOk d enc ∧ listR (viewR n B ks) cs (enc x)
          | _, _, _ => False
        | _, _ => False
      | sv => sv = .rop α d enc xs i off
    | .clo f cs => match sv with
      | .clo f' cs' => match Nat.beq f' f with
        | true => listR (viewR n B ks) cs' cs
        | false => False
      | _ => False
    | .ro α d enc xs => viewA B ks sv (.ro α d enc xs)
    | a => match noKey a with
      | true => sv = a
      | false => False
def viewB (B : Bl) (ks : List Nat) (sv a : SV) : Prop :=
  match a with
  | .rop α d enc xs i off => viewR 6 B ks sv (.rop α d enc xs i off)
  | a => viewA B ks sv a
def viewAs (B : Bl) (ks : List Nat) : List SV → List SV → Prop
  | [], [] => True
  | s :: r, a :: q => viewB B ks s a ∧ viewAs B ks r q
  | _, _ => False
def viewT (B : Bl) (ks : List Nat) (sv a : SV) : Prop :=
  match a with
  | .agg cs => match sv with | .agg cs' => viewAs B ks cs' cs | _ => False
  | .tup cs => match sv with | .tup cs' => viewAs B ks cs' cs | _ => False
  | .clo f cs => match sv with | .clo f' cs' => f' = f ∧ viewAs B ks cs' cs | _ => False
  | a => viewB B ks sv a
def viewL (B : Bl) (ks : List Nat) : List SV → List SV → Prop
  | [], [] => True
  | [s], [a] => viewT B ks s a
  | s :: r, a :: q => viewT B ks s a ∧ viewL B ks r q
  | _, _ => False

def blksOf : Nat → List LB → Bl
  | _, [] => []
  | i, b :: r => (i, b) :: blksOf (i + 1) r
def hasAll (B : Bl) : List Nat → List LB → Prop
  | [], [] => True
  | [k], [b] => Bl.get B k = some b
  | k :: r, b :: q => Bl.get B k = some b ∧ hasAll B r q
  | _, _ => False
def setAll : List Nat → List LB → Bl → Bl
  | k :: r, b :: q, B => setAll r q (Bl.set B k b)
  | _, _, B => B
def nodupN : List Nat → Bool
  | [] => true
  | k :: r => match memN k r with | true => false | false => nodupN r

/-- the callee's keys, turned into the caller's: the new one is m -/
def ren1 (ks : List Nat) (kd : Nat) (i : Nat) : Nat := match ks[i]? with | some q => q | none => kd
def renA (ks : List Nat) (kd : Nat) : SV → SV
  | .sl i k o n => .sl (ren1 ks kd i) k o n
  | .ptr i off => .ptr (ren1 ks kd i) off
  | v => v
def renAs (ks : List Nat) (kd : Nat) : List SV → List SV
  | [] => []
  | x :: r => renA ks kd x :: renAs ks kd r
def renT (ks : List Nat) (kd : Nat) : SV → SV
  | .agg cs => .agg (renAs ks kd cs)
  | .tup cs => .tup (renAs ks kd cs)
  | v => renA ks kd v

/-- the callee's new block -/
def srcOk (m : Nat) (B' : Bl) (src : SV) (nw : LB) : Prop :=
  match nw with
  | .arr α d enc ys => (∀ x, allFlat (enc x) = true) ∧ (match src with
    | .sl key k o n => match Nat.ble m key, Bl.get B' key with
      | true, some (.arr α' d' enc' xs) => match Nat.beq k (enc' d').length with
        | true => o + n ≤ xs.length ∧ LB.arr α' d' enc' ((xs.drop o).take n) = .arr α d enc ys
        | false => False
      | true, some (.cells cs) => match Nat.beq k (enc d).length, Nat.ble ((o + n) * k) cs.length, allNoKey cs with
          | true, true, true => chunk n k (cs.drop (o * k)) = ys.map enc ∧ EncOk d enc
          | _, _, _ => False
      | _, _ => False
    | .e0 => ys = [] ∧ EncOk d enc
    | .val (.slice none 0 0) => ys = [] ∧ EncOk d enc
    | _ => False)
  | .cells _ => False
  | .mp .. => False
  | .objAt .. => False
def retA (m : Nat) (src : SV) (a r : SV) : Prop :=
  match r with
  | .sl i k o n => match Nat.beq i m with
    | true => a = src ∧ o = 0 ∧ (match src with | .sl _ k' _ n' => k' = k ∧ n' = n | .e0 => n = 0 | .val (.slice none 0 0) => n = 0 | _ => False)
    | false => match Nat.blt i m, a with
      | true, .sl i' k' o' n' => match Nat.beq i' i with | true => k' = k ∧ o' = o ∧ n' = n | false => False
      | _, _ => False
  | .any => True
  | .val (.bool b) => match a with
    | .tt => b = true
    | .ff => b = false
    | sv => sv = .val (.bool b)
  | r => match flat r with
    | true => a = r
    | false => False
def retAs (m : Nat) (src : SV) : List SV → List SV → Prop
  | [], [] => True
  | [s], [a] => retA m src s a
  | s :: r, a :: q => retA m src s a ∧ retAs m src r q
  | _, _ => False
def retT (m : Nat) (src : SV) (a r : SV) : Prop :=
  match r with
  | .agg cs => match a with | .agg cs' => retAs m src cs' cs | _ => False
  | .tup cs => match a with | .tup cs' => retAs m src cs' cs | _ => False
  | r => retA m src a r
/-- what is returned in the new slice's place -/
def srcA (m : Nat) (a r : SV) : Option SV :=
  match r with
  | .sl i _ _ _ => match Nat.beq i m with | true => some a | false => none
  | _ => none
def srcAs (m : Nat) : List SV → List SV → SV
  | a :: as, r :: rs => match srcA m a r with | some s => s | none => srcAs m as rs
  | _, _ => .any
def srcT (m : Nat) (a r : SV) : SV :=
  match r with
  | .agg rs => match a with | .agg as => srcAs m as rs | _ => .any
  | .tup rs => match a with | .tup as => srcAs m as rs | _ => .any
  | r => match srcA m a r with | some s => s | none => .any
def retOk (m : Nat) (B' : Bl) (sv r : SV) (nw : Option LB) : Prop :=
  match nw with
  | none => retT m .any sv r
  | some lb => retT m (srcT m sv r) sv r ∧ srcOk m B' (srcT m sv r) lb
def outsOk (B' : Bl) : Nat → List LB → Prop
  | _, [] => True
  | i, [b] => Bl.get B' i = some b ∧ LBflat b
  | i, b :: r => (Bl.get B' i = some b ∧ LBflat b) ∧ outsOk B' (i + 1) r

/-- A CONTRACT: what a function is given and gives. 'm' blocks are passed; 'keys' finds them in what the caller gives. -/
structure Con : Type 1 where
  γ : Type
  β : Type
  keys : List SV → List Nat
  m : Nat
  args : γ → List SV
  ins : γ → List LB
  pre : γ → Prop
  post : γ → β → Prop
  res : γ → β → SV
  outs : γ → β → List LB
  new : γ → β → Option LB

def insNew (B : Bl) (kd : Nat) : Option LB → Bl
  | none => B
  | some lb => Bl.ins B kd lb

def Con.spec (c : Con) : Spec := fun kd svs B K => match c.keys svs with
  | ks => match Nat.beq ks.length c.m, nodupN ks with
    | true, true => ∃ g, viewL B ks svs (c.args g) ∧ hasAll B ks (c.ins g) ∧ c.pre g ∧ ∀ b, c.post g b → K (renT ks kd (c.res g b)) (insNew (setAll ks (c.outs g b) B) kd (c.new g b))
    | _, _ => False

/-- what is to be shown of the function's body -/
def Con.body (c : Con) (E : c.γ → Env) (fn : Func) : Prop :=
  ∀ g, c.pre g → vcOf (E g) fn 8 (c.args g) (blksOf 0 (c.ins g)) fun sv B' => ∃ b, c.post g b ∧ retOk c.m B' sv (c.res g b) (c.new g b) ∧ ((c.outs g b).length = c.m ∧ outsOk B' 0 (c.outs g b))

/-! ## lemmas -/
theorem flat_noKey {s : SV} (h : flat s = true) : noKey s = true := by cases s <;> simp [flat, noKey] at *
theorem Rv.swap {X : PH} {ρ σ : Rho} {s : SV} {v : Value} (h : Rv X ρ s v) (hk : noKey s = true) : Rv X σ s v := (h.unkey hk).monoR (Rho.none_le σ)
theorem Rv.flatten {X Y : PH} {ρ σ : Rho} {s : SV} {v : Value} (h : Rv X ρ s v) (hk : flat s = true) : Rv Y σ s v := by
  cases h <;> first | (simp [flat] at hk; done) | (constructor; done) | (constructor; assumption)
theorem allFlat_spec : ∀ {cs : List SV}, allFlat cs = true → ∀ (i : Nat) (sv : SV), cs[i]? = some sv → flat sv = true
  | [], _, i, sv, hi => by simp at hi
  | x :: r, h, i, sv, hi => by
    simp only [allFlat] at h
    cases hx : flat x with
    | false => simp [hx] at h
    | true =>
      simp only [hx] at h
      cases i with
      | zero => simp at hi; subst hi; exact hx
      | succ i => exact allFlat_spec h i sv (by simpa using hi)
theorem nodupN_spec : ∀ {ks : List Nat}, nodupN ks = true → ∀ (i j q : Nat), ks[i]? = some q → ks[j]? = some q → i = j
  | [], _, i, j, q, hi, _ => by simp at hi
  | k :: r, h, i, j, q, hi, hj => by
    simp only [nodupN] at h
    cases hm : memN k r with
    | true => simp [hm] at h
    | false =>
      simp only [hm] at h
      cases i with
      | zero =>
        cases j with
        | zero => rfl
        | succ j =>
          simp at hi hj; subst hi
          rw [memN_self (List.mem_of_getElem? hj)] at hm; cases hm
      | succ i =>
        cases j with
        | zero =>
          simp at hi hj; subst hj
          rw [memN_self (List.mem_of_getElem? hi)] at hm; cases hm
        | succ j => rw [nodupN_spec h i j q (by simpa using hi) (by simpa using hj)]
theorem memN_get : ∀ {ks : List Nat} {q : Nat}, memN q ks = true → ∃ i : Nat, ks[i]? = some q
  | [], q, h => by simp [memN] at h
  | k :: r, q, h => by
    simp only [memN] at h
    cases hb : Nat.beq q k with
    | true => exact ⟨0, by simp [Nat.eq_of_beq_eq_true hb]⟩
    | false => simp only [hb] at h; obtain ⟨i, hi⟩ := memN_get h; exact ⟨i + 1, by simpa using hi⟩
theorem get_blksOf : ∀ (bs : List LB) (i j : Nat), Bl.get (blksOf i bs) j = if i ≤ j then bs[j - i]? else none
  | [], i, j => by simp [blksOf, Bl.get]
  | b :: r, i, j => by
    simp only [blksOf, Bl.get]
    by_cases hij : i = j
    · subst hij; simp
    · rw [nbeq_false hij]
      simp only
      rw [get_blksOf r (i + 1) j]
      by_cases hlt : i + 1 ≤ j
      · rw [if_pos hlt, if_pos (by omega)]
        have : j - i = (j - (i + 1)) + 1 := by omega
        rw [this, List.getElem?_cons_succ]
      · rw [if_neg hlt, if_neg (by omega)]
theorem hasAll_spec {B : Bl} : ∀ {ks : List Nat} {bs : List LB}, hasAll B ks bs → bs.length = ks.length ∧ ∀ (i q : Nat) b, ks[i]? = some q → bs[i]? = some b → Bl.get B q = some b
  | [], [], _ => ⟨rfl, fun i q b hi => by simp at hi⟩
  | [k], [b], h => ⟨rfl, fun i q c hi hc => by
      cases i with
      | zero => simp at hi hc; subst hi; subst hc; exact h
      | succ i => simp at hi⟩
  | [], _ :: _, h => h.elim
  | _ :: _, [], h => by simp [hasAll] at h
  | [k], _ :: _ :: _, h => by exact h.2.elim
  | k :: k2 :: r, b :: q, h => by
    have h' : Bl.get B k = some b ∧ hasAll B (k2 :: r) q := h
    obtain ⟨hl, hs⟩ := hasAll_spec h'.2
    refine ⟨by simpa using hl, fun i q c hi hc => ?_⟩
    cases i with
    | zero => simp at hi hc; subst hi; subst hc; exact h'.1
    | succ i => exact hs i q c (by simpa using hi) (by simpa using hc)
theorem outsOk_spec {B' : Bl} : ∀ {bs : List LB} {i : Nat}, outsOk B' i bs → ∀ (j : Nat) b, bs[j]? = some b → Bl.get B' (i + j) = some b ∧ LBflat b
  | [], i, _, j, b, hj => by simp at hj
  | [c], i, h, j, b, hj => by
    cases j with
    | zero => simp at hj; subst hj; exact h
    | succ j => simp at hj
  | c :: c2 :: r, i, h, j, b, hj => by
    have h' : (Bl.get B' i = some c ∧ LBflat c) ∧ outsOk B' (i + 1) (c2 :: r) := h
    cases j with
    | zero => simp at hj; subst hj; exact h'.1
    | succ j =>
      have := outsOk_spec h'.2 j b (by simpa using hj)
      rw [show i + (j + 1) = i + 1 + j by omega]; exact this
theorem get_setAll : ∀ (ks : List Nat) (bs : List LB) (B : Bl), nodupN ks = true → bs.length = ks.length → (∀ (i q : Nat), ks[i]? = some q → ∃ b, Bl.get B q = some b) →
    (∀ q, memN q ks = false → Bl.get (setAll ks bs B) q = Bl.get B q) ∧ ∀ (i q : Nat) b, ks[i]? = some q → bs[i]? = some b → Bl.get (setAll ks bs B) q = some b
  | [], bs, B, _, _, _ => ⟨fun q _ => by cases bs <;> rfl, fun i q b hi => by simp at hi⟩
  | k :: r, [], B, _, hl, _ => by simp at hl
  | k :: r, b :: bs, B, hn, hl, hh => by
    simp only [nodupN] at hn
    cases hm : memN k r with
    | true => simp [hm] at hn
    | false =>
      simp only [hm] at hn
      obtain ⟨b0, hb0⟩ := hh 0 k rfl
      have hne : ∀ (i q : Nat), r[i]? = some q → q ≠ k := fun i q hi e => by subst e; rw [memN_self (List.mem_of_getElem? hi)] at hm; cases hm
      obtain ⟨h1, h2⟩ := get_setAll r bs (Bl.set B k b) hn (by simpa using hl) (fun i q hi => by
        obtain ⟨c, hc⟩ := hh (i + 1) q (by simpa using hi)
        exact ⟨c, by rw [Bl.get_set_other _ _ _ _ (hne i q hi)]; exact hc⟩)
      refine ⟨fun q hq => ?_, fun i q c hi hc => ?_⟩
      · simp only [memN] at hq
        cases hb : Nat.beq q k with
        | true => simp [hb] at hq
        | false =>
          simp only [hb] at hq
          simp only [setAll]
          rw [h1 q hq, Bl.get_set_other]
          intro e; subst e; simp at hb
      · simp only [setAll]
        cases i with
        | zero =>
          simp at hi hc; subst hi; subst hc
          rw [h1 _ hm]; exact Bl.get_set_same _ _ _ hb0
        | succ i => exact h2 i q c (by simpa using hi) (by simpa using hc)

/-- a slice that lies in a block that nobody turns -/
theorem frozen_ro {X : PH} (ρ : Rho) {α : Type} {d : α} {enc : α → List SV} {xs : List α} {b p cap : Nat} {c : Array Value} {ty : TypeId} {fz : Nat × Nat} (hX : X b = some (.cells c ty fz)) (hk : EncOk d enc) (hcap : xs.length ≤ cap)
    (hrow : ∀ (i j : Nat) x sv, xs[i]? = some x → (enc x)[j]? = some sv → ∃ v, c[p + (i * (enc d).length + j)]? = some v ∧ Rv X noKeys sv v) : Rv X ρ (.ro α d enc xs) (.slice (some ⟨b, p, none⟩) xs.length cap) := by
  refine .ro ρ α d enc xs _ cap b p c ty fz (fun i j => (c[p + (i * (enc d).length + j)]?).getD undef) hcap (fun _ => ⟨rfl, hX⟩) hk (fun i j hi hj => ?_) (fun i j x sv hi hj => ?_)
  · obtain ⟨v, hv, _⟩ := hrow i j xs[i] ((enc xs[i])[j]'(by rw [(hk _).1]; exact hj)) (by simp [hi]) (by simp)
    rw [hv]; rfl
  · obtain ⟨v, hv, hr⟩ := hrow i j x sv hi hj
    rw [hv]; exact hr
theorem empty_ro {X : PH} (ρ : Rho) {α : Type} {d : α} {enc : α → List SV} (hk : EncOk d enc) (A : Option Addr) (cap : Nat) : Rv X ρ (.ro α d enc []) (.slice A 0 cap) :=
  .ro ρ α d enc [] A cap 0 0 #[] 0 (0, 0) (fun _ _ => undef) (Nat.zero_le _) (fun h => absurd rfl h) hk (fun i j hi => by simp at hi) (fun i j x sv hi => by simp at hi)
end Go.SX
