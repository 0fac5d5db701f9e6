/- A PART OF THE PROOF. NO CONDITION. -/
import Derived.Test.YtgcedkklmmdabaaSxAD
import Derived.Shelf.SlSortCmp.WholeK
import Derived.Shelf.SlSortCmp.NoneTotal
set_option linter.unusedSimpArgs false
set_option linter.unusedVariables false
set_option linter.unusedVariables false
set_option linter.unusedSimpArgs false
namespace Go.SX
open Go.Proofs Go.Shelf Go.RowKit Go.Lib Go.Sort

/-- all that lies is left as it is -/
def allOf0 (W : World) : PH := ⟨fun b => W.heap[b]?, W⟩
theorem mem_all (W : World) : Mem (allOf0 W) noKeys [] W := ⟨Fr.refl _, fun _ _ h => h, fun _ _ h => (by cases h), fun _ _ _ _ _ _ h => (by cases h)⟩

theorem grown_world {W w' : World} (hf : Fr W w') (hh : ∀ (b : Nat) (o : Obj), W.heap[b]? = some o → w'.heap[b]? = some o) : ∃ q os', w' = grow (W.drewN q) os' := by
  refine ⟨w'.drawn - W.drawn, w'.heap.extract W.heap.size w'.heap.size, ?_⟩
  have hsz : W.heap.size ≤ w'.heap.size := by
    rcases Nat.eq_zero_or_pos W.heap.size with h0 | h0
    · omega
    · have h1 : W.heap[W.heap.size - 1]? = some (W.heap[W.heap.size - 1]'(by omega)) := by simp
      have := (Array.getElem?_eq_some_iff.1 (hh _ _ h1)).1
      omega
  have hheap : w'.heap = W.heap ++ w'.heap.extract W.heap.size w'.heap.size := by
    apply Array.ext_getElem?
    intro i
    by_cases hi : i < W.heap.size
    · rw [Array.getElem?_append_left hi]
      have h1 : W.heap[i]? = some (W.heap[i]'hi) := by simp
      rw [hh _ _ h1, h1]
    · rw [Array.getElem?_append_right (by omega), Array.getElem?_extract]
      by_cases h2 : i < w'.heap.size
      · rw [if_pos (by omega)]
        congr 1; omega
      · rw [if_neg (by omega), Array.getElem?_eq_none (by omega)]
  obtain ⟨h1, h2, h3, h4⟩ := hf
  obtain ⟨hp, tp, dr, os, ou⟩ := w'
  simp only at h1 h2 h3 h4 hheap
  subst h1; subst h2; subst h3
  simp only [grow, World.drewN]
  rw [← hheap]
  congr 1
  omega

theorem call_grown {P : Program} {g : Nat} {sp : Spec} (h : SpecOk P g sp) {svs : List SV} {vs : Array Value} (hl : ∀ X : PH, Like X noKeys svs vs) {v0 : Value} (hs : sp 8 svs [] (fun sv _ => sv = .val v0)) (W : World) :
    Calls P g vs W fun e w' => e = .returned v0 ∧ ∃ q os', w' = grow (W.drewN q) os' := by
  refine (h.2 (allOf0 W) noKeys [] W 8 svs vs _ (mem_all W) (fun _ _ _ => ⟨rfl, rfl⟩) (hl _) hs).mono ?_
  rintro e w' ⟨v, rfl, Y, σ, sv, B', hXY, _, _, hM, hrv, rfl⟩
  cases hrv
  refine ⟨rfl, grown_world ?_ fun b o hb => hM.sub b o (hXY b o hb)⟩
  have := hM.fr
  rw [hXY.w0] at this
  exact this

/-- a block turned, others made -/
theorem Mem.rewrite {X : PH} {ρ : Rho} {B : Bl} {w w' : World} (hm : Mem X ρ B w) {key : Nat} {lb lb' : LB} {l : Loc} (hk : Bl.get B key = some lb) (hl : ρ key = some l) (hfr : Fr w w')
    (hw : ∀ k o, k ≠ l.b → w.heap[k]? = some o → w'.heap[k]? = some o) (hnew : BOk X ρ (fun b => w'.heap[b]?) (some l) lb') : Mem X ρ (Bl.set B key lb') w' := by
  have hX : X l.b = none := hnew.loc
  refine ⟨hm.fr.trans hfr, fun b o h => ?_, fun key' lb2 h => ?_, fun k1 k2 b1 b2 l1 l2 h1 h2 e1 e2 hb => ?_⟩
  · have : b ≠ l.b := fun e => by subst e; rw [hX] at h; cases h
    exact hw b o this (hm.sub b o h)
  · by_cases hkk : key' = key
    · subst hkk
      rw [Bl.get_set_same _ _ _ hk] at h
      cases h
      rw [hl]; exact hnew
    · rw [Bl.get_set_other _ _ _ _ hkk] at h
      have hok := hm.own key' lb2 h
      refine hok.congr fun q hq => ?_
      rw [hq] at hok
      obtain ⟨o, ho⟩ := hok.located
      have hne : q.b ≠ l.b := fun e => hkk (hm.inj key' key lb2 lb q l h hk hq hl e)
      exact (hw _ _ hne ho).trans ho.symm
  · have g : ∀ k b, Bl.get (Bl.set B key lb') k = some b → ∃ b', Bl.get B k = some b' := fun k b h => by
      by_cases hkk : k = key
      · subst hkk; exact ⟨lb, hk⟩
      · rw [Bl.get_set_other _ _ _ _ hkk] at h; exact ⟨b, h⟩
    obtain ⟨b1', h1'⟩ := g k1 b1 h1
    obtain ⟨b2', h2'⟩ := g k2 b2 h2
    exact hm.inj k1 k2 b1' b2' l1 l2 h1' h2' e1 e2 hb

def slKeys : List SV → List Nat
  | .sl k _ _ _ :: _ => [k]
  | _ => []
/-- slices.SortFunc -/
def sortCon (α : Type) (k : Nat) (d : α) (enc : α → List SV) (g : Nat) (cf : α → α → Int) : Con :=
  { γ := List α, β := List α, keys := slKeys, m := 1, args := fun l => [.sl 0 k 0 l.length, .clo g []], ins := fun l => [.arr α d enc l], pre := fun l => l.length < 4611686018427387904, post := fun l l' => l'.Perm l ∧ l'.Pairwise (fun x y => ¬ cf y x < 0), res := fun _ _ => .tup [], outs := fun _ l' => [.arr α d enc l'], new := fun _ _ => none }

theorem get_set_self {B : Bl} {key : Nat} {lb : LB} (h : Bl.get B key = some lb) (j : Nat) : Bl.get (Bl.set B key lb) j = Bl.get B j := by
  by_cases hj : j = key
  · subst hj; rw [Bl.get_set_same _ _ _ h, h]
  · rw [Bl.get_set_other _ _ _ _ hj]
theorem Mem.setSelf {X : PH} {ρ : Rho} {B : Bl} {w : World} (hm : Mem X ρ B w) {key : Nat} {lb : LB} (h : Bl.get B key = some lb) : Mem X ρ (Bl.set B key lb) w :=
  ⟨hm.fr, hm.sub, fun k b hk => hm.own k b (by rw [← hk, get_set_self h]), fun k1 k2 b1 b2 l1 l2 h1 h2 => hm.inj k1 k2 b1 b2 l1 l2 (by rw [← h1, get_set_self h]) (by rw [← h2, get_set_self h])⟩

theorem enters_fn {P : Program} {g : Nat} (h : FnOk P g) : ∀ (args : Array Value) (w : World), (callFunc g args).run P w = .ok (.enter g args) w := by
  obtain ⟨fn, hf, hn, hb⟩ := h
  intro args w
  have hn : ¬ fn.name = "runtime.NumGoroutine" := by simpa using hn
  have hb' : ¬ fn.body = none := fun e => by rw [e] at hb; simp at hb
  simp [callFunc, hf, hn, hb']

theorem sortWorldK_others {α : Type} [Inhabited α] {enc : α → List Value} {k : Nat} {w : World} {blk off n : Nat} {d : Array α} {os : Array Obj} :
    Fr w (sortWorldK enc k w blk off n d os) ∧ ∀ (b : Nat) (o : Obj), b ≠ blk → w.heap[b]? = some o → (sortWorldK enc k w blk off n d os).heap[b]? = some o := by
  refine ⟨⟨rfl, rfl, rfl, Nat.le_add_right _ _⟩, fun b o hb h => ?_⟩
  show (((Sort.ahead w n).heap.modify blk (onCells _)) ++ os)[b]? = _
  have hlt := (Array.getElem?_eq_some_iff.1 h).1
  rw [Array.getElem?_append_left (by rw [Array.size_modify]; exact hlt), Array.getElem?_modify, if_neg (fun e => hb e.symm)]
  exact h
theorem sortWorldK_block {α : Type} [Inhabited α] {enc : α → List Value} {k : Nat} {w : World} {blk off n : Nat} {d : Array α} {os : Array Obj} {c : Array Value} {ty : TypeId} {fz : Nat × Nat}
    (h : w.heap[blk]? = some (.cells c ty fz)) : (sortWorldK enc k w blk off n d os).heap[blk]? = some (.cells (putCells id off (flatK enc k d) c) ty fz) := by
  show (((Sort.ahead w n).heap.modify blk (onCells _)) ++ os)[blk]? = _
  have hlt := (Array.getElem?_eq_some_iff.1 h).1
  rw [Array.getElem?_append_left (by rw [Array.size_modify]; exact hlt), Array.getElem?_modify, if_pos rfl]
  show Option.map _ w.heap[blk]? = _
  rw [h]
  rfl

theorem Array.getElemB_eq {α : Type} [Inhabited α] (d : Array α) (i : Nat) (h : i < d.size) : d[i]! = d[i] := by simp [h]

/-- slices.SortFunc, out of the shelf -/
theorem sort_spec {P : Program} {ren : Ren} {α : Type} [Inhabited α] (L : SlLaysF0.n6 P ren) (k : Nat) (hk0 : 0 < k) (aE : ∀ w, (isAgg (ren.t 24)).run P w = .ok true w) (zE : ∀ w, (Go.sizeOf (ren.t 24)).run P w = .ok k w) (d : α) (encV : α → List Value)
    (hk : ∀ x, (encV x).length = k) (h1 : ∀ x, ∀ v ∈ encV x, v.oneCell' = true) (cf : α → α → Int) (hO : SWO (ltOf cf)) (g : Nat) {cc : Spec} (hg : SpecOk P g cc)
    (hc : ∀ x y, cc 8 [.agg ((encV x).map .val), .agg ((encV y).map .val)] [] (fun sv _ => sv = .val (.int .i64 (cf x y)))) (hf : FnOk P (ren.f 6)) :
    SpecOk P (ren.f 6) (sortCon α k d (fun x => (encV x).map SV.val) g cf).spec := by
  refine ⟨hf, fun X ρ B w kd svs vs K hM hfr hL hs => ?_⟩
  have hkd : ((encV d).map SV.val).length = k := by rw [List.length_map, hk]
  unfold Con.spec sortCon at hs
  simp only at hs
  split at hs
  case h_2 => exact hs.elim
  rename_i hm1 _
  have hm1 := Nat.eq_of_beq_eq_true hm1
  obtain ⟨l, hview, hhas, hpre, hpost⟩ := hs
  -- the arguments
  rcases svs with _ | ⟨s1, _ | ⟨s2, _ | ⟨s3, sr⟩⟩⟩
  · exact absurd hview (by simp [viewL])
  · exact absurd hview (by simp [viewL])
  rotate_left
  · exact absurd hview (by simp [viewL])
  simp only [viewL, viewT, viewB, viewA] at hview
  obtain ⟨hv1, hv2⟩ := hview
  obtain ⟨key, k', o', n', rfl⟩ : ∃ key k' o' n', s1 = .sl key k' o' n' := by cases s1 <;> first | exact ⟨_, _, _, _, rfl⟩ | (simp at hv1; done)
  simp only [slKeys, List.getElem?_cons_zero] at hv1 hhas hpost
  rw [show Nat.beq key key = true from Nat.beq_refl key] at hv1
  simp only at hv1
  obtain ⟨hk', rfl, rfl⟩ := hv1
  obtain rfl := hk'.symm
  obtain ⟨f', cs', rfl⟩ : ∃ f' cs', s2 = .clo f' cs' := by cases s2 <;> first | exact ⟨_, _, rfl⟩ | (simp at hv2; done)
  obtain ⟨rfl, hcs⟩ := hv2
  obtain rfl : cs' = [] := by cases cs' with | nil => rfl | cons _ _ => simp [viewAs] at hcs
  simp only [hasAll] at hhas
  obtain ⟨hsz, hget⟩ := hL
  obtain ⟨v1, hg1, hr1⟩ := hget 0 _ rfl
  obtain ⟨v2, hg2, hr2⟩ := hget 1 _ rfl
  obtain rfl : vs = #[v1, v2] := by
    apply Array.ext_getElem?
    intro i
    rcases i with _ | _ | i
    · exact hg1
    · exact hg2
    · rw [Array.getElem?_eq_none (by rw [hsz]; simp), Array.getElem?_eq_none (by simp)]
  clear hsz hget hg1 hg2
  cases hr2 with
  | clo _ _ _ cb hsb _ =>
  obtain rfl : cb = #[] := by simpa using hsb
  have hset : setAll [key] [LB.arr α d (fun x => (encV x).map SV.val) l] B = Bl.set B key (.arr α d (fun x => (encV x).map SV.val) l) := rfl
  cases hr1 with
  | sl _ _ _ _ _ c A hn hA =>
  by_cases hl0 : l = []
  · subst hl0
    refine (AnyF.slices_SortFunc_none L A c (.func (.func f') #[] #[]) w).mono ?_
    rintro e w' ⟨rfl, rfl⟩
    exact ⟨_, rfl, X, ρ, _, _, X.le_refl, ρ.le_refl, fun j hj => ⟨rfl, fun h => by
      show Bl.get (Bl.set B key _) j = none
      rw [get_set_self hhas]; exact h⟩, Mem.setSelf hM hhas, (.tup _ [] #[] rfl fun i sv v h => by simp at h), hpost [] ⟨List.Perm.refl _, List.Pairwise.nil⟩⟩
  have hlpos : 0 < l.length := List.length_pos_iff.2 hl0
  rcases hA with hc0 | ⟨loc, hloc, rfl, hroom⟩
  · omega
  have hown := hM.own key _ hhas
  rw [hloc] at hown
  obtain ⟨hX, hE, c0, ty, hb, hcs0, hroom2, hrows⟩ := hown
  rw [hkd] at hroom2 hrows
  have hrow : ∀ i x j v, l[i]? = some x → (encV x)[j]? = some v → c0[loc.p + (i * k + j)]? = some v := fun i x j v hx hv => by
    obtain ⟨v', h, hr⟩ := hrows i x j (.val v) hx (by rw [List.getElem?_map, hv]; rfl)
    cases hr
    exact h
  have hblk : loc.b < w.heap.size := (Array.getElem?_eq_some_iff.1 hb).1
  have hH : HoldsK encV k w loc.b loc.p l.toArray := fun j hj => by
    rw [size_flatK] at hj
    simp only [List.size_toArray] at hj
    rw [get_flatK _ _ _ _ (by simpa using hj)]
    have hq : j / k < l.length := (Nat.div_lt_iff_lt_mul hk0).2 hj
    have hx : l[j / k]? = some l[j / k] := List.getElem?_eq_getElem hq
    have e1 : (l.toArray)[j / k]! = l[j / k] := by simp [hq]
    have hm : j % k < (encV l[j / k]).length := by rw [hk]; exact Nat.mod_lt _ hk0
    have := hrow _ _ (j % k) _ hx (List.getElem?_eq_getElem hm)
    rw [show j / k * k + j % k = j by rw [Nat.mul_comm]; exact Nat.div_add_mod j k] at this
    rw [e1, id, getElem!_pos (encV l[j / k]) (j % k) hm]
    refine ⟨?_, ?_⟩
    · simp [World.cell?, hb, this]
    · simp [World.frozen?, hb]
  have hcmp : CmpLays P f' #[] encV k cf loc.b loc.p l.toArray.size w := fun m os dk _ x y =>
    call_grown hg (fun X => ⟨by simp, fun i sv hi => by
      rcases i with _ | _ | i
      · simp at hi; subst hi; exact ⟨_, rfl, .agg _ _ _ (by simp) fun j s v h1 h2 => by
          rw [List.getElem?_map] at h1
          rw [List.getElem?_toArray] at h2
          rw [h2] at h1; cases h1; exact .val _ _⟩
      · simp at hi; subst hi; exact ⟨_, rfl, .agg _ _ _ (by simp) fun j s v h1 h2 => by
          rw [List.getElem?_map] at h1
          rw [List.getElem?_toArray] at h2
          rw [h2] at h1; cases h1; exact .val _ _⟩
      · simp at hi⟩) (hc x y) _
  have hmain := AnyQ.slices_SortFunc L k aE zE encV hk h1 cf hO f' #[] loc.b loc.p c l.toArray w (enters_fn hg.1) hcmp hH hblk (by simpa using hpre)
  rw [List.size_toArray] at hmain
  rw [show loc.p + 0 * k = loc.p by simp]
  refine hmain.mono ?_
  rintro e w' ⟨rfl, d', n, os, ⟨hps, _, hperm⟩, hsort, rfl⟩
  have hps : d'.size = l.length := by simpa using hps
  have hperm : d'.toList.Perm l := by
    have e1 : d'.extract 0 l.length = d' := by rw [← hps]; simp
    have e2 : l.toArray.extract 0 l.length = l.toArray := by simp
    rw [e1, e2] at hperm
    simpa using hperm
  have hpair : d'.toList.Pairwise fun x y => ¬ cf y x < 0 := by
    rw [List.pairwise_iff_getElem]
    intro i j hi hj hij
    have hj' : j < d'.size := by simpa using hj
    have := hsort i j (Nat.zero_le _) hij (by omega)
    rw [getElem!_pos d' j hj', getElem!_pos d' i (by omega)] at this
    simpa [ltOf] using this
  obtain ⟨hFr, hoth⟩ := sortWorldK_others (enc := encV) (k := k) (w := w) (blk := loc.b) (off := loc.p) (n := n) (d := d') (os := os)
  have hdl : d'.toList.length = l.length := by simpa using hps
  have hdk : d'.size * k = l.length * k := by rw [hps]
  refine ⟨_, rfl, X, ρ, _, _, X.le_refl, ρ.le_refl, fun j hj => ⟨rfl, fun h => ?_⟩, Mem.rewrite hM hhas hloc hFr hoth (lb' := .arr α d (fun x => (encV x).map SV.val) d'.toList) ⟨hX, hE, _, ty, sortWorldK_block hb, ?_, ?_, ?_⟩, (.tup _ [] #[] rfl fun i sv v h => by simp at h), hpost d'.toList ⟨hperm, hpair⟩⟩
  · show Bl.get (Bl.set B key _) j = none
    by_cases hjk : j = key
    · subst hjk; rw [hhas] at h; cases h
    · rw [Bl.get_set_other _ _ _ _ hjk]; exact h
  · unfold putCells; rw [Array.size_mapIdx]; exact hcs0
  · rw [hkd, hdl]; exact hroom2
  · intro i x j sv hx hsv
    rw [hkd]
    rw [List.getElem?_map] at hsv
    cases hv : (encV x)[j]? with
    | none => rw [hv] at hsv; cases hsv
    | some v =>
      rw [hv] at hsv; cases hsv
      refine ⟨v, ?_, .val _ _⟩
      have hi : i < d'.size := by
        have := (List.getElem?_eq_some_iff.1 hx).1
        simpa using this
      have hj : j < k := by rw [← hk x]; exact (List.getElem?_eq_some_iff.1 hv).1
      have hb2 : i * k + k ≤ d'.size * k := by rw [← Nat.succ_mul]; exact Nat.mul_le_mul_right k hi
      have hin : loc.p + (i * k + j) < c0.size := by rw [hcs0]; omega
      unfold putCells
      rw [Array.getElem?_mapIdx, Array.getElem?_eq_getElem hin]
      simp only [Option.map_some, size_flatK]
      rw [if_pos ⟨by omega, by omega⟩]
      have e : loc.p + (i * k + j) - loc.p = i * k + j := by omega
      rw [e, id, get_flatK _ _ _ _ (by omega)]
      have e1 : (i * k + j) / k = i := by rw [Nat.mul_comm, Nat.mul_add_div hk0, Nat.div_eq_of_lt hj, Nat.add_zero]
      have e2 : (i * k + j) % k = j := by rw [Nat.mul_comm, Nat.mul_add_mod, Nat.mod_eq_of_lt hj]
      rw [e1, e2]
      have hx' : d'[i]? = some x := by simpa using hx
      obtain ⟨hlt, hxe⟩ := Array.getElem?_eq_some_iff.1 hx'
      rw [getElem!_pos d' i hlt, hxe]
      obtain ⟨hlt2, hve⟩ := List.getElem?_eq_some_iff.1 hv
      rw [getElem!_pos (encV x) j hlt2, hve]
end Go.SX
