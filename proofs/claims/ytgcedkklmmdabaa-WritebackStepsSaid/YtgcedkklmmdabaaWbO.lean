/- A PART OF THE PROOF. NO CONDITION. -/
import Derived.Test.YtgcedkklmmdabaaWbN
noncomputable section
set_option linter.unusedVariables false
set_option linter.unusedVariables false
set_option linter.unusedSimpArgs false
namespace Go.Wb
open Go.Proofs Go.SX Go.RowKit
set_option maxRecDepth 100000
theorem calls44 (A : Option Addr) (n c : Nat) (m : Int) (w : World) : Calls Try.prog 44 #[.slice A n c, .int .i64 m] w fun e w' =>
    e = .returned (.func (.func 53) #[] #[.pointer (some ⟨w.heap.size, 0, none⟩), .pointer (some ⟨w.heap.size + 1, 0, none⟩)]) ∧ w' = (w.alloc (.cells #[.slice A n c] 63)).alloc (.cells #[.int .i64 m] 3) := by
  go_enter Try.func44, Try.ntmps44
  go_wp2
  go_ret
  simp

def sp44 : SX.Spec := fun kd args B K => match args with
  | [.sl key k o n, .val (.int .i64 most)] => match Bl.get B key with
    | some (.arr α d enc xs) => ∃ l : List PL, LB.arr α d enc xs = LB.arr PL dPL encPL l ∧ (k = 2 ∧ o = 0 ∧ n = l.length) ∧ K (.clo 53 [bxL l, bxI most]) (Bl.del B key)
    | _ => False
  | _ => False
theorem sp44_use {kd : Nat} {args : List SV} {B : Bl} {K : SV → Bl → Prop} (h : sp44 kd args B K) : ∃ (key : Nat) (l : List PL) (most : Int), args = [.sl key 2 0 l.length, I most] ∧ Bl.get B key = some (.arr PL dPL encPL l) ∧ K (.clo 53 [bxL l, bxI most]) (Bl.del B key) := by
  unfold sp44 at h
  split at h
  · rename_i key k o n most
    split at h
    · rename_i α d enc xs hg
      obtain ⟨l, h1, ⟨rfl, rfl, rfl⟩, h2⟩ := h
      exact ⟨key, l, most, rfl, by rw [hg, h1], h2⟩
    · exact h.elim
  · exact h.elim
theorem sp44_mono (kd : Nat) (svs : List SV) (B : Bl) (K K' : SV → Bl → Prop) (hK : ∀ v B, K v B → K' v B) (h : sp44 kd svs B K) : sp44 kd svs B K' := by
  unfold sp44 at *
  split at h
  · split at h
    · obtain ⟨l, h1, h2, h3⟩ := h
      exact ⟨l, h1, h2, hK _ _ h3⟩
    · exact h.elim
  · exact h.elim
theorem fn44 : FnOk P 44 := ⟨Try.f44, by kernel_rfl, by kernel_rfl, by kernel_rfl⟩
theorem okBox : EncOk ([] : List PL) encBox := fun _ => ⟨rfl, rfl⟩
theorem okI' : EncOk (0 : Int) encI := fun _ => ⟨rfl, rfl⟩
theorem s44 : SpecOk P 44 sp44 := by
  refine ⟨fn44, ?_⟩
  intro X ρ B w kd svs vs K hM hfr hL hsp
  obtain ⟨key, l, most, rfl, hget, hK⟩ := sp44_use hsp
  obtain ⟨hsz, hg⟩ := hL
  obtain ⟨v1, hg1, hr1⟩ := hg 0 _ rfl
  obtain ⟨v2, hg2, hr2⟩ := hg 1 _ rfl
  obtain rfl : vs = #[v1, v2] := by
    apply Array.ext_getElem?
    intro i
    rcases i with _ | _ | i
    · exact hg1
    · exact hg2
    · rw [Array.getElem?_eq_none (by rw [hsz]; simp), Array.getElem?_eq_none (by simp)]
  cases hr2
  cases hr1 with
  | sl _ _ _ _ _ c A hn hA =>
  have hw : ∀ b, b < w.heap.size → ((w.alloc (.cells #[.slice A l.length c] 63)).alloc (.cells #[.int .i64 most] 3)).heap[b]? = w.heap[b]? := fun b hb => by
    rw [alloc_heap, Array.getElem?_push, if_neg (by rw [alloc_heap, Array.size_push]; omega), alloc_heap, Array.getElem?_push, if_neg (by omega)]
  have hb1 : ((w.alloc (.cells #[.slice A l.length c] 63)).alloc (.cells #[.int .i64 most] 3)).heap[w.heap.size]? = some (.cells #[.slice A l.length c] 63) := by
    rw [alloc_heap, Array.getElem?_push, if_neg (by rw [alloc_heap, Array.size_push]; omega), alloc_heap, Array.getElem?_push, if_pos rfl]
  have hb2 : ((w.alloc (.cells #[.slice A l.length c] 63)).alloc (.cells #[.int .i64 most] 3)).heap[w.heap.size + 1]? = some (.cells #[.int .i64 most] 3) := by
    rw [alloc_heap, Array.getElem?_push, if_pos (by rw [alloc_heap, Array.size_push])]
  have hown := hM.own key _ hget
  let Y : PH := ⟨fun b => if b = w.heap.size then some (.cells #[.slice A l.length c] 63) else if b = w.heap.size + 1 then some (.cells #[.int .i64 most] 3) else (match ρ key with
    | some q => if b = q.b then w.heap[b]? else X b
    | none => X b), X.w0⟩
  have hY1 : Y w.heap.size = some (.cells #[.slice A l.length c] 63) := if_pos rfl
  have hY2 : Y (w.heap.size + 1) = some (.cells #[.int .i64 most] 3) := (if_neg (by omega)).trans (if_pos rfl)
  have hY3 : ∀ b, b < w.heap.size → Y b = (match ρ key with
    | some q => if b = q.b then w.heap[b]? else X b
    | none => X b) := fun b hb => (if_neg (by omega)).trans (if_neg (by omega))
  have hlt : ∀ b o, X b = some o → b < w.heap.size := fun b o h => (Array.getElem?_eq_some_iff.1 (hM.sub b o h)).1
  have hXY : X.le Y := ⟨fun b o h => by
    show Y b = some o
    rw [hY3 b (hlt b o h)]
    split
    · split
      · exact hM.sub b o h
      · exact h
    · exact h, rfl⟩
  have hd := hM.del key
  have hdel : ∀ k lb, Bl.get (Bl.del B key) k = some lb → k ≠ key ∧ Bl.get B k = some lb := fun k lb h => by
    by_cases hk : k = key
    · subst hk; rw [Bl.get_del_same] at h; cases h
    · rw [Bl.get_del_other _ _ _ hk] at h; exact ⟨hk, h⟩
  have hmem : Mem Y ρ (Bl.del B key) ((w.alloc (.cells #[.slice A l.length c] 63)).alloc (.cells #[.int .i64 most] 3)) := by
    refine ⟨hM.fr.trans ((Fr.alloc _ _).trans (Fr.alloc _ _)), fun b o h => ?_, fun k lb hk => ?_, hd.inj⟩
    · by_cases h1 : b = w.heap.size
      · subst h1
        have : some (Obj.cells #[.slice A l.length c] 63) = some o := hY1.symm.trans h
        rw [← this]; exact hb1
      by_cases h2 : b = w.heap.size + 1
      · subst h2
        have : some (Obj.cells #[.int .i64 most] 3) = some o := hY2.symm.trans h
        rw [← this]; exact hb2
      have h : (if b = w.heap.size then some (Obj.cells #[.slice A l.length c] 63) else if b = w.heap.size + 1 then some (.cells #[.int .i64 most] 3) else (match ρ key with
        | some q => if b = q.b then w.heap[b]? else X b
        | none => X b)) = some o := h
      rw [if_neg h1, if_neg h2] at h
      have h' : w.heap[b]? = some o := by
        split at h
        · split at h
          · exact h
          · exact hM.sub b o h
        · exact hM.sub b o h
      rw [hw b (Array.getElem?_eq_some_iff.1 h').1]; exact h'
    · obtain ⟨hne, hg⟩ := hdel k lb hk
      have h1 := hd.own k lb hk
      refine (h1.congr (H' := fun b => ((w.alloc (.cells #[.slice A l.length c] 63)).alloc (.cells #[.int .i64 most] 3)).heap[b]?) fun q hq => ?_).monoX hXY fun q hq => ?_
      · exact hw q.b (hM.lt hg hq).1
      · obtain ⟨hl1, hx1⟩ := hM.lt hg hq
        rw [hY3 q.b hl1]
        split
        · rename_i q' hq'
          rw [if_neg (fun e => hne (hM.inj k key _ _ q q' hg hget hq hq' e))]; exact hx1
        · exact hx1
  have hro : Rv Y noKeys (.ro PL dPL encPL l) (.slice A l.length c) := by
    by_cases hl0 : l = []
    · subst hl0; exact empty_ro _ (fun _ => ⟨rfl, rfl⟩) _ _
    have hlpos : 0 < l.length := List.length_pos_iff.2 hl0
    rcases hA with hc0 | ⟨q, hq, rfl, _⟩
    · omega
    rw [hq] at hown
    obtain ⟨x0, hk, c0, ty, hh, _, _, hrows⟩ := hown
    have hYq : Y q.b = some (.cells c0 ty (0, 0)) := by
      rw [hY3 q.b (Array.getElem?_eq_some_iff.1 hh).1, hq]
      show (if q.b = q.b then w.heap[q.b]? else X q.b) = _
      rw [if_pos rfl]; exact hh
    rw [show q.p + 0 * 2 = q.p by omega]
    exact frozen_ro noKeys hYq hk hn fun i j x sv hx hsv => by
      obtain ⟨v, hv, hr⟩ := hrows i x j sv hx hsv
      exact ⟨v, hv, hr.monoX hXY⟩
  refine (calls44 A l.length c most w).mono ?_
  rintro e w' ⟨rfl, rfl⟩
  refine ⟨_, rfl, Y, ρ, .clo 53 [bxL l, bxI most], _, hXY, ρ.le_refl, fun k hk => ⟨rfl, fun h => ?_⟩, hmem, .clo _ _ _ _ rfl fun i sv v hi hv => ?_, hK⟩
  · cases hg : Bl.get (Bl.del B key) k with
    | none => rfl
    | some lb => rw [(hdel k lb hg).2] at h; cases h
  · have : i = 0 ∨ i = 1 := by have := (List.getElem?_eq_some_iff.1 hi).1; simp at this; omega
    rcases this with rfl | rfl
    · cases hi; cases hv
      exact .rop ρ (List PL) [] encBox [l] 0 0 w.heap.size 0 #[.slice A l.length c] 63 (0, 0) (fun _ _ => .slice A l.length c) hY1 okBox (fun i j hi hj => by
        have h1 : i = 0 := by simpa using hi
        have h2 : j = 0 := by have : j < 1 := hj; omega
        subst h1; subst h2; rfl) fun i j x sv hx hsv => by
        have h1 : i = 0 := by have := (List.getElem?_eq_some_iff.1 hx).1; simp at this; omega
        subst h1; cases hx
        have h2 : j = 0 := by have := (List.getElem?_eq_some_iff.1 hsv).1; simp [encBox] at this; omega
        subst h2; cases hsv; exact hro
    · cases hi; cases hv
      exact .rop ρ Int 0 encI [most] 0 0 (w.heap.size + 1) 0 #[.int .i64 most] 3 (0, 0) (fun _ _ => .int .i64 most) hY2 okI' (fun i j hi hj => by
        have h1 : i = 0 := by simpa using hi
        have h2 : j = 0 := by have : j < 1 := hj; omega
        subst h1; subst h2; rfl) fun i j x sv hx hsv => by
        have h1 : i = 0 := by have := (List.getElem?_eq_some_iff.1 hx).1; simp at this; omega
        subst h1; cases hx
        have h2 : j = 0 := by have := (List.getElem?_eq_some_iff.1 hsv).1; simp [encI] at this; omega
        subst h2; cases hsv; exact .val _ _
end Go.Wb
