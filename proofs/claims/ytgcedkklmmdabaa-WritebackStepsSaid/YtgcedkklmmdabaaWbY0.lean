/- A PART OF THE PROOF. NO CONDITION. -/
import Derived.Test.YtgcedkklmmdabaaWbX0
import Derived.Shelf.RegionOpenPlain
import Derived.WalkKit
import Derived.Deep.LoopGhost
import Derived.Deep.RegionLaw
import Derived.Lib.Walk
import Derived.Lib.SliceRun
import Derived.Lib.SlicesDelete
noncomputable section
set_option linter.unusedVariables false
set_option linter.unusedSimpArgs false
namespace Go.WbW
open Go.Proofs Go.Shelf Go.RowKit Go.Lib Go.Sort
/-! slices.Delete of one page, by hand: the walk -/
theorem run_clear_one (P : Program) (w : World) (t e ty : TypeId) (z : Value) (zs : List Value) (ht : P.underlying t = some (.slice e)) (hv : ∀ w, (zeroValue e).run P w = .ok z w) (hz : (Builtin.zeroCells z.cells 1).toList = zs) (h1 : ∀ v ∈ zs, v.oneCell' = true) (b o c : Nat)
    (hc : ∀ j, j < zs.length → (w.cell? ⟨b, o + j, none⟩).isSome = true) (hf : ∀ j, j < zs.length → w.frozen? ⟨b, o + j, none⟩ = false) :
    (Builtin.clear_ #[t] ty #[.slice (some ⟨b, o, none⟩) 1 c]).run P w = .ok (.tuple #[]) (w.setCells b o zs) := by
  have hst := run_storeCells_cells (P := P) b o zs 0 w (by simpa using hc) (by simpa using hf) h1
  simp only [Nat.add_zero] at hst
  simp [Builtin.clear_, run_underlying ht, hv, hz, hst]
def zDP : List Value := [.int .i64 0, .int .i64 0, .int .i64 0]
theorem t22 : Try.prog.underlying 22 = some (.slice 30) := Try.underlying22
theorem z30 : ∀ w, (Go.sizeOf 30).run Try.prog w = .ok 3 w := fun w => by kernel_rfl
theorem a30 : ∀ w, (isAgg 30).run Try.prog w = .ok true w := fun w => by kernel_rfl
theorem v30 : ∀ w, (zeroValue 30).run Try.prog w = .ok (.agg #[.int .i64 0, .int .i64 0, .int .i64 0]) w := fun w => by kernel_rfl
theorem i30' : (Try.prog.info? 30).map (·.size) = some 3 := by kernel_rfl
theorem i30 : ∃ i, Try.prog.info? 30 = some i ∧ i.size = 3 := by
  have h := i30'
  cases hi : Try.prog.info? 30 with
  | none => rw [hi] at h; cases h
  | some i => rw [hi] at h; exact ⟨i, rfl, by simpa using h⟩
theorem a22 : ∀ w, (isAgg 22).run Try.prog w = .ok false w := fun w => by kernel_rfl
theorem z22 : ∀ w, (Go.sizeOf 22).run Try.prog w = .ok 1 w := fun w => by kernel_rfl
theorem v22 : ∀ w, (zeroValue 22).run Try.prog w = .ok (.slice none 0 0) w := fun w => by kernel_rfl
set_option maxHeartbeats 4000000 in
set_option maxRecDepth 1000000 in
theorem run29 (b off n c at_ : Nat) (news : List Value) (w : World) (hat : at_ < n) (hnc : n ≤ c) (hn : news.length = (n - (at_ + 1)) * 3)
    (hnews : ∀ t u, news[t]? = some u → w.cell? ⟨b, off + (at_ + 1) * 3 + t, none⟩ = some u) (h1 : ∀ u ∈ news, u.oneCell' = true)
    (hcell : ∀ t, t < n * 3 → (w.cell? ⟨b, off + t, none⟩).isSome = true ∧ w.frozen? ⟨b, off + t, none⟩ = false) :
    Calls Try.prog 29 #[.slice (some ⟨b, off, none⟩) n c, .int .i64 at_, .int .i64 ((at_ : Int) + 1)] w fun e w' => e = .returned (.slice (some ⟨b, off, none⟩) (n - 1) c) ∧ w' = (w.drew.setCells b (off + at_ * 3) news).setCells b (off + (n - 1) * 3) zDP := by
  have mixed := Go.Wb.mixed
  have t22 := t22; have a22 := a22; have z22 := z22; have v22 := v22; have z30 := z30; have a30 := a30; have v30 := v30
  obtain ⟨i0, hi0, hz1⟩ := i30
  obtain ⟨j, hj⟩ : ∃ j, j = at_ + 1 := ⟨_, rfl⟩
  rw [show ((at_ : Int) + 1) = (j : Int) by omega]
  rw [← hj] at hn hnews
  obtain ⟨A, hA, hsrc⟩ : ∃ A : Addr, (if c = j then some (⟨b, off, none⟩ : Addr) else some ⟨b, off + j * 3, none⟩) = some A ∧ Hid (∀ t u, news[t]? = some u → w.drew.cell? (A.add t) = some u) := by
    by_cases h : c = j
    · refine ⟨⟨b, off, none⟩, by simp [h], fun t u hu => ?_⟩
      have h0 : news.length = 0 := by rw [hn]; omega
      rw [List.length_eq_zero_iff.1 h0] at hu
      simp at hu
    · refine ⟨⟨b, off + j * 3, none⟩, by simp [h], fun t u hu => ?_⟩
      rw [Addr.add_lit]
      exact hnews t u hu
  have s1 : Hid (news.length = (n - j) * 3) := hn
  have s2 : Hid (∀ u ∈ news, u.oneCell' = true) := h1
  have s3 : Hid (∀ t, t < news.length → (w.drew.cell? ⟨b, off + at_ * 3 + t, none⟩).isSome = true ∧ w.drew.frozen? ⟨b, off + at_ * 3 + t, none⟩ = false) := by
    intro t ht
    rw [hn] at ht
    have := hcell (at_ * 3 + t) (by omega)
    rw [Nat.add_assoc]; exact this
  obtain ⟨W1, hW1⟩ : ∃ W1, W1 = w.drew.setCells b (off + at_ * 3) news := ⟨_, rfl⟩
  have hcl : ∀ ty, (Builtin.clear_ #[22] ty #[.slice (some ⟨b, off + (at_ + (n - j)) * 3, none⟩) (n - (at_ + (n - j))) (c - (at_ + (n - j)))]).run Try.prog W1 = .ok (.tuple #[]) (W1.setCells b (off + (n - 1) * 3) zDP) := fun ty => by
    rw [show at_ + (n - j) = n - 1 by omega, show n - (n - 1) = 1 by omega]
    refine run_clear_one Try.prog W1 22 30 ty _ zDP t22 v30 (by kernel_rfl) (by decide) b _ _ ?_ ?_
    · intro t ht
      have ht : t < 3 := ht
      rw [hW1, World.cell?_setCells_out b news (off + at_ * 3) w.drew ⟨b, off + (n - 1) * 3 + t, none⟩ (fun _ _ => Or.inr (by rw [hn]; dsimp only; omega)), Nat.add_assoc]
      exact (hcell ((n - 1) * 3 + t) (by omega)).1
    · intro t ht
      have ht : t < 3 := ht
      rw [hW1, World.frozen?_setCells, Nat.add_assoc]
      exact (hcell ((n - 1) * 3 + t) (by omega)).2
  have hW : Hid (W1 = w.drew.setCells b (off + at_ * 3) news) := hW1
  have hic : at_ ≤ c := by omega
  have hjc : j ≤ c := by omega
  have hjn : j ≤ n := by omega
  have hne : at_ ≠ j := by omega
  have hlt : at_ ≤ j := by omega
  have hjH : Hid (j = at_ + 1) := hj
  clear hW1 hnews hn hcell h1 hj
  go_enter Try.func29, Try.ntmps29
  go_wp2_with fail
  go_region_law_o (refine step_append_room rfl (.tmp 22) (.tmp 25) 22 rfl 30 i0 3 t22 hi0 hz1 b off at_ c (by simp [Act.eval, Act.put]) A (n - j) (c - j) news (by simp [Act.eval, Act.put]) s1.out hsrc.out s2.out (by omega) s3.out ?_; rw [← hW.out])
  go_wp2
  go_ret
  exact ⟨by rw [show n - 1 = at_ + (n - j) by have := hjH.out; omega]; rfl, by rw [hW.out]⟩
end Go.WbW
