/- An argument that is a slice of words, opened and shut again. No condition but those written. -/
import Derived.Test.YtogdiobbjlpmoaaDoorLaid
import Derived.Test.YtogdiobbjlpmoaaDoorNatsA
import Derived.ChangeSlices
import Derived.OpenShut
namespace Go.Proofs.YtogdiobbjlpmoaaDoor
open Go Go.RowKit Cal

open Go.ChangeShapes Go.WideShapes Go.ChangeAt
theorem cells22 : Tryd.prog.cellsOf 22 = 1 := by kernel_rfl
theorem u64_word {a : Int} (h : (Lit.int .u64 a).wf = true) : ∃ n : Nat, a = n ∧ n < 18446744073709551616 := by
  have h2 := bounds_u64 h
  exact ⟨a.toNat, by omega, by omega⟩
section
variable {H : Type} {enc : TypeId × Value → H}
set_option maxRecDepth 100000 in
theorem open_nat {W : World} {v : Value} {d : DataW H} {p : List MemPlace} (hval : Value.okWide Tryd.prog W .any 0 47 v) (h0 : DataW.Trod enc Tryd.prog W 0 (fun _ => true) true 47 v d p) :
    ∃ A len cap m, v = .slice A len cap ∧ NatV W (.slice A len cap) len m ∧ (A = none → cap = 0) ∧
      ∀ (W' : World) (sp : Nat → Bool), Below W.heap.size W W' → (∀ x ∈ p, sp x.block = true) → DataW.Trod enc Tryd.prog W' 0 sp true 47 v d p := by
  obtain ⟨a0, len, cap, rfl⟩ := okWide_slice Tryd.underlying47 hval
  obtain ⟨fuel, hf⟩ := h0
  rcases open_ints Tryd.underlying47 Tryd.underlying22 cells22 hf with ⟨hcs, hx⟩ | ⟨a, len', cap', zs, hcs, _, hl, hm, hz, hx, hcell, hwz⟩
  · simp [Value.cells] at hcs
    obtain ⟨rfl, rfl, rfl⟩ := hcs
    simp only [Prod.mk.injEq] at hx
    obtain ⟨rfl, rfl⟩ := hx
    exact ⟨none, 0, 0, 0, rfl, NatV.none_ W none 0 (by decide), fun _ => rfl, fun W' sp _ _ => shut_slice_nil Tryd.underlying47⟩
  · simp [Value.cells] at hcs
    obtain ⟨rfl, rfl, rfl⟩ := hcs
    simp only [Prod.mk.injEq] at hx
    obtain ⟨rfl, rfl⟩ := hx
    simp only [if_true] at hz
    have hnat : ∀ i, ∃ k : Nat, k < 18446744073709551616 ∧ (i < len → zs.getD i 0 = (k : Int)) := by
      intro i
      by_cases hi : i < zs.length
      · have hmem : zs.getD i 0 ∈ zs := by
          have e : zs.getD i 0 = zs[i] := by simp [List.getD, hi]
          rw [e]
          exact List.getElem_mem hi
        obtain ⟨k, hk, hlt⟩ := u64_word (hwz _ hmem)
        exact ⟨k, hlt, fun _ => hk⟩
      · exact ⟨0, by decide, fun h => absurd h (by omega)⟩
    have hf2 := fun i => Classical.choose_spec (hnat i)
    obtain ⟨m, hm1, hm2⟩ := words_number (fun i => Classical.choose (hnat i)) len (fun i _ => (hf2 i).1)
    have hblk : 0 < zs.length → a.block < W.heap.size ∧ a.spot = none := fun h => by
      have h0 := hcell 0 h
      exact ⟨by have := World.block_lt_of_cell? W _ h0; simpa [block_add] using this, by simpa [Addr.add] using World.cell?_spot h0⟩
    refine ⟨some a, len, cap, m, rfl, ⟨hm1, some a, cap, rfl, hl, hm, fun h0 => ?_⟩, (by intro h; cases h), fun W' sp hb hsp => ?_⟩
    · obtain ⟨b, off, spot⟩ := a
      obtain ⟨h1, h2⟩ := hblk (by omega)
      have h2' : spot = none := h2
      subst h2'
      refine ⟨b, off, rfl, h1, fun i hi => ?_⟩
      have hc := hcell i (by omega)
      rw [add_plain] at hc
      rw [hc, (hf2 i).2 hi]
      have := hm2 i hi
      rw [this]
    · by_cases hz0 : zs.length = 0
      · have hc0 : cap = 0 := by omega
        have hl0 : len = 0 := by omega
        subst hc0; subst hl0
        have t0 := shut_ints (enc := enc) (w := W') (base := 0) (spare := sp) (held := true) (a := a) (len := 0) (cap := 0) (zs := zs) 0 Tryd.underlying47 Tryd.underlying22 cells22 (Nat.zero_le _) (Nat.le_refl _) hm (by simp [hz0]) (fun i hi => absurd hi (by omega)) hwz
        exact ⟨2, by simpa [Value.cells] using t0⟩
      · have hspb : sp a.block = true := by
          have := hsp (.cell a.block a.off) (MemPlace.mem_row.2 ⟨0, by omega, by simp⟩)
          exact this
        have hcell' : ∀ i, i < zs.length → W'.cell? (a.add i) = some (.int .u64 (zs.getD i 0)) := fun i hi => by
          have h1 : (a.add i).block < W.heap.size := by rw [block_add]; exact (hblk (by omega)).1
          exact (Below.cell hb h1).trans (hcell i hi)
        have t0 := shut_ints (enc := enc) (w := W') (base := 0) (spare := sp) (held := true) (a := a) (len := len) (cap := cap) (zs := zs) 0 Tryd.underlying47 Tryd.underlying22 cells22 (Nat.zero_le _) hl hm (by simp [hspb, hz]) hcell' hwz
        exact ⟨2, by simpa [Value.cells] using t0⟩
end
end Go.Proofs.YtogdiobbjlpmoaaDoor

