/- Proved: what turn.Sort hands out for fewer than sixty-four directions: the places in order; no other condition. -/
import Derived.Test.YtojdmloimmcacaaV0
import Derived.Test.YtojdmloimmcacaaV28
import Derived.Shelf.Abstract
import Derived.RangeFuncBox
namespace Go.Proofs.Ytojdmloimmcacaa.TS
open Go.RowKit Go.Sort Go.Proofs.YtojdmloimmcacaaW.PrintWords Go.Proofs.YtojdmloimmcacaaW.PrintLast Go.Proofs.YtojdmloimmcacaaW.PrintMore
open PTurnSorts
set_option linter.unusedVariables false
set_option linter.unusedSimpArgs false
/-- The places 0, 1, .. -/
def iota (n : Nat) : Array Int := (Array.range n).map Int.ofNat
theorem iota_size (n : Nat) : (iota n).size = n := by simp [iota]
theorem iota_get (n k : Nat) (h : k < n) : (iota n)[k]! = (k : Int) := by simp [iota, h]
/-- The places in order. -/
def sorted (xs : List S36) : Array Int := Sort.insertionSort (ltc (cfl xs)) (iota xs.length) 0 xs.length
theorem madeCells_ints (n : Nat) : madeCells #[.int .i64 0] n = (Array.replicate n (0 : Int)).map (Value.int .i64) := by
  apply Array.ext
  · simp [madeCells]
  · intro k h1 h2
    simp [madeCells, Nat.mod_one]
theorem ext_iota {d : Array Int} {n : Nat} (hs : d.size = n) (h : ∀ k, k < n → d[k]! = (k : Int)) : d = iota n := by
  apply Array.ext
  · rw [iota_size, hs]
  · intro k h1 h2
    have := h k (by omega)
    simp [h1] at this
    rw [this]
    simp [iota]
set_option maxHeartbeats 4000000 in
set_option maxRecDepth 100000 in
theorem Sort_walk (w0 : World) (A : Option Addr) (xs : List S36) (c : Nat) (hC : Kd.C k36 w0 A xs.length xs) (hcmp : ∀ a b : S36, turn_Cmp.f 20 a.f0 a.f1 b.f0 b.f1 = some (cmpv a b)) (h20 : xs.length < 64) :
    Calls Try.prog 9 #[.slice A xs.length c] w0 fun e w' => ∃ blk, e = .returned (.slice (some ⟨blk, 0, none⟩) xs.length xs.length) ∧ Below w0.heap.size w0 w' ∧ w0.heap.size ≤ blk ∧ w'.heap[blk]? = some (.cells ((sorted xs).map (Value.int .i64)) 3 (0, 0)) ∧ (sorted xs).size = xs.length ∧ ∀ i, i < xs.length → 0 ≤ (sorted xs)[i]! ∧ (sorted xs)[i]! < (xs.length : Int) := by
  have u29 := Try.underlying29
  have hmk := print_make_of (P := Try.prog) 29 3 (.int .i64 0) 8 Try.underlying29 info3 rfl (by decide) xs.length (by omega)
  have HL := Aside0.mk h20
  have hI : ∀ gb w w', Fr w0 gb A xs.length c w → Below w.heap.size w w' → Fr w0 gb A xs.length c w' := fun gb w w' h hb => by
    have hlt : gb < w.heap.size := by
      rcases Nat.lt_or_ge gb w.heap.size with h1 | h1
      · exact h1
      · have := h.2; rw [Array.getElem?_eq_none h1] at this; cases this
    exact ⟨h.1.trans (hb.mono h.1.size), (hb.block gb hlt).trans h.2⟩
  have hI2 : ∀ gb blk, w0.heap.size ≤ blk → gb ≠ blk → ∀ w (a : Addr) v, a.block = blk → Fr w0 gb A xs.length c w → Fr w0 gb A xs.length c (w.setCell a v) := fun gb blk h1 h2 w a v ha h =>
    ⟨h.1.setCell (by omega) v, (Below.heap_setCell w a v gb (by omega)).trans h.2⟩
  have eg : ∀ args w, (callFunc 19 args).run Try.prog w = .ok (.enter 19 args) w := enters_of Try.func19 (by kernel_rfl) rfl
  have HSORT : Aside0 (∀ gb blk w, w0.heap.size ≤ blk → gb ≠ blk → SX (Fr w0 gb A xs.length c) blk (iota xs.length) w → Calls Try.prog 18 #[.slice (some ⟨blk, 0, none⟩) xs.length xs.length, .func (.func 19) #[] #[.pointer (some ⟨gb, 0, none⟩)]] w fun e w' => e = .returned (.tuple #[]) ∧ SX (Fr w0 gb A xs.length c) blk (sorted xs) w') := ⟨fun gb blk w h1 h2 S =>
    sort_any (I := Fr w0 gb A xs.length c) (blk := blk) 19 #[.pointer (some ⟨gb, 0, none⟩)] (cfl xs) (cfl_pre xs) (hI gb) (hI2 gb blk h1 h2) eg (fun x => 0 ≤ x ∧ x < (xs.length : Int))
      (fun w x y hF hx hy => clos_walk w0 A xs c gb hC hcmp w x y hF hx hy) xs.length w (fun i hi => by rw [TP.iota_get _ _ hi]; exact ⟨by omega, by omega⟩) S (by omega)⟩
  have HI := Aside0.mk hI
  have HI2 := Aside0.mk hI2
  clear hI hI2 eg hcmp h20
  have hC' := Aside0.mk hC
  clear hC
  go_enter Try.func9, Try.ntmps9
  go_wp2_with fail
  have hlt := HL.out
  go_loopg [10] xs.length (fun gk vi wr => ∃ (i : Nat) (dk : Array Int), vi = .int .i64 i ∧ i ≤ xs.length ∧ xs.length - i ≤ gk ∧ dk.size = xs.length ∧ Aside0 (∀ k, k < i → dk[k]! = (k : Int)) ∧ Aside0 (SX (Fr w0 w0.heap.size A xs.length c) (w0.heap.size + 1) dk wr))
  case atStart =>
    refine ⟨0, Array.replicate xs.length 0, rfl, by omega, by omega, by simp, ⟨fun k hk => absurd hk (by omega)⟩, ⟨⟨?_, ?_⟩, ?_⟩⟩
    · exact ((Below.refl _ w0).alloc (Nat.le_refl _) _).alloc (by simp) _
    · exact (Below.heap_alloc _ _ _ (by simp)).trans (World.alloc_heap_new w0 _)
    · have := World.alloc_heap_new (w0.alloc (.cells #[.slice A xs.length c] 24)) (.cells (madeCells #[.int .i64 0] xs.length) 3)
      rw [World.size_alloc] at this
      rw [this, madeCells_ints]
  case round =>
    obtain ⟨i, dk, rfl, hi, hg, hs, HD, S⟩ := hrel
    by_cases hin : i < xs.length
    · have hz : (i : Int) < (xs.length : Int) := by omega
      have p1 : (0 : Int) ≤ (i : Int) := by omega
      have c1 := S.out.c1 i (by omega)
      have f1 := S.out.f1 i
      have S2 : Aside0 (SX (Fr w0 w0.heap.size A xs.length c) (w0.heap.size + 1) (dk.setIfInBounds i (i : Int)) (wr.setCell ⟨w0.heap.size + 1, i, none⟩ (.int .i64 (i : Int)))) :=
        ⟨S.out.set (HI2.out _ _ (by omega) (by omega)) i (i : Int)⟩
      clear S
      go_wp2
      go_roundg (xs.length - (i + 1))
      case measure => omega
      case rel =>
        refine ⟨i + 1, dk.setIfInBounds i (i : Int), by go_num, by omega, by omega, by simp [hs], ⟨fun k hk => ?_⟩, S2⟩
        by_cases e : k = i
        · subst e; simp [hs, hin]
        · have := HD.out k (by omega)
          have hk2 : k < dk.size := by omega
          simp [hk2, Ne.symm e] at this ⊢
          exact this
    · have hz : ¬ (i : Int) < (xs.length : Int) := by omega
      have e : dk = iota xs.length := ext_iota hs (fun k hk => HD.out k (by omega))
      subst e
      have HS := Aside0.mk (HSORT.out w0.heap.size (w0.heap.size + 1) wr (by omega) (by omega) S.out)
      clear HSORT HD S HI HI2 hmk
      go_wp2_with (go_at_call 18; refine HS.out.mono ?_; rintro e w1 ⟨rfl, hs1⟩; have HS2 := Aside0.mk hs1; clear hs1)
      go_ret
      have h2 := HS2.out
      have h3 := TP.sorts_keep (ltc (cfl xs)) xs.length
      exact ⟨w0.heap.size + 1, rfl, h2.fr.1, by omega, h2.row, h3.1, h3.2⟩
end Go.Proofs.Ytojdmloimmcacaa.TS
