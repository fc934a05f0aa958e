/- Proved: the second form of the row of PackParts, over its walk and its plain law; where what it reads is of bulk at most 1048576. -/
import Derived.Test.YtgjgandkcmjbnaaRows
import Derived.Test.YtgjgandkcmjbnaaPureP
import Derived.WalkKit
import Derived.ProofKit
import Derived.OpenShut
import Derived.ShutString
import Derived.ChangeOld
import Derived.Below
import Derived.JoinedCond
import Derived.Deep.Matrix
namespace Go.Proofs.Ytgjgandkcmjbnaa.packPartsUpto
open Go.ChangeShapes Go.WideShapes Go.ChangeAt Go.RowKit
open Go.Proofs.YtgjgandkcmjbnaaW.PrintWords Go.Deep
set_option linter.unusedVariables false
theorem own : ownKnob Try.prog.godebug = none := by kernel_rfl
theorem laidOut : laidOutB Try.prog = true := by kernel_rfl
theorem one_le {H : Type} (d : DataW H) : 1 ≤ Rows.uptoBulk d := by
  cases d with
  | lit l => cases l <;> simp [Rows.uptoBulk]
  | nil => simp [Rows.uptoBulk]
  | ptr d => simp [Rows.uptoBulk]
  | slice elems spare => simp [Rows.uptoBulk]
  | agg parts => simp [Rows.uptoBulk]
  | iface t d => simp [Rows.uptoBulk]
  | map entries => simp [Rows.uptoBulk]
  | held h => simp [Rows.uptoBulk]
theorem part_le {H : Type} {d : DataW H} {l : List (DataW H)} (h : d ∈ l) : Rows.uptoBulk d ≤ Rows.uptoBulkAll l := by
  induction l with
  | nil => cases h
  | cons x r ih =>
    simp only [Rows.uptoBulkAll]
    cases List.mem_cons.1 h with
    | inl e => subst e; omega
    | inr e => have := ih e; omega
theorem length_le {H : Type} (l : List (DataW H)) : l.length ≤ Rows.uptoBulkAll l := by
  induction l with
  | nil => simp [Rows.uptoBulkAll]
  | cons x r ih => have := one_le x; simp only [Rows.uptoBulkAll, List.length_cons]; omega
theorem slice_elems {H : Type} (elems spare : List (DataW H)) : Rows.uptoBulkAll elems + 1 ≤ Rows.uptoBulk (.slice elems spare) := by
  simp only [Rows.uptoBulk]
  omega
theorem two_small {H : Type} {a b : DataW H} (hk : Rows.uptoSmall H [a, b] = true) : Rows.uptoBulk a ≤ 1048576 ∧ Rows.uptoBulk b ≤ 1048576 := by
  have h : Rows.uptoBulkAll [a, b] ≤ 1048576 := of_decide_eq_true hk
  simp only [Rows.uptoBulkAll] at h
  omega
theorem ints_small {H : Type} {k : IntKind} {zs : List Int} {r : List (DataW H)} {n : Nat} (h : Rows.uptoBulk (.slice (lits k zs) r) ≤ n) : zs.length ≤ n := by
  have h1 := slice_elems (lits k zs) r
  have h2 := length_le (H := H) (lits k zs)
  have h3 : (lits (H := H) k zs).length = zs.length := by simp [lits]
  omega
/-- What the arguments come to: rows that are read, and their bounds. -/
theorem parts_row {W : World} {a : Addr} {len cap : Nat} {A : Nat → Option Addr} {L C : Nat → Nat} {Z : Nat → List Int} (hl : len ≤ cap) (hm : cap ≤ maxLen)
    (h : ∀ r, r < cap → W.cell? (a.add r) = some (.slice (A r) (L r) (C r)) ∧ L r ≤ C r ∧ C r ≤ maxLen ∧ (Z r).length = C r ∧ (∀ n ∈ Z r, (Lit.int .u8 n).wf = true) ∧ (A r = none → C r = 0) ∧
        ∀ a', A r = some a' → 0 ≤ a'.block ∧ ∀ c, c < C r → W.cell? (a'.add c) = some (.int .u8 ((Z r).getD c 0))) :
    Kd.C (Kd.slice 5 (Kd.int .u8)) W (some a) ((List.range len).map fun r => (Z r).take (L r)).length ((List.range len).map fun r => (Z r).take (L r)) := by
  have hlen : ((List.range len).map fun r => (Z r).take (L r)).length = len := by simp
  refine ⟨rfl, by rw [hlen]; unfold maxLen at hm; omega, fun _ => ⟨a, rfl, fun j p hp => ?_⟩⟩
  have hj : j < len := by have := (List.getElem?_eq_some_iff.1 hp).1; simpa using this
  rw [List.getElem?_map, List.getElem?_range hj] at hp
  obtain rfl : (Z j).take (L j) = p := Option.some.inj hp
  obtain ⟨h1, h2, h3, h4, h5, h6, h7⟩ := h j (by omega)
  have hpl : ((Z j).take (L j)).length = L j := by rw [List.length_take]; omega
  refine ⟨[.slice (A j) (L j) (C j)], rfl, ⟨A j, C j, by rw [hpl], by rw [hpl]; exact h2, rfl, by rw [hpl]; unfold maxLen at h3; omega, fun h0 => ?_⟩, fun i u hu => ?_⟩
  · obtain ⟨a', ha'⟩ : ∃ a', A j = some a' := by
      cases hA : A j with
      | none => have := h6 hA; omega
      | some a' => exact ⟨a', rfl⟩
    refine ⟨a', ha', fun i q hq => ⟨[.int .u8 q], rfl, rfl, fun i' u hu => ?_⟩⟩
    have hi : i < L j := by have := (List.getElem?_eq_some_iff.1 hq).1; omega
    cases i' with
    | zero =>
      simp only [List.getElem?_cons_zero, Option.some.injEq] at hu
      subst hu
      have := (h7 a' ha').2 i (by omega)
      rw [show i * (Kd.int .u8).sz + 0 = i by simp [Kd.int, Kd.scalar], this]
      rw [List.getElem?_take, if_pos hi] at hq
      rw [List.getD_eq_getElem?_getD, hq]
      rfl
    | succ i' => simp at hu
  · cases i with
    | zero =>
      simp only [List.getElem?_cons_zero, Option.some.injEq] at hu
      subst hu
      rw [show j * (Kd.slice 5 (Kd.int .u8)).sz + 0 = j by simp [Kd.slice]]
      exact h1
    | succ i => simp at hu
theorem contract (H : Type) (enc : TypeId × Value → H) (W : World) (base : Nat) (args : Array Value) (ds gs : List (DataW H)) (before : List MemPlace)
    (hval : ∀ (j : Nat) t v, Try.f9.params[j]? = some t → args[j]? = some v → Value.okWide Try.prog W .any base t v)
    (hW : DataW.Whole enc Try.prog Try.f9.params.toList Rows.packPartsSpec.vars false W args.toList ds gs before) (hk : Rows.uptoSmall H (ds ++ gs) = true) :
    Calls Try.prog 9 args W fun e W' => ∃ v, e = .returned v ∧ Rows.packPartsSpec.post enc Try.prog Try.f9 false true false false W args v W' := by
  have hW' := hW
  obtain ⟨p, q, hA0, hV, rfl, hfz, hnd⟩ := hW
  have hA : DataW.TrodAll enc Try.prog W 0 (fun _ => true) true Try.f9.params.toList args.toList ds p := hA0
  rw [Try.params9] at hA hval
  obtain ⟨v0, vs0, d0, ds0, p0, q0, hargs, rfl, rfl, h0, r0⟩ := trodAll_cons hA
  obtain ⟨v1, vs1, d1, ds1, p1, q1, rfl, rfl, rfl, h1, r1⟩ := trodAll_cons r0
  obtain ⟨rfl, rfl, rfl⟩ := trodAll_nil r1
  obtain rfl : args = #[v0, v1] := by cases args; simp_all
  obtain ⟨rfl, rfl⟩ := trodVars_none hV
  obtain ⟨a0, len0, cap0, rfl⟩ := okWide_slice Try.underlying56 (hval 0 56 v0 rfl rfl)
  obtain ⟨a1, len1, cap1, rfl⟩ := okWide_slice Try.underlying22 (hval 1 22 v1 rfl rfl)
  have k0 := h0
  have k1 := h1
  have lt0 : ∀ x ∈ p0, x.block < W.heap.size := by obtain ⟨m, hm⟩ := k0; exact DataW.trod_lt m _ _ _ hm
  have lt1 : ∀ x ∈ p1, x.block < W.heap.size := by obtain ⟨m, hm⟩ := k1; exact DataW.trod_lt m _ _ _ hm
  simp only [List.append_nil] at hk
  obtain ⟨b0, b1⟩ := two_small hk
  obtain ⟨l0, e0, hr0, hc0, hp0⟩ : ∃ l0 : List (List Int), len0 = l0.length ∧ Kd.C (Kd.slice 5 (Kd.int .u8)) W a0 l0.length l0 ∧ l0.length ≤ cap0 ∧ ∀ p ∈ l0, p.length ≤ 140737488351232 := by
    obtain ⟨fuel, hf⟩ := h0
    rcases open_int_rows Try.underlying56 Try.underlying22 Try.underlying5 (by kernel_rfl) (by kernel_rfl) hf with ⟨hcs, _⟩ | ⟨a, len, cap, A, L, C, Z, hcs, _, hl, hm, hx, hrow⟩
    · simp [Value.cells] at hcs
      obtain ⟨rfl, rfl, rfl⟩ := hcs
      exact ⟨[], rfl, Kd.C_nil _ _, Nat.le_refl _, fun p hp => by cases hp⟩
    · simp [Value.cells] at hcs
      obtain ⟨rfl, rfl, rfl⟩ := hcs
      refine ⟨(List.range len0).map fun r => (Z r).take (L r), by simp, parts_row hl hm hrow, by simpa using hl, fun p hp => ?_⟩
      obtain ⟨r, hr, rfl⟩ := List.mem_map.1 hp
      have hr' : r < len0 := List.mem_range.1 hr
      have hd : d0 = .slice ((List.range len0).map fun r => intRow .u8 (A r) (L r) (Z r)) ((List.range (cap0 - len0)).map fun j => intRow .u8 (A (len0 + j)) (L (len0 + j)) (Z (len0 + j))) := congrArg Prod.fst hx
      rw [hd] at b0
      have h2 := slice_elems ((List.range len0).map fun r => intRow (H := H) .u8 (A r) (L r) (Z r)) ((List.range (cap0 - len0)).map fun j => intRow .u8 (A (len0 + j)) (L (len0 + j)) (Z (len0 + j)))
      have h3 := part_le (H := H) (List.mem_map.2 ⟨r, hr, rfl⟩ : intRow (H := H) .u8 (A r) (L r) (Z r) ∈ (List.range len0).map fun r => intRow .u8 (A r) (L r) (Z r))
      have h4 : Rows.uptoBulk (intRow (H := H) .u8 (A r) (L r) (Z r)) ≤ 1048576 := by omega
      cases hA : A r with
      | none =>
        obtain ⟨_, g2, _, g4, _, g6, _⟩ := hrow r (by omega)
        have := g6 hA
        rw [List.length_take]; omega
      | some a' =>
        rw [hA] at h4
        have := ints_small h4
        omega
  obtain ⟨l1, e1, hr1, hm1, hw1, hc1, hb1⟩ : ∃ l1 : List Int, len1 = l1.length ∧ Kd.C (Kd.int .u8) W a1 l1.length l1 ∧ l1.length ≤ maxLen ∧ (∀ x ∈ l1, (Lit.int .u8 x).wf = true) ∧ l1.length ≤ cap1 ∧ l1.length ≤ 1048576 := by
    obtain ⟨fuel, hf⟩ := h1
    rcases open_ints Try.underlying22 Try.underlying5 (by kernel_rfl) hf with ⟨hcs, _⟩ | ⟨x, l, c, zs, hcs, _, hl, hm, hz, hx, hcell, hwz⟩
    · simp [Value.cells] at hcs
      obtain ⟨rfl, rfl, rfl⟩ := hcs
      exact ⟨[], rfl, Kd.C_nil _ _, Nat.zero_le _, (fun _ h => by cases h), Nat.le_refl _, Nat.zero_le _⟩
    · simp [Value.cells] at hcs
      obtain ⟨rfl, rfl, rfl⟩ := hcs
      have hz' : zs.length = cap1 := by simpa using hz
      have hd : d1 = .slice (lits .u8 (zs.take len1)) (lits .u8 (zs.drop len1)) := congrArg Prod.fst hx
      rw [hd] at b1
      have hb := ints_small b1
      obtain ⟨l1, e1, g1, g2, g3, g4⟩ := ReadsInt.ofRowC (k := .u8) (w := W) (a := some x) (len := len1) (cap := cap1) (zs := zs) (.inr ⟨x, rfl, hl, hm, hz', hcell, hwz⟩)
      refine ⟨l1, e1, Kd.C_of_reads (d := (0 : Int)) (h1 := fun _ => rfl) g1, g2, g3, g4, ?_⟩
      rw [List.length_take] at hb
      omega
  subst e0 e1
  refine (PB.terrierlaw1_PackParts.calls 5000000 a0 cap0 l0 a1 cap1 l1 true rfl W hr0 hc0 hr1 hc1 (PB.PackParts_true l0 l1 (PB.bytes_of_wf hw1) hb1 hp0)).mono fun e W' ⟨he, bel⟩ => ?_
  subst he
  exact ⟨_, rfl, _, _, _, [], _, [], hW', trodAll_mk1 (shut_bool Try.underlying4 _), (trodAll_cons_mk (Below.trod laidOut (by kernel_rfl) (of_decide_eq_true (by kernel_rfl)) k0 bel lt0) (trodAll_cons_mk (Below.trod laidOut (by kernel_rfl) (of_decide_eq_true (by kernel_rfl)) k1 bel lt1) trodAll_mk0)), rfl, bel.frame _, fun h => by cases h⟩
set_option maxRecDepth 100000 in
theorem lifted (os : Os) (started : os.Started) (H : Type) (enc : TypeId × Value → H) (F : Stop.Interp) :
    ReturnsInHanded {} Try.checked os 9 .any ((Rows.OpenSpec.upto Rows.packPartsSpec).pre6 enc Try.prog Try.f9 Rows.packPartsUptoRow.domain false) (((Rows.OpenSpec.upto Rows.packPartsSpec).at F).post enc Try.prog Try.f9 false true false false) := by
  refine returnsInHanded_of_cond (C := Try.checked) (s := Rows.OpenSpec.upto Rows.packPartsSpec) (k := Rows.uptoSmall) rfl own started (by kernel_rfl) Try.func9
    (OpenSpec.witness (enc := enc) (C := Try.checked) (s := Rows.OpenSpec.upto Rows.packPartsSpec) (k := Rows.uptoSmall) rfl false ⟨#[], #[.slice none 0 0, .slice none 0 0], []⟩ 8 (by kernel_rfl) (by kernel_rfl) (by kernel_rfl)
      (x := ([.nil, .nil], [], [])) (by kernel_rfl) rfl (by kernel_rfl)) ?_
  intro W base args ds gs before hval hW _ hk _
  exact contract H enc W base args ds gs before hval hW hk
theorem proved : Rows.PackPartsUptoSaid :=
  OpenClaim.holds_of_cond 9 Try.f9 rfl rfl rfl rfl rfl rfl rfl ⟨rfl, rfl, rfl, rfl, rfl⟩ rfl rfl rfl rfl rfl (by kernel_rfl) Try.func9 (by kernel_rfl)
    (of_decide_eq_true (by kernel_rfl)) (by unfold Func.isWrapper; first | (rw [if_pos (by decide +kernel)]; kernel_rfl) | (rw [if_neg (by decide +kernel)]; exact ⟨rfl, rfl⟩))
    (fun os started H enc _ F => lifted os started H enc F)
#print axioms proved
end Go.Proofs.Ytgjgandkcmjbnaa.packPartsUpto
namespace Go.Proofs.Ytgjgandkcmjbnaa
/-- The row, under a short name, for the claim. -/
theorem packParts_holds : Rows.PackPartsUptoSaid := packPartsUpto.proved
end Go.Proofs.Ytgjgandkcmjbnaa
