/- Proved: bytes are sealed as the reference says, open again to themselves, and neither open when one bit is turned nor, cut short, otherwise than the reference says, in the printed functions; for any bytes and any two numbers. -/
import Derived.Test.YtgjgandkcmjbnaaPureS
import Derived.Test.YtgjgandkcmjbnaaWalkPackSeals
namespace Go.Proofs.Ytgjgandkcmjbnaa.Pure
open Go.RowKit Go.Proofs.Ytgjgandkcmjbnaa.PB Go.Proofs.YtgjgandkcmjbnaaW.PrintWords Go.Proofs.YtgjgandkcmjbnaaW.PrintLast
theorem tmod_gt (x m : Int) (hm : 0 < m) : -m < Int.tmod x m := by
  have := Int.tmod_lt_of_pos (-x) hm
  rw [Int.neg_tmod] at this
  omega
theorem ring (x m : Int) (hm : 0 < m) (hm2 : m < 100000) : ∃ n : Nat, Int.tmod (wrap64 ((Int.tmod x m) + m)) m = (n : Int) ∧ (n : Int) < m := by
  have h1 := Int.tmod_lt_of_pos x hm
  have h2 := tmod_gt x m hm
  have e : wrap64 ((Int.tmod x m) + m) = Int.tmod x m + m := by unfold wrap64; omega
  rw [e, Int.tmod_eq_emod_of_nonneg (by omega)]
  exact ⟨((Int.tmod x m + m) % m).toNat, by have := Int.emod_nonneg (Int.tmod x m + m) (b := m) (by omega); omega, by have := Int.emod_lt_of_pos (Int.tmod x m + m) hm; have := Int.emod_nonneg (Int.tmod x m + m) (b := m) (by omega); omega⟩
theorem ring2 (x : Int) (m : Nat) (hm2 : m < 99999) : ∃ n : Nat, Int.tmod (wrap64 ((wrap64 ((Int.tmod x (wrap64 ((m : Int) + 1))) + (m : Int))) + 1)) (wrap64 ((m : Int) + 1)) = (n : Int) ∧ n ≤ m ∧ wrap64 ((m : Int) + 1) ≠ 0 := by
  have e0 : wrap64 ((m : Int) + 1) = (m : Int) + 1 := by unfold wrap64; omega
  rw [e0]
  have h1 := Int.tmod_lt_of_pos x (b := (m : Int) + 1) (by omega)
  have h2 := tmod_gt x ((m : Int) + 1) (by omega)
  generalize hg : Int.tmod x ((m : Int) + 1) = g at *
  have ei : wrap64 (g + (m : Int)) = g + (m : Int) := by unfold wrap64; omega
  have e : wrap64 ((wrap64 (g + (m : Int))) + 1) = wrap64 (g + ((m : Int) + 1)) := by
    rw [ei, Int.add_assoc]
  rw [e, ← hg]
  obtain ⟨n, hn, hn2⟩ := ring x ((m : Int) + 1) (by omega) (by omega)
  exact ⟨n, hn, by omega, by omega⟩
theorem turned (x : Int) (h0 : 0 ≤ x) (h1 : x < 256) (c : Nat) (hc : c < 8) : ∃ y : Int, Go.bits .xor .u8 x (shl .u8 1 (c : Int)) = y ∧ 0 ≤ y ∧ y < 256 ∧ y ≠ x := by
  have hs : ∀ c : Fin 8, 0 < (shl .u8 1 ((c.1 : Nat) : Int)) ∧ shl .u8 1 ((c.1 : Nat) : Int) < 256 := by decide
  have h2 := hs ⟨c, hc⟩
  simp only at h2
  obtain ⟨v, hv⟩ := Int.eq_ofNat_of_zero_le (a := shl .u8 1 (c : Int)) (by omega)
  obtain ⟨n, rfl⟩ := Int.eq_ofNat_of_zero_le h0
  refine ⟨_, rfl, ?_⟩
  rw [hv] at h2 ⊢
  rw [u8_xor_nat n v (by omega) (by omega)]
  have h3 : n ^^^ v < 2 ^ 8 := Nat.xor_lt_two_pow (by omega) (by omega)
  refine ⟨by omega, by omega, fun h => ?_⟩
  have h4 : n ^^^ v = n ^^^ 0 := by rw [Nat.xor_zero]; omega
  have := Crc.xor_left_inj h4
  omega
theorem f1 (q L : Nat) (h : (q : Int) < 8 * (L : Int)) : q / 8 < L ∧ ((q / 8 : Nat) : Int) < (L : Int) := by omega
theorem f2 (q : Nat) (h : q < 100000) : wrap64 (Int.tdiv (q : Int) 8) = ((q / 8 : Nat) : Int) := by
  rw [Int.tdiv_eq_ediv_of_nonneg (by omega)]; unfold wrap64; omega
theorem f3 (q : Nat) : Int.tmod (q : Int) 8 = ((q % 8 : Nat) : Int) := by
  rw [Int.tmod_eq_emod_of_nonneg (by omega)]; omega
theorem f4 (L : Nat) (h : L ≤ 2004) : wrap64 (8 * (L : Int)) = 8 * (L : Int) := by unfold wrap64; omega
theorem f5 (q L : Nat) (h : (q : Int) < 8 * (L : Int)) (hL : L ≤ 2004) : q < 100000 := by omega
theorem last (S : List Int) (hS : Bytes S) (l : List Int) (hb : Bytes l) (hl : l.length ≤ 2000) (hSl : S = sl l) (a b : Int) (m : Nat) (hm : 29998 ≤ m) : terrierlaw1_PackSeals.j1 (m + 1) a b S false = some true := by
  have hL : S.length = l.length + 4 := by rw [hSl, sl_len]
  obtain ⟨L, hLL⟩ : ∃ L, L = S.length := ⟨_, rfl⟩
  have hL4 : 4 ≤ L ∧ L ≤ 2004 := by omega
  obtain ⟨q, hq, hq2⟩ := ring a (8 * (L : Int)) (by omega) (by omega)
  obtain ⟨n, hn, hn2, hn3⟩ := ring2 b L (by omega)
  have hi : q / 8 < S.length := hLL ▸ (f1 q L hq2).1
  have hr : 0 ≤ rd S ((q / 8 : Nat) : Int) ∧ rd S ((q / 8 : Nat) : Int) < 256 := by
    unfold rd
    rw [Int.toNat_natCast, List.getD_eq_getElem?_getD, List.getElem?_eq_getElem hi, Option.getD_some]
    exact hS _ (List.getElem_mem hi)
  obtain ⟨y, hy, y0, y1, yne⟩ := turned _ hr.1 hr.2 (q % 8) (Nat.mod_lt _ (by decide))
  have hT : Bytes (S.set (q / 8) y) := fun x hx => by
    rcases List.mem_or_eq_of_mem_set hx with h' | h'
    · exact hS x h'
    · subst h'; exact ⟨y0, y1⟩
  have ht : (S.take n).length ≤ 2004 := by rw [List.length_take]; omega
  have hop := op_turn l hb (q / 8) (hL ▸ hi) y y0 y1 (hSl ▸ yne)
  rw [← hSl] at hop
  have h1 : pack_Open.f m (S.set (q / 8) y) = some (([] : List Int), 3) := by
    rw [open_eq _ hT _ (by rw [List.length_set]; omega) (by rw [List.length_set]; omega), hop]
  have h2 := open_eq _ (hS.take n) m (by omega) (by omega)
  have h3 := ropen_eq _ (hS.take n) m (by omega) (by omega)
  have h4 := awake_eq m (by omega)
  have e8 := f4 L hL4.2
  have e9 := f2 q (f5 q L hq2 hL4.2)
  have e10 := f3 q
  have g0 : ([] : List Int).length + S.length < 140737488355328 := by rw [List.length_nil, Nat.zero_add, ← hLL]; exact Nat.lt_of_le_of_lt hL4.2 (by decide)
  have g1 : ¬ (8 * (L : Int)) = 0 := by clear hq hn hn2 hq2 e8 e9 e10 hy y0 y1 yne hr; omega
  have g2 : (0 : Int) ≤ ((q / 8 : Nat) : Int) := Int.natCast_nonneg _
  have g3 : ((q / 8 : Nat) : Int) < (L : Int) := (f1 q L hq2).2
  have g4 : (0 : Int) ≤ ((q % 8 : Nat) : Int) := Int.natCast_nonneg _
  have g5 : (0 : Int) ≤ (n : Int) := Int.natCast_nonneg _
  have g6 : (n : Int) ≤ (L : Int) := Int.ofNat_le.2 hn2
  clear hq2 hn2 hop ht hT hr hi hL4 hL
  rw [terrierlaw1_PackSeals.j1, if_neg (by simp)]
  rw [Option.bind_some, if_pos g0, Option.bind_some, List.nil_append]
  rw [← hLL, e8, hq, e9, e10, hn, hy, Int.toNat_natCast, Int.toNat_natCast]
  rw [if_neg g1, if_pos g2, if_pos g3, if_pos g4, h1]
  rw [Option.bind_some, if_neg hn3, if_pos g5, if_pos g6, h2, Option.bind_some, h3, Option.bind_some]
  rw [if_pos rfl, if_pos rfl, if_pos rfl, h4]
  rfl
theorem PackSeals : terrierlaw1_PackSeals.Pure := by
  intro l a b _ _ w _ _
  have hb := bytes_of_wf w
  have key : ∀ m : Nat, 29998 ≤ m → terrierlaw1_PackSeals.f (m + 1 + 1) l a b = some true := ?_
  · exact ⟨_, key 29998 (Nat.le_refl _)⟩
  intro m hm
  unfold terrierlaw1_PackSeals.f
  by_cases h : (l.length : Int) > 2000
  · rw [if_pos h, awake_eq (m + 1 + 1) (by omega)]; rfl
  · have hS := sl_bytes hb
    have hL := sl_len l
    have h1 := seal_eq l hb (m + 1 + 1) (by omega) (by omega)
    have h2 := rseal_eq l hb (m + 1 + 1) (by omega) (by omega)
    have h3 := crc_eq l hb (m + 1 + 1) (by omega) (by omega)
    have h4 := rcrc_eq l hb (m + 1 + 1) (by omega) (by omega)
    have h5 := open_eq _ hS (m + 1) (by omega) (by omega)
    have h6 := last (sl l) hS l hb (by omega) rfl a b m hm
    rw [op_sl] at h5
    rw [if_neg h, h1, h2]
    simp only [Option.bind_some, if_true]
    rw [h3, h4]
    simp only [Option.bind_some]
    rw [terrierlaw1_PackSeals.j0, if_neg (by simp), h5]
    simp only [Option.bind_some, if_true]
    rw [← h6]
    congr 1
    simp
end Go.Proofs.Ytgjgandkcmjbnaa.Pure
