/- Proved: parts that are joined are parted again, and any bytes are parted as the reference parts them, in the printed functions; for at most 1048576 bytes. -/
import Derived.Test.YtgjgandkcmjbnaaPureS
import Derived.Test.YtgjgandkcmjbnaaWalkPackParts
namespace Go.Proofs.Ytgjgandkcmjbnaa.PB
open Go.RowKit Go.Proofs.YtgjgandkcmjbnaaW.PrintWords Go.Proofs.YtgjgandkcmjbnaaW.PrintLast Go.Proofs.YtgjgandkcmjbnaaW.PrintMore
theorem vr_n (l : List Int) (n : Nat) : ∀ (i : Nat) (x : Int), (vr l n i x).2.2 = 0 → (i : Int) < (vr l n i x).2.1 ∧ (vr l n i x).2.1 ≤ l.length := by
  induction n with
  | zero => intro i x h; simp [vr] at h
  | succ n ih =>
    intro i x
    unfold vr
    (repeat' split)
    · intro h; simp at h
    · intro h; simp at h
    · intro h; have := ih (i + 1) _ h; omega
    · intro h; simp at h
    · intro _; simp only; omega
/-- The parts of bytes, in plain words. -/
def sp : Nat → List Int → List (List Int) → List (List Int) × Int
  | 0, _, o => (o, 0)
  | n + 1, x, o =>
    if x.length = 0 then (o, 0)
    else if (vr x 10 0 0).2.2 = 0 then
      (if (vr x 10 0 0).1 > (x.length : Int) - (vr x 10 0 0).2.1 then ([], 4)
       else sp n ((x.drop (vr x 10 0 0).2.1.toNat).drop (vr x 10 0 0).1.toNat) (o ++ [(x.drop (vr x 10 0 0).2.1.toNat).take (vr x 10 0 0).1.toNat]))
    else ([], (vr x 10 0 0).2.2)
theorem split_go (d : Nat) : ∀ (k : Nat) (x : List Int) (o : List (List Int)), x.length ≤ d → d + 22 ≤ k → o.length + d < 5864062014805 → d < 140737488355328 → pack_Split.go k x o = some (sp (d + 1) x o) := by
  induction d with
  | zero =>
    intro k x o hx hk _ _
    obtain ⟨k, rfl⟩ : ∃ j, k = j + 1 := ⟨k - 1, by omega⟩
    rw [pack_Split.go, if_neg (by omega), sp, if_pos (by omega)]
  | succ d ih =>
    intro k x o hx hk ho hd
    obtain ⟨k, rfl⟩ : ∃ j, k = j + 1 := ⟨k - 1, by omega⟩
    by_cases h0 : x.length = 0
    · rw [pack_Split.go, if_neg (by omega), sp, if_pos h0]
    · have hv := vr_u64 x 10 0 0
      have hn := vr_n x 10 0 0
      rw [pack_Split.go, if_pos (by omega), if_pos ⟨by omega, by omega⟩, var_eq x k (by omega), Option.bind_some, sp, if_neg h0]
      generalize vr x 10 0 0 = t at *
      obtain ⟨v, n, e⟩ := t
      simp only at *
      by_cases he : e = 0
      · subst he
        obtain ⟨hn1, hn2⟩ := hn rfl
        have ew : IntKind.u64.wrap (wrap64 ((x.length : Int) - n)) = (x.length : Int) - n := by rw [IntKind.wrap_u64]; unfold wrap64; omega
        rw [if_pos rfl, if_pos rfl, ew]
        by_cases hb : v > (x.length : Int) - n
        · rw [if_pos hb, if_pos hb]
        · have hl : ((x.drop n.toNat).length : Int) = (x.length : Int) - n := by rw [List.length_drop]; omega
          rw [if_neg hb, if_neg hb, if_pos (by omega), if_pos hn2, if_pos hv.1, if_pos (by omega)]
          refine ih k _ _ ?_ (by omega) (by rw [List.length_append]; simp; omega) (by omega)
          rw [List.length_drop, List.length_drop]; omega
      · rw [if_neg he, if_neg he]
theorem str_cut (l : List Int) (a b : Nat) : (strOfNums l).extract a b = strOfNums ((l.take b).drop a) := by
  apply ByteArray.ext
  simp [strOfNums, List.map_take, List.map_drop, List.drop_take]
theorem rsplit_l0 (d : Nat) : ∀ (k : Nat) (x : List Int) (o : List (List Int)), Bytes x → x.length ≤ d → d + 22 ≤ k → o.length + d < 5864062014805 → d < 140737488355328 →
    terrierref1_Split.l0 k (strOfNums x) (o.map strOfNums) = some ((sp (d + 1) x o).1.map strOfNums, (sp (d + 1) x o).2) := by
  induction d with
  | zero =>
    intro k x o _ hx hk _ _
    obtain ⟨k, rfl⟩ : ∃ j, k = j + 1 := ⟨k - 1, by omega⟩
    rw [terrierref1_Split.l0, strOfNums_size, if_neg (by omega), sp, if_pos (by omega)]
  | succ d ih =>
    intro k x o hbx hx hk ho hd
    obtain ⟨k, rfl⟩ : ∃ j, k = j + 1 := ⟨k - 1, by omega⟩
    by_cases h0 : x.length = 0
    · rw [terrierref1_Split.l0, strOfNums_size, if_neg (by omega), sp, if_pos h0]
    · have hv := vr_u64 x 10 0 0
      have hn := vr_n x 10 0 0
      rw [terrierref1_Split.l0, strOfNums_size, if_pos (by omega), rvar_eq hbx k (by omega), Option.bind_some, sp, if_neg h0]
      generalize vr x 10 0 0 = t at *
      obtain ⟨v, n, e⟩ := t
      simp only at *
      by_cases he : e = 0
      · subst he
        obtain ⟨hn1, hn2⟩ := hn rfl
        have ew : IntKind.u64.wrap (wrap64 ((x.length : Int) - n)) = (x.length : Int) - n := by rw [IntKind.wrap_u64]; unfold wrap64; omega
        rw [if_pos rfl, if_pos rfl, ew]
        by_cases hb : v > (x.length : Int) - n
        · rw [if_pos hb, if_pos hb]
          rfl
        · have e1 : wrap64 v = v := by unfold wrap64; omega
          have e2 : wrap64 (n + v) = n + v := by unfold wrap64; omega
          rw [if_neg hb, if_neg hb, e1, e2, if_pos (by omega), if_pos (by omega), if_pos (by omega), if_pos (by rw [List.length_map]; omega), if_pos (by omega)]
          rw [str_cut, str_cut, List.take_of_length_le (Nat.le_refl _)]
          have f1 : (x.take (n + v).toNat).drop n.toNat = (x.drop n.toNat).take v.toNat := by rw [List.drop_take]; congr 1; omega
          have f2 : x.drop (n + v).toNat = (x.drop n.toNat).drop v.toNat := by rw [List.drop_drop]; congr 1; omega
          have f3 : o.map strOfNums ++ [strOfNums ((x.drop n.toNat).take v.toNat)] = (o ++ [(x.drop n.toNat).take v.toNat]).map strOfNums := by rw [List.map_append]; rfl
          rw [f1, f2, f3]
          refine ih k _ _ ((hbx.drop _).drop _) ?_ (by omega) (by rw [List.length_append]; simp; omega) (by omega)
          rw [List.length_drop, List.length_drop]; omega
      · rw [if_neg he, if_neg he]
        rfl
/-- Parts, joined. -/
def jn (l : List (List Int)) : List Int := l.flatMap fun p => uv p.length ++ p
theorem jn_cons (p : List Int) (l : List (List Int)) : jn (p :: l) = uv p.length ++ (p ++ jn l) := by simp [jn]
theorem jn_append (a b : List (List Int)) : jn (a ++ b) = jn a ++ jn b := by simp [jn]
theorem sp_jn (l : List (List Int)) : ∀ (o : List (List Int)) (d : Nat), (∀ p ∈ l, p.length < 140737488355328) → (jn l).length ≤ d → sp (d + 1) (jn l) o = (o ++ l, 0) := by
  induction l with
  | nil => intro o d _ _; rw [sp, if_pos (show (jn []).length = 0 from rfl), List.append_nil]
  | cons p l ih =>
    intro o d hp hd
    have hpos := uv_pos p.length
    have hlen : (jn (p :: l)).length = (uv p.length).length + (p.length + (jn l).length) := by rw [jn_cons]; simp
    have hpl := hp p List.mem_cons_self
    rw [sp, if_neg (by omega)]
    have hr : vr (jn (p :: l)) 10 0 0 = ((p.length : Int), ((uv p.length).length : Int), 0) := by rw [jn_cons]; exact read_uv _ (by omega) _
    rw [hr]
    simp only [if_true]
    rw [if_neg (by omega), Int.toNat_natCast, Int.toNat_natCast]
    have e1 : (jn (p :: l)).drop (uv p.length).length = p ++ jn l := by rw [jn_cons]; simp
    rw [e1]
    have e2 : (p ++ jn l).take p.length = p := by simp
    have e3 : (p ++ jn l).drop p.length = jn l := by simp
    rw [e2, e3]
    obtain ⟨d, rfl⟩ : ∃ d', d = d' + 1 := ⟨d - 1, by omega⟩
    rw [ih (o ++ [p]) d (fun q hq => hp q (List.mem_cons_of_mem _ hq)) (by omega), List.append_assoc]
    rfl
theorem rdL_at (l : List (List Int)) (i : Nat) (h : i < l.length) : rd_L2 l (i : Int) = l[i] := by
  unfold rd_L2
  rw [Int.toNat_natCast, List.getD_eq_getElem?_getD, List.getElem?_eq_getElem h, Option.getD_some]
theorem rdS_at (l : List (List Int)) (i : Nat) (h : i < l.length) : rdOf ByteArray.empty (l.map strOfNums) (i : Int) = strOfNums l[i] := by
  unfold rdOf
  rw [Int.toNat_natCast, List.getD_eq_getElem?_getD, List.getElem?_map, List.getElem?_eq_getElem h]
  rfl
theorem join_l0 (l : List (List Int)) (hl : (jn l).length < 140737488355328) (rest : List (List Int)) : ∀ (k : Nat) (pre : List (List Int)), l = pre ++ rest → rest.length + 11 ≤ k → pack_Join.l0 k (jn pre) l (l.length : Int) (pre.length : Int) = some (jn l) := by
  induction rest with
  | nil =>
    intro k pre he hk
    obtain ⟨k, rfl⟩ : ∃ j, k = j + 1 := ⟨k - 1, by omega⟩
    rw [List.append_nil] at he
    subst he
    rw [pack_Join.l0, if_neg (by omega)]
  | cons p rest ih =>
    intro k pre he hk
    obtain ⟨k, rfl⟩ : ∃ j, k = j + 1 := ⟨k - 1, by omega⟩
    have hlen : l.length = pre.length + (rest.length + 1) := by rw [he]; simp
    have hj : (jn l).length = (jn pre).length + ((uv p.length).length + (p.length + (jn rest).length)) := by rw [he, jn_append, jn_cons]; simp
    have hat : rd_L2 l (pre.length : Int) = p := by rw [rdL_at l pre.length (by omega)]; simp [he]
    have hkk : rest.length + 1 + 11 ≤ k + 1 := by simpa using hk
    have hll : l.length < 140737488355328 + 140737488355328 := by
      have : pre.length ≤ (jn pre).length := by
        clear ih hat hj hlen he hk hkk
        induction pre with
        | nil => simp
        | cons q pre ih2 => rw [jn_cons]; have := uv_pos q.length; simp; omega
      have : rest.length ≤ (jn rest).length := by
        clear ih hat hj hlen he hk hkk
        induction rest with
        | nil => simp
        | cons q rest ih2 => rw [jn_cons]; have := uv_pos q.length; simp; omega
      omega
    have ew : IntKind.u64.wrap ((p.length : Int)) = ((p.length : Nat) : Int) := by rw [IntKind.wrap_u64]; omega
    have e1 : wrap64 ((pre.length : Int) + 1) = (((pre ++ [p]).length : Nat) : Int) := by rw [List.length_append]; simp; unfold wrap64; omega
    rw [pack_Join.l0, if_pos (by omega), if_pos (by omega), if_pos (by omega), hat, ew, uvar_eq p.length (by omega) k (by omega), Option.bind_some, if_pos (by omega), Option.bind_some, if_pos (by rw [List.length_append]; omega), e1]
    have e2 : jn pre ++ uv p.length ++ p = jn (pre ++ [p]) := by rw [jn_append, jn_cons]; simp [jn]
    rw [e2]
    exact ih k (pre ++ [p]) (by rw [he]; simp) (by omega)
theorem rjoin_l0 (l : List (List Int)) (hl : (jn l).length < 140737488355328) (rest : List (List Int)) : ∀ (k : Nat) (pre : List (List Int)), l = pre ++ rest → rest.length + 11 ≤ k → terrierref1_Join.l0 k (l.map strOfNums) (strOfNums (jn pre)) (pre.length : Int) = some (strOfNums (jn l)) := by
  induction rest with
  | nil =>
    intro k pre he hk
    obtain ⟨k, rfl⟩ : ∃ j, k = j + 1 := ⟨k - 1, by omega⟩
    rw [List.append_nil] at he
    subst he
    rw [terrierref1_Join.l0, if_neg (by rw [List.length_map]; omega)]
  | cons p rest ih =>
    intro k pre he hk
    obtain ⟨k, rfl⟩ : ∃ j, k = j + 1 := ⟨k - 1, by omega⟩
    have hlen : l.length = pre.length + (rest.length + 1) := by rw [he]; simp
    have hj : (jn l).length = (jn pre).length + ((uv p.length).length + (p.length + (jn rest).length)) := by rw [he, jn_append, jn_cons]; simp
    have hat : rdOf ByteArray.empty (l.map strOfNums) (pre.length : Int) = strOfNums p := by rw [rdS_at l pre.length (by omega)]; simp [he]
    have hkk : rest.length + 1 + 11 ≤ k + 1 := by simpa using hk
    have hpl : pre.length ≤ (jn pre).length := by
      clear ih hat hj hlen he hk hkk
      induction pre with
      | nil => simp
      | cons q pre ih2 => rw [jn_cons]; have := uv_pos q.length; simp; omega
    have ew : IntKind.u64.wrap (((strOfNums p).size : Int)) = ((p.length : Nat) : Int) := by rw [strOfNums_size, IntKind.wrap_u64]; omega
    have e1 : wrap64 ((pre.length : Int) + 1) = (((pre ++ [p]).length : Nat) : Int) := by rw [List.length_append]; simp; unfold wrap64; omega
    rw [terrierref1_Join.l0, if_pos (by rw [List.length_map]; omega), if_pos (by omega), hat, ew, ruvar_eq p.length (by omega) k (by omega), Option.bind_some, if_pos (by rw [strOfNums_size, strOfNums_size]; omega), str_append, if_pos (by rw [strOfNums_size, strOfNums_size, List.length_append]; omega), e1, str_append]
    have e2 : jn pre ++ uv p.length ++ p = jn (pre ++ [p]) := by rw [jn_append, jn_cons]; simp [jn]
    rw [e2]
    exact ih k (pre ++ [p]) (by rw [he]; simp) (by omega)
theorem l2_true (l : List (List Int)) (hl : l.length < 4611686018427387904) (d : Nat) : ∀ (k i : Nat), i + d = l.length → 256 + d + 1 ≤ k → terrierlaw1_PackParts.l2 k l (l.map strOfNums) (i : Int) = some true := by
  induction d with
  | zero =>
    intro k i hi hk
    obtain ⟨k, rfl⟩ : ∃ j, k = j + 1 := ⟨k - 1, by omega⟩
    rw [terrierlaw1_PackParts.l2, if_neg (by rw [List.length_map]; omega), awake_eq k (by omega)]
    rfl
  | succ d ih =>
    intro k i hi hk
    obtain ⟨k, rfl⟩ : ∃ j, k = j + 1 := ⟨k - 1, by omega⟩
    have e1 : wrap64 ((i : Int) + 1) = ((i + 1 : Nat) : Int) := by unfold wrap64; omega
    rw [terrierlaw1_PackParts.l2, if_pos (by rw [List.length_map]; omega), if_pos (by omega), if_pos (by omega), rdL_at l i (by omega), rdS_at l i (by omega), if_pos rfl, e1]
    exact ih k (i + 1) (by omega) (by omega)
theorem sp_len (d : Nat) : ∀ (x : List Int) (o : List (List Int)), x.length ≤ d → (sp (d + 1) x o).1.length ≤ o.length + d := by
  induction d with
  | zero => intro x o h; rw [sp, if_pos (by omega)]; exact Nat.le_refl _
  | succ d ih =>
    intro x o h
    have hn := vr_n x 10 0 0
    rw [sp]
    by_cases h0 : x.length = 0
    · rw [if_pos h0]; exact Nat.le_add_right _ _
    · rw [if_neg h0]
      by_cases he : (vr x 10 0 0).2.2 = 0
      · rw [if_pos he]
        by_cases hb : (vr x 10 0 0).1 > (x.length : Int) - (vr x 10 0 0).2.1
        · rw [if_pos hb]; simp
        · rw [if_neg hb]
          have hn2 := hn he
          have := ih ((x.drop (vr x 10 0 0).2.1.toNat).drop (vr x 10 0 0).1.toNat) (o ++ [(x.drop (vr x 10 0 0).2.1.toNat).take (vr x 10 0 0).1.toNat]) (by rw [List.length_drop, List.length_drop]; omega)
          rw [List.length_append] at this
          simp at this ⊢
          omega
      · rw [if_neg he]; simp
theorem l1_true (l : List (List Int)) (b : List Int) (hb : Bytes b) (hbl : b.length ≤ 1048576) (hl : l.length < 4611686018427387904) (d : Nat) : ∀ (k i : Nat), i + d = l.length → 3000000 + d ≤ k → terrierlaw1_PackParts.l1 k b (l.map strOfNums) l (i : Int) = some true := by
  induction d with
  | zero =>
    intro k i hi hk
    obtain ⟨k, rfl⟩ : ∃ j, k = j + 1 + 1 := ⟨k - 2, by omega⟩
    have hs := split_go b.length (k + 1) b [] (Nat.le_refl _) (by omega) (by simp; omega) (by omega)
    have hr := rsplit_l0 b.length (k + 1) b [] hb (Nat.le_refl _) (by omega) (by simp; omega) (by omega)
    have hsl := sp_len b.length b [] (Nat.le_refl _)
    simp only [List.length_nil, Nat.zero_add] at hsl
    rw [terrierlaw1_PackParts.l1, if_neg (by rw [List.length_map]; omega)]
    unfold pack_Split.f terrierref1_Split.f
    rw [hs, Option.bind_some, show ([] : List ByteArray) = ([] : List (List Int)).map strOfNums from rfl, hr, Option.bind_some]
    simp only [if_true]
    rw [List.length_map, bne_self_eq_false, terrierlaw1_PackParts.j3, if_neg (by decide)]
    exact l2_true _ (by omega) (sp (b.length + 1) b []).1.length k 0 (by omega) (by omega)
  | succ d ih =>
    intro k i hi hk
    obtain ⟨k, rfl⟩ : ∃ j, k = j + 1 := ⟨k - 1, by omega⟩
    have e1 : wrap64 ((i : Int) + 1) = ((i + 1 : Nat) : Int) := by unfold wrap64; omega
    rw [terrierlaw1_PackParts.l1, if_pos (by rw [List.length_map]; omega), if_pos (by omega), if_pos (by omega), rdL_at l i (by omega), rdS_at l i (by omega), if_pos rfl, e1]
    exact ih k (i + 1) (by omega) (by omega)
/-- How long the first parts are. -/
def tot (l : List (List Int)) : Nat := (l.map List.length).sum
theorem jn_len (l : List (List Int)) (h : ∀ p ∈ l, p.length < 18446744073709551616) : (jn l).length ≤ tot l + 10 * l.length := by
  induction l with
  | nil => simp [jn]
  | cons p l ih =>
    have := ih (fun q hq => h q (List.mem_cons_of_mem _ hq))
    have h10 := uv_len10 p.length (h p List.mem_cons_self)
    have ht : tot (p :: l) = p.length + tot l := by simp [tot]
    rw [jn_cons, ht]
    simp
    omega
theorem l0_true (l : List (List Int)) (b : List Int) (hb : Bytes b) (hbl : b.length ≤ 1048576) (hp : ∀ p ∈ l, p.length ≤ 140737488351232) (d : Nat) : ∀ (k i : Nat), i + d = 102 → 1 ≤ d → i ≤ l.length → tot (l.take i) ≤ 5000 → 4000000 + d ≤ k →
    terrierlaw1_PackParts.l0 k l b ((l.take i).map strOfNums) (tot (l.take i) : Int) (i : Int) = some true := by
  induction d with
  | zero =>
    intro k i hi h1
    omega
  | succ d ih =>
    intro k i hi _ hil ht hk
    obtain ⟨k, rfl⟩ : ∃ j, k = j + 1 + 1 := ⟨k - 2, by omega⟩
    by_cases hlt : i < l.length
    · have hpl := hp _ (List.getElem_mem hlt)
      have hx : l.take (i + 1) = l.take i ++ [l[i]] := by rw [List.take_succ_eq_append_getElem hlt]
      have htt : tot (l.take (i + 1)) = tot (l.take i) + l[i].length := by rw [hx]; unfold tot; rw [List.map_append, List.sum_append]; simp
      have e0 : wrap64 ((tot (l.take i) : Int) + (l[i].length : Int)) = (tot (l.take (i + 1)) : Int) := by rw [htt, Int.natCast_add]; unfold wrap64; omega
      have e1 : wrap64 ((i : Int) + 1) = ((i + 1 : Nat) : Int) := by unfold wrap64; omega
      rw [terrierlaw1_PackParts.l0, if_pos (by omega), if_pos (by omega), if_pos (by rw [List.length_map, List.length_take]; omega), rdL_at l i hlt, e0]
      by_cases h5 : (tot (l.take (i + 1)) : Int) > 5000
      · rw [if_pos h5, awake_eq (k + 1) (by omega)]; rfl
      · rw [if_neg h5]
        by_cases h6 : (i : Int) > 100
        · rw [if_pos h6, awake_eq (k + 1) (by omega)]; rfl
        · rw [if_neg h6, e1]
          have e3 : (l.take i).map strOfNums ++ [strOfNums l[i]] = (l.take (i + 1)).map strOfNums := by rw [hx, List.map_append]; rfl
          rw [e3]
          exact ih (k + 1) (i + 1) (by omega) (by omega) (by omega) (by omega) (by omega)
    · obtain rfl : i = l.length := by omega
      rw [List.take_length] at ht ⊢
      have hpb : ∀ p ∈ l, p.length < 140737488355328 := fun p hq => by have := hp p hq; omega
      have hj := jn_len l (fun p hq => by have := hp p hq; omega)
      have h1 := join_l0 l (by omega) l (k + 1) [] rfl (by omega)
      have h2 := rjoin_l0 l (by omega) l (k + 1) [] rfl (by omega)
      have h3 := split_go (jn l).length (k + 1) (jn l) [] (Nat.le_refl _) (by omega) (by simp; omega) (by omega)
      rw [sp_jn l [] _ hpb (Nat.le_refl _)] at h3
      rw [terrierlaw1_PackParts.l0, if_neg (by omega)]
      unfold pack_Join.f terrierref1_Join.f pack_Split.f
      rw [show ([] : List Int) = jn [] from rfl, show ((0 : Int)) = (([] : List (List Int)).length : Int) from rfl, h1, Option.bind_some, str_nil, show strOfNums [] = strOfNums (jn []) from rfl, h2, Option.bind_some, if_pos rfl, h3, Option.bind_some]
      simp only [List.nil_append]
      rw [if_pos (show (0 : Int) = (([] : List (List Int)).length : Int) from rfl), List.length_map, bne_self_eq_false, terrierlaw1_PackParts.j1, if_neg (by decide)]
      exact l1_true l b hb hbl (by omega) l.length k 0 (by omega) (by omega)
theorem PackParts_true (l : List (List Int)) (b : List Int) (hb : Bytes b) (hbl : b.length ≤ 1048576) (hp : ∀ p ∈ l, p.length ≤ 140737488351232) : terrierlaw1_PackParts.f 5000000 l b = some true := by
  have := l0_true l b hb hbl hp 102 5000000 0 (by omega) (by omega) (by omega) (by simp [tot]) (by omega)
  unfold terrierlaw1_PackParts.f
  simpa [tot] using this
end Go.Proofs.Ytgjgandkcmjbnaa.PB
