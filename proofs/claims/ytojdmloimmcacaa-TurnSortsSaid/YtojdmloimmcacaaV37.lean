/- Proved: what symMergeCmpFunc of slices does to two rows of ints in order that stand side by side: one row in order; the comparison is a total preorder and tells across. -/
import Derived.Test.YtojdmloimmcacaaV41
namespace Go.Proofs.Ytojdmloimmcacaa.TS
open Go.RowKit Go.Sort Go.Proofs.YtojdmloimmcacaaW.PrintWords Go.Proofs.YtojdmloimmcacaaW.PrintLast Go.Proofs.YtojdmloimmcacaaW.PrintMore
set_option linter.unusedVariables false
set_option linter.unusedSimpArgs false
variable {I : World → Prop} {blk : Nat}
set_option maxHeartbeats 8000000 in
set_option maxRecDepth 1000000 in
theorem sym_walk (g : Nat) (cb : Array Value) (cf : Int → Int → Int) (lt : Int → Int → Bool) (hS : SWO lt) (hI : ∀ w w', I w → Below w.heap.size w w' → I w') (hI2 : ∀ w (a : Addr) v, a.block = blk → I w → I (w.setCell a v))
    (eg : ∀ args w, (callFunc g args).run Try.prog w = .ok (.enter g args) w) (ok : Int → Prop)
    (hc : ∀ (w : World) (x y : Int), I w → ok x → ok y → Calls Try.prog g (#[.int .i64 x, .int .i64 y] ++ cb) w fun e w' => e = .returned (.int .i64 (cf x y)) ∧ Below w.heap.size w w') (N : Nat)
    (IH : ∀ (a m b : Nat) (d : Array Int) (w : World), b - a < N → a < m → m < b → b ≤ d.size → d.size < 1000000 → (∀ i, i < d.size → ok d[i]!) → SX I blk d w → SortedIn lt a m d → SortedIn lt m b d → TP.Acr (ltc cf) lt a m b d →
      Calls Try.prog 37 #[.slice (some ⟨blk, 0, none⟩) d.size d.size, .int .i64 a, .int .i64 m, .int .i64 b, .func (.func g) #[] cb] w fun e w' => e = .returned (.tuple #[]) ∧ ∃ d', SX I blk d' w' ∧ TP.Merged lt a b d d')
    (a m b : Nat) (d : Array Int) (w : World) (hN : b - a ≤ N) (ham : a < m) (hmb : m < b) (hb : b ≤ d.size) (hsz : d.size < 1000000) (hok : ∀ i, i < d.size → ok d[i]!) (S : SX I blk d w) (hl : SortedIn lt a m d) (hr : SortedIn lt m b d) (hac : TP.Acr (ltc cf) lt a m b d) :
    Calls Try.prog 37 #[.slice (some ⟨blk, 0, none⟩) d.size d.size, .int .i64 a, .int .i64 m, .int .i64 b, .func (.func g) #[] cb] w fun e w' => e = .returned (.tuple #[]) ∧ ∃ d', SX I blk d' w' ∧ TP.Merged lt a b d d' := by
  have u29 := Try.underlying29
  have u37 := Try.underlying37
  have HROT : Aside0 (∀ (a m b : Nat) (dk : Array Int) (w : World), SX I blk dk w → a < m → m < b → b ≤ dk.size → dk.size = d.size → Calls Try.prog 40 #[.slice (some ⟨blk, 0, none⟩) d.size d.size, .int .i64 a, .int .i64 m, .int .i64 b, .func (.func g) #[] cb] w fun e w' => e = .returned (.tuple #[]) ∧ ∃ d', SX I blk d' w' ∧ TP.RotR a m b dk d') := ⟨fun a m b dk w S h1 h2 h3 h4 => by
    have := rot_walk g cb hI hI2 a m b dk w S h1 h2 h3 (by omega)
    rw [h4] at this
    exact this⟩
  have HC := Aside0.mk hc
  have HI := Aside0.mk hI
  have HI2 := Aside0.mk hI2
  have HK := Aside0.mk hok
  have S0 := Aside0.mk S
  have HS := Aside0.mk hS
  have HL := Aside0.mk hl
  have HRR := Aside0.mk hr
  have HA := Aside0.mk hac
  have HIH := Aside0.mk IH
  clear S hc hI hI2 hok hS hl hr hac IH
  go_enter Try.func37, Try.ntmps37
  by_cases h1 : m = a + 1
  · have e1 : IntKind.i64.wrap ((m : Int) - (a : Int)) = 1 := by rw [IntKind.wrap_i64]; omega
    have HM1 := Aside0.mk h1
    clear HROT HIH h1
    go_wp2_with fail
    go_loopg [10, 11] (b - m) (fun g1 vi vj wr => ∃ (i j : Nat), vi = .int .i64 i ∧ vj = .int .i64 j ∧ m ≤ i ∧ i ≤ j ∧ j ≤ b ∧ j - i ≤ g1 ∧ Aside0 (SX I blk d wr) ∧ Aside0 (∀ y, m ≤ y → y < i → lt d[y]! d[a]! = true) ∧ Aside0 (∀ y, j ≤ y → y < b → lt d[y]! d[a]! = false))
    case atStart => exact ⟨m, b, rfl, rfl, by omega, by omega, by omega, by omega, S0, ⟨fun y h1 h2 => by omega⟩, ⟨fun y h1 h2 => by omega⟩⟩
    case round =>
      clear S0
      obtain ⟨i, j, rfl, rfl, hmi, hij, hjb, hg, S1, F1, F2⟩ := hrel
      by_cases hlt : i < j
      · have hltz : (i : Int) < (j : Int) := by omega
        obtain ⟨h, hh⟩ : ∃ h, h = (i + j) / 2 := ⟨_, rfl⟩
        have hz : ((i : Int) + (j : Int)) / 2 = (h : Int) := by omega
        have r1 : IntKind.i64.wrap ((i : Int) + (j : Int)) = (i : Int) + (j : Int) := by rw [IntKind.wrap_i64]; omega
        have r2 : IntKind.i64.wrap (h : Int) = (h : Int) := by rw [IntKind.wrap_i64]; omega
        have ph : (0 : Int) ≤ (h : Int) := by omega
        have bh : (h : Int) < (d.size : Int) := by omega
        have pa : (0 : Int) ≤ (a : Int) := by omega
        have ba : (a : Int) < (d.size : Int) := by omega
        have hb1 : i ≤ h := by omega
        have hb2 : h < j := by omega
        clear hh
        obtain ⟨x, hx⟩ : ∃ x, x = d[h]! := ⟨_, rfl⟩
        obtain ⟨y, hy⟩ : ∃ x, x = d[a]! := ⟨_, rfl⟩
        have hcell : Aside0 (∀ w', SX I blk d w' → w'.cell? ⟨blk, h, none⟩ = some (.int .i64 x) ∧ w'.cell? ⟨blk, a, none⟩ = some (.int .i64 y)) := ⟨fun w' h' => by
          rw [hx, hy]; exact ⟨h'.c1 _ (by omega), h'.c1 _ (by omega)⟩⟩
        have l1 := (hcell.out _ S1.out).1
        have l2 := (hcell.out _ S1.out).2
        have HOX : Aside0 (ok x) := ⟨by rw [hx]; exact HK.out _ (by omega)⟩
        have HOY : Aside0 (ok y) := ⟨by rw [hy]; exact HK.out _ (by omega)⟩
        have ET : Aside0 (decide (cf x y < 0) = lt x y) := ⟨by rw [hx, hy]; exact HA.out a h (Nat.le_refl _) ham (by omega) (by omega)⟩
        have HX := Aside0.mk hx
        have HY := Aside0.mk hy
        clear hx hy
        cases hlv : lt x y with
        | true => as_aux_lemma =>
          have hd : decide (cf x y < 0) = true := ET.out.trans hlv
          have hv : cf x y < 0 := of_decide_eq_true hd
          have G1 : Aside0 (∀ y, m ≤ y → y < h + 1 → lt d[y]! d[a]! = true) := ⟨fun q h1 h2 => TP.find_true HS.out HRR.out (by omega) (by omega) (by rw [← HX.out, ← HY.out]; exact hlv) q h1 h2⟩
          clear hlv
          go_wp2_with fail
          go_region_held3 (fun w' => (w'.cell? ⟨blk, h, none⟩ = some (.int .i64 x) ∧ w'.cell? ⟨blk, a, none⟩ = some (.int .i64 y)) ∧ SX I blk d w')
            (first | exact ⟨hcell.out _ hsx, hsx⟩ | exact ⟨hcell.out _ (S1.out.drew HI.out), S1.out.drew HI.out⟩)
            (first | ((with_reducible refine (HC.out _ _ _ (And.right (by assumption : _ ∧ SX I blk d _)).fr HOX.out HOY.out).mono ?_); rintro e w1 ⟨rfl, hb⟩; have hsx := (And.right (by assumption : _ ∧ SX I blk d _)).step HI.out hb; clear hb))
          have S2 := Aside0.mk hsx
          clear hsx l1 l2 hcell
          clear S1 F1
          go_wp2
          go_roundg (j - (h + 1))
          case measure => omega
          case rel => exact ⟨h + 1, j, by go_num, rfl, by omega, by omega, hjb, by omega, S2, G1, F2⟩
        | false => as_aux_lemma =>
          have hd : decide (cf x y < 0) = false := ET.out.trans hlv
          have hv : ¬ cf x y < 0 := of_decide_eq_false hd
          have G2 : Aside0 (∀ y, h ≤ y → y < b → lt d[y]! d[a]! = false) := ⟨fun q h1 h2 => TP.find_false HS.out HRR.out (by omega) (by rw [← HX.out, ← HY.out]; exact hlv) q h1 h2⟩
          clear hlv
          go_wp2_with fail
          go_region_held3 (fun w' => (w'.cell? ⟨blk, h, none⟩ = some (.int .i64 x) ∧ w'.cell? ⟨blk, a, none⟩ = some (.int .i64 y)) ∧ SX I blk d w')
            (first | exact ⟨hcell.out _ hsx, hsx⟩ | exact ⟨hcell.out _ (S1.out.drew HI.out), S1.out.drew HI.out⟩)
            (first | ((with_reducible refine (HC.out _ _ _ (And.right (by assumption : _ ∧ SX I blk d _)).fr HOX.out HOY.out).mono ?_); rintro e w1 ⟨rfl, hb⟩; have hsx := (And.right (by assumption : _ ∧ SX I blk d _)).step HI.out hb; clear hb))
          have S2 := Aside0.mk hsx
          clear hsx l1 l2 hcell
          clear S1 F2
          go_wp2
          go_roundg (h - i)
          case measure => omega
          case rel => exact ⟨i, h, rfl, rfl, by omega, by omega, by omega, by omega, S2, F1, G2⟩
      · have hltz : ¬ (i : Int) < (j : Int) := by omega
        obtain rfl : i = j := by omega
        have em : IntKind.i64.wrap ((i : Int) - 1) = (i : Int) - 1 := by rw [IntKind.wrap_i64]; omega
        go_wp2_with fail
        go_loopg [13] (i - 1 - a) (fun g2 vk wr2 => ∃ (k : Nat) (dk : Array Int), vk = .int .i64 k ∧ a ≤ k ∧ k + 1 ≤ i ∧ i - 1 - k ≤ g2 ∧ dk.size = d.size ∧ Aside0 (SX I blk dk wr2) ∧ Aside0 (TP.UpR a k d dk))
        case atStart => exact ⟨a, d, rfl, by omega, by omega, by omega, rfl, S1, ⟨TP.UpR.zero a d⟩⟩
        case round =>
          clear S1
          obtain ⟨k, dk, rfl, hak, hki, hg2, hsk, S3, HU⟩ := hrel
          by_cases hlt2 : k + 1 < i
          · have hz2 : (k : Int) < (i : Int) - 1 := by omega
            obtain ⟨kN, hkN⟩ : ∃ q, q = k + 1 := ⟨_, rfl⟩
            have ea : ((k : Int) + 1).toNat = kN := by omega
            have pa : (0 : Int) ≤ (k : Int) + 1 := by omega
            have ba : (k : Int) + 1 < (d.size : Int) := by omega
            have ra : IntKind.i64.wrap ((k : Int) + 1) = (k : Int) + 1 := by rw [IntKind.wrap_i64]; omega
            have pc : (0 : Int) ≤ (k : Int) := by omega
            have bc : (k : Int) < (d.size : Int) := by omega
            obtain ⟨x, hx⟩ : ∃ x, x = dk[k]! := ⟨_, rfl⟩
            obtain ⟨y, hy⟩ : ∃ x, x = dk[kN]! := ⟨_, rfl⟩
            have c1 : wr.cell? ⟨blk, k, none⟩ = some (.int .i64 x) := by rw [hx]; exact S3.out.c1 k (by omega)
            have c2 : wr.cell? ⟨blk, kN, none⟩ = some (.int .i64 y) := by rw [hy]; exact S3.out.c1 kN (by omega)
            have f1 : wr.frozen? ⟨blk, k, none⟩ = false := S3.out.f1 k
            have f2 : wr.frozen? ⟨blk, kN, none⟩ = false := S3.out.f1 kN
            obtain ⟨u, c3⟩ : ∃ u, (wr.setCell ⟨blk, k, none⟩ (.int .i64 y)).cell? ⟨blk, kN, none⟩ = some u := S3.out.c2 k kN (by omega) (by omega) _
            have S4 : Aside0 (SX I blk (swp dk k kN) ((wr.setCell ⟨blk, k, none⟩ (.int .i64 y)).setCell ⟨blk, kN, none⟩ (.int .i64 x)).drew) := ⟨by rw [hx, hy]; exact S3.out.swapped HI.out HI2.out k kN⟩
            have HU2 : Aside0 (TP.UpR a (k + 1) d (swp dk k kN)) := ⟨by rw [hkN]; exact HU.out.step (by omega) hak⟩
            have HSZ : Aside0 ((swp dk k kN).size = d.size) := ⟨HU2.out.size⟩
            clear S3 HU hx hy hkN
            go_wp2_with fail
            go_region
            clear c1 c2 c3 f1 f2 ea
            generalize ((wr.setCell ⟨blk, k, none⟩ (.int .i64 y)).setCell ⟨blk, kN, none⟩ (.int .i64 x)).drew = w3 at S4 ⊢
            go_wp2
            go_roundg (i - 1 - (k + 1))
            case measure => omega
            case rel => exact ⟨k + 1, swp dk k kN, by go_num, by omega, by omega, by omega, HSZ.out, S4, HU2⟩
          · have hz2 : ¬ (k : Int) < (i : Int) - 1 := by omega
            have hkk : k = i - 1 := by omega
            have HU3 : Aside0 (TP.UpR a (i - 1) d dk) := ⟨by rw [← hkk]; exact HU.out⟩
            clear hkk
            go_wp2
            refine bodyPost_ret (results_none rfl _ _ _) rfl ?_
            have hm1 := HM1.out
            subst hm1
            exact ⟨rfl, dk, S3.out, TP.one_left HS.out (by omega) (by omega) hb HRR.out F1.out F2.out (TP.UpR.rot HU3.out (by omega))⟩
  · have e1 : ((m - a : Nat) : Int) ≠ 1 := by omega
    have e1b : (((m - a : Nat) : Int) == 1) = false := beq_eq_false_iff_ne.mpr e1
    have e1c : IntKind.i64.wrap ((m : Int) - (a : Int)) = ((m - a : Nat) : Int) := by rw [IntKind.wrap_i64]; omega
    by_cases h2 : b = m + 1
    · have e2 : IntKind.i64.wrap ((b : Int) - (m : Int)) = 1 := by rw [IntKind.wrap_i64]; omega
      have HM2 := Aside0.mk h2
      clear HROT HIH h1 h2 e1
      go_wp2_with fail
      go_loopg [14, 15] (m - a) (fun g1 vi vj wr => ∃ (i j : Nat), vi = .int .i64 i ∧ vj = .int .i64 j ∧ a ≤ i ∧ i ≤ j ∧ j ≤ m ∧ j - i ≤ g1 ∧ Aside0 (SX I blk d wr) ∧ Aside0 (∀ y, a ≤ y → y < i → lt d[m]! d[y]! = false) ∧ Aside0 (∀ y, j ≤ y → y < m → lt d[m]! d[y]! = true))
      case atStart => exact ⟨a, m, rfl, rfl, by omega, by omega, by omega, by omega, S0, ⟨fun y h1 h2 => by omega⟩, ⟨fun y h1 h2 => by omega⟩⟩
      case round =>
        clear S0
        obtain ⟨i, j, rfl, rfl, hmi, hij, hjb, hg, S1, F1, F2⟩ := hrel
        by_cases hlt : i < j
        · have hltz : (i : Int) < (j : Int) := by omega
          obtain ⟨h, hh⟩ : ∃ h, h = (i + j) / 2 := ⟨_, rfl⟩
          have hz : ((i : Int) + (j : Int)) / 2 = (h : Int) := by omega
          have r1 : IntKind.i64.wrap ((i : Int) + (j : Int)) = (i : Int) + (j : Int) := by rw [IntKind.wrap_i64]; omega
          have r2 : IntKind.i64.wrap (h : Int) = (h : Int) := by rw [IntKind.wrap_i64]; omega
          have ph : (0 : Int) ≤ (h : Int) := by omega
          have bh : (h : Int) < (d.size : Int) := by omega
          have pa : (0 : Int) ≤ (m : Int) := by omega
          have ba : (m : Int) < (d.size : Int) := by omega
          have hb1 : i ≤ h := by omega
          have hb2 : h < j := by omega
          clear hh
          obtain ⟨x, hx⟩ : ∃ x, x = d[m]! := ⟨_, rfl⟩
          obtain ⟨y, hy⟩ : ∃ x, x = d[h]! := ⟨_, rfl⟩
          have hcell : Aside0 (∀ w', SX I blk d w' → w'.cell? ⟨blk, m, none⟩ = some (.int .i64 x) ∧ w'.cell? ⟨blk, h, none⟩ = some (.int .i64 y)) := ⟨fun w' h' => by
            rw [hx, hy]; exact ⟨h'.c1 _ (by omega), h'.c1 _ (by omega)⟩⟩
          have l1 := (hcell.out _ S1.out).1
          have l2 := (hcell.out _ S1.out).2
          have HOX : Aside0 (ok x) := ⟨by rw [hx]; exact HK.out _ (by omega)⟩
          have HOY : Aside0 (ok y) := ⟨by rw [hy]; exact HK.out _ (by omega)⟩
          have ET : Aside0 (decide (cf x y < 0) = lt x y) := ⟨by rw [hx, hy]; exact HA.out h m (by omega) (by omega) (Nat.le_refl _) hmb⟩
          have HX := Aside0.mk hx
          have HY := Aside0.mk hy
          clear hx hy
          cases hlv : lt x y with
          | true => as_aux_lemma =>
            have hd : decide (cf x y < 0) = true := ET.out.trans hlv
            have hv : cf x y < 0 := of_decide_eq_true hd
            have G2 : Aside0 (∀ y, h ≤ y → y < m → lt d[m]! d[y]! = true) := ⟨fun q h1 h2 => TP.look_true HS.out HL.out (by omega) (by rw [← HX.out, ← HY.out]; exact hlv) q h1 h2⟩
            clear hlv
            go_wp2_with fail
            go_region_held3 (fun w' => (w'.cell? ⟨blk, m, none⟩ = some (.int .i64 x) ∧ w'.cell? ⟨blk, h, none⟩ = some (.int .i64 y)) ∧ SX I blk d w')
              (first | exact ⟨hcell.out _ hsx, hsx⟩ | exact ⟨hcell.out _ (S1.out.drew HI.out), S1.out.drew HI.out⟩)
              (first | ((with_reducible refine (HC.out _ _ _ (And.right (by assumption : _ ∧ SX I blk d _)).fr HOX.out HOY.out).mono ?_); rintro e w1 ⟨rfl, hb⟩; have hsx := (And.right (by assumption : _ ∧ SX I blk d _)).step HI.out hb; clear hb))
            have S2 := Aside0.mk hsx
            clear hsx l1 l2 hcell
            clear S1 F2
            go_wp2
            go_roundg (h - i)
            case measure => omega
            case rel => exact ⟨i, h, rfl, rfl, by omega, by omega, by omega, by omega, S2, F1, G2⟩
          | false => as_aux_lemma =>
            have hd : decide (cf x y < 0) = false := ET.out.trans hlv
            have hv : ¬ cf x y < 0 := of_decide_eq_false hd
            have G1 : Aside0 (∀ y, a ≤ y → y < h + 1 → lt d[m]! d[y]! = false) := ⟨fun q h1 h2 => TP.look_false HS.out HL.out (by omega) (by omega) (by rw [← HX.out, ← HY.out]; exact hlv) q h1 h2⟩
            clear hlv
            go_wp2_with fail
            go_region_held3 (fun w' => (w'.cell? ⟨blk, m, none⟩ = some (.int .i64 x) ∧ w'.cell? ⟨blk, h, none⟩ = some (.int .i64 y)) ∧ SX I blk d w')
              (first | exact ⟨hcell.out _ hsx, hsx⟩ | exact ⟨hcell.out _ (S1.out.drew HI.out), S1.out.drew HI.out⟩)
              (first | ((with_reducible refine (HC.out _ _ _ (And.right (by assumption : _ ∧ SX I blk d _)).fr HOX.out HOY.out).mono ?_); rintro e w1 ⟨rfl, hb⟩; have hsx := (And.right (by assumption : _ ∧ SX I blk d _)).step HI.out hb; clear hb))
            have S2 := Aside0.mk hsx
            clear hsx l1 l2 hcell
            clear S1 F1
            go_wp2
            go_roundg (j - (h + 1))
            case measure => omega
            case rel => exact ⟨h + 1, j, by go_num, rfl, by omega, by omega, hjb, by omega, S2, G1, F2⟩
        · have hltz : ¬ (i : Int) < (j : Int) := by omega
          obtain rfl : i = j := by omega
          go_wp2_with fail
          go_loopg [17] (m - i) (fun g2 vk wr2 => ∃ (k : Nat) (dk : Array Int), vk = .int .i64 k ∧ i ≤ k ∧ k ≤ m ∧ k - i ≤ g2 ∧ dk.size = d.size ∧ Aside0 (SX I blk dk wr2) ∧ Aside0 (TP.DnR m k d dk))
          case atStart => exact ⟨m, d, rfl, by omega, by omega, by omega, rfl, S1, ⟨TP.DnR.zero m d⟩⟩
          case round =>
            clear S1
            obtain ⟨k, dk, rfl, hak, hki, hg2, hsk, S3, HU⟩ := hrel
            by_cases hlt2 : i < k
            · obtain ⟨kp, hkp⟩ : ∃ q, k = q + 1 := ⟨k - 1, by omega⟩
              have HU2 : Aside0 (TP.DnR m kp d (swp dk k kp)) := ⟨by have := HU.out.step (by omega) hki (by omega); rwa [show k - 1 = kp by omega] at this⟩
              have hz2 : (i : Int) < (k : Int) := by omega
              have hz3 : decide ((k : Int) > (i : Int)) = true := decide_eq_true hz2
              have ea : ((k : Int) - 1).toNat = kp := by omega
              have pa : (0 : Int) ≤ (k : Int) - 1 := by omega
              have ba : (k : Int) - 1 < (d.size : Int) := by omega
              have ra : IntKind.i64.wrap ((k : Int) - 1) = (k : Int) - 1 := by rw [IntKind.wrap_i64]; omega
              have pc : (0 : Int) ≤ (k : Int) := by omega
              have bc : (k : Int) < (d.size : Int) := by omega
              obtain ⟨x, hx⟩ : ∃ x, x = dk[k]! := ⟨_, rfl⟩
              obtain ⟨y, hy⟩ : ∃ x, x = dk[kp]! := ⟨_, rfl⟩
              have c1 : wr.cell? ⟨blk, k, none⟩ = some (.int .i64 x) := by rw [hx]; exact S3.out.c1 k (by omega)
              have c2 : wr.cell? ⟨blk, kp, none⟩ = some (.int .i64 y) := by rw [hy]; exact S3.out.c1 kp (by omega)
              have f1 : wr.frozen? ⟨blk, k, none⟩ = false := S3.out.f1 k
              have f2 : wr.frozen? ⟨blk, kp, none⟩ = false := S3.out.f1 kp
              obtain ⟨u, c3⟩ : ∃ u, (wr.setCell ⟨blk, k, none⟩ (.int .i64 y)).cell? ⟨blk, kp, none⟩ = some u := S3.out.c2 k kp (by omega) (by omega) _
              have S4 : Aside0 (SX I blk (swp dk k kp) ((wr.setCell ⟨blk, k, none⟩ (.int .i64 y)).setCell ⟨blk, kp, none⟩ (.int .i64 x)).drew) := ⟨by rw [hx, hy]; exact S3.out.swapped HI.out HI2.out k kp⟩
              have HSZ : Aside0 ((swp dk k kp).size = d.size) := ⟨HU2.out.size⟩
              have ezp : (k : Int) - 1 = (kp : Int) := by omega
              have HZP := Aside0.mk ezp
              have HKP := Aside0.mk hkp
              clear S3 HU hx hy hkp ezp
              go_wp2_with fail
              go_region
              clear c1 c2 c3 f1 f2 ea
              generalize ((wr.setCell ⟨blk, k, none⟩ (.int .i64 y)).setCell ⟨blk, kp, none⟩ (.int .i64 x)).drew = w3 at S4 ⊢
              go_wp2
              go_roundg (kp - i)
              case measure => have := HKP.out; omega
              case rel =>
                have h1 := HKP.out
                exact ⟨kp, swp dk k kp, by first | rfl | go_num | (congr 1; omega), by omega, by omega, by omega, HSZ.out, S4, HU2⟩
            · have hz2 : ¬ (i : Int) < (k : Int) := by omega
              have hz3 : decide ((k : Int) > (i : Int)) = false := decide_eq_false hz2
              have hkk : k = i := by omega
              have HU3 : Aside0 (TP.DnR m i d dk) := ⟨by rw [← hkk]; exact HU.out⟩
              clear hkk
              go_wp2
              refine bodyPost_ret (results_none rfl _ _ _) rfl ?_
              have hm1 := HM2.out
              subst hm1
              exact ⟨rfl, dk, S3.out, TP.one_right HS.out (by omega) (by omega) (by omega) HL.out F1.out F2.out (TP.DnR.rot HU3.out (by omega))⟩
    · have e2 : ((b - m : Nat) : Int) ≠ 1 := by omega
      have e2b : (((b - m : Nat) : Int) == 1) = false := beq_eq_false_iff_ne.mpr e2
      have e2c : IntKind.i64.wrap ((b : Int) - (m : Int)) = ((b - m : Nat) : Int) := by rw [IntKind.wrap_i64]; omega
      obtain ⟨mid, hmid⟩ : ∃ q, q = (a + b) / 2 := ⟨_, rfl⟩
      have hzm : ((a : Int) + (b : Int)) / 2 = (mid : Int) := by omega
      have r1 : IntKind.i64.wrap ((a : Int) + (b : Int)) = (a : Int) + (b : Int) := by rw [IntKind.wrap_i64]; omega
      have k1 : a < mid := by omega
      have k2 : mid < b := by omega
      have k3 : 2 * mid ≤ a + b := by omega
      have k4 : a + b ≤ 2 * mid + 1 := by omega
      clear hmid h1 h2
      go_upto_if 140 with (fail)
      go_cut [20, 21] (fun v20 v21 wc => ∃ (s0 r0 : Nat), v20 = .int .i64 s0 ∧ v21 = .int .i64 r0 ∧ a ≤ s0 ∧ s0 ≤ r0 ∧ r0 ≤ m ∧ r0 ≤ mid ∧ mid + m ≤ s0 + b ∧ Aside0 (s0 = a ∨ mid + m = s0 + b) ∧ Aside0 (r0 = m ∨ r0 = mid) ∧ Aside0 (SX I blk d wc))
      case first => as_aux_lemma =>
        by_cases hgt : mid < m
        · have hgz : (mid : Int) < (m : Int) := by omega
          go_wp2_with fail
          go_meet
          exact ⟨mid + m - b, mid, by first | rfl | (congr 1; omega), rfl, by omega, by omega, by omega, by omega, by omega, ⟨.inr (by omega)⟩, ⟨.inr rfl⟩, S0⟩
        · have hgz : ¬ (mid : Int) < (m : Int) := by omega
          go_wp2_with fail
          go_meet
          exact ⟨a, m, rfl, rfl, by omega, by omega, by omega, by omega, by omega, ⟨.inl rfl⟩, ⟨.inl rfl⟩, S0⟩
      case rest =>
        clear S0
        obtain ⟨s0, r0, rfl, rfl, j1, j2, j3, j4, j5, B1, B2, S0⟩ := hcut
        go_wp2_with fail
        go_loopg [20, 21] (r0 - s0) (fun g1 vi vj wr => ∃ (i j : Nat), vi = .int .i64 i ∧ vj = .int .i64 j ∧ s0 ≤ i ∧ i ≤ j ∧ j ≤ r0 ∧ j - i ≤ g1 ∧ Aside0 (SX I blk d wr) ∧ Aside0 (∀ c, s0 ≤ c → c < i → lt d[mid + m - 1 - c]! d[c]! = false) ∧ Aside0 (∀ c, j ≤ c → c < r0 → lt d[mid + m - 1 - c]! d[c]! = true))
        case atStart => exact ⟨s0, r0, rfl, rfl, by omega, by omega, by omega, by omega, S0, ⟨fun y h1 h2 => by omega⟩, ⟨fun y h1 h2 => by omega⟩⟩
        case round =>
          clear S0
          obtain ⟨i, j, rfl, rfl, hmi, hij, hjb, hg, S1, F1, F2⟩ := hrel
          by_cases hlt : i < j
          · have hltz : (i : Int) < (j : Int) := by omega
            obtain ⟨h, hh⟩ : ∃ h, h = (i + j) / 2 := ⟨_, rfl⟩
            have hz : ((i : Int) + (j : Int)) / 2 = (h : Int) := by omega
            have r1 : IntKind.i64.wrap ((i : Int) + (j : Int)) = (i : Int) + (j : Int) := by rw [IntKind.wrap_i64]; omega
            have r2 : IntKind.i64.wrap (h : Int) = (h : Int) := by rw [IntKind.wrap_i64]; omega
            have ph : (0 : Int) ≤ (h : Int) := by omega
            have bh : (h : Int) < (d.size : Int) := by omega
            have hb1 : i ≤ h := by omega
            have hb2 : h < j := by omega
            obtain ⟨q, hq⟩ : ∃ q, q = mid + m - 1 - h := ⟨_, rfl⟩
            have hzq : (mid : Int) + (m : Int) - 1 - (h : Int) = (q : Int) := by omega
            have rq : IntKind.i64.wrap (q : Int) = (q : Int) := by rw [IntKind.wrap_i64]; omega
            have pq : (0 : Int) ≤ (q : Int) := by omega
            have bq : (q : Int) < (d.size : Int) := by omega
            have hqm : m ≤ q := by omega
            have hqb : q < b := by omega
            have HQ := Aside0.mk hq
            clear hh hq
            obtain ⟨x, hx⟩ : ∃ x, x = d[q]! := ⟨_, rfl⟩
            obtain ⟨y, hy⟩ : ∃ x, x = d[h]! := ⟨_, rfl⟩
            have hcell : Aside0 (∀ w', SX I blk d w' → w'.cell? ⟨blk, q, none⟩ = some (.int .i64 x) ∧ w'.cell? ⟨blk, h, none⟩ = some (.int .i64 y)) := ⟨fun w' h' => by
              rw [hx, hy]; exact ⟨h'.c1 _ (by omega), h'.c1 _ (by omega)⟩⟩
            have l1 := (hcell.out _ S1.out).1
            have l2 := (hcell.out _ S1.out).2
            have HOX : Aside0 (ok x) := ⟨by rw [hx]; exact HK.out _ (by omega)⟩
            have HOY : Aside0 (ok y) := ⟨by rw [hy]; exact HK.out _ (by omega)⟩
            have ET : Aside0 (decide (cf x y < 0) = lt x y) := ⟨by rw [hx, hy]; exact HA.out h q (by omega) (by omega) hqm hqb⟩
            have HX := Aside0.mk hx
            have HY := Aside0.mk hy
            clear hx hy
            cases hlv : lt x y with
            | true => as_aux_lemma =>
              have hd : decide (cf x y < 0) = true := ET.out.trans hlv
              have hv : cf x y < 0 := of_decide_eq_true hd
              have G2 : Aside0 (∀ c, h ≤ c → c < r0 → lt d[mid + m - 1 - c]! d[c]! = true) := ⟨fun c h1 h2 => TP.sym_true HS.out HL.out HRR.out (by omega) (by omega) (by omega) (by rw [← HQ.out, ← HX.out, ← HY.out]; exact hlv) c h1 (by omega) (by omega)⟩
              clear hlv
              go_wp2_with fail
              go_region_held3 (fun w' => (w'.cell? ⟨blk, q, none⟩ = some (.int .i64 x) ∧ w'.cell? ⟨blk, h, none⟩ = some (.int .i64 y)) ∧ SX I blk d w')
                (first | exact ⟨hcell.out _ hsx, hsx⟩ | exact ⟨hcell.out _ (S1.out.drew HI.out), S1.out.drew HI.out⟩)
                (first | ((with_reducible refine (HC.out _ _ _ (And.right (by assumption : _ ∧ SX I blk d _)).fr HOX.out HOY.out).mono ?_); rintro e w1 ⟨rfl, hb⟩; have hsx := (And.right (by assumption : _ ∧ SX I blk d _)).step HI.out hb; clear hb))
              have S2 := Aside0.mk hsx
              clear hsx l1 l2 hcell
              clear S1 F2
              go_wp2
              go_roundg (h - i)
              case measure => omega
              case rel => exact ⟨i, h, rfl, rfl, by omega, by omega, by omega, by omega, S2, F1, G2⟩
            | false => as_aux_lemma =>
              have hd : decide (cf x y < 0) = false := ET.out.trans hlv
              have hv : ¬ cf x y < 0 := of_decide_eq_false hd
              have G1 : Aside0 (∀ c, s0 ≤ c → c < h + 1 → lt d[mid + m - 1 - c]! d[c]! = false) := ⟨fun c h1 h2 => TP.sym_false HS.out HL.out HRR.out (by omega) (by omega) (by omega) (by rw [← HQ.out, ← HX.out, ← HY.out]; exact hlv) c (by omega) h2 (by omega)⟩
              clear hlv
              go_wp2_with fail
              go_region_held3 (fun w' => (w'.cell? ⟨blk, q, none⟩ = some (.int .i64 x) ∧ w'.cell? ⟨blk, h, none⟩ = some (.int .i64 y)) ∧ SX I blk d w')
                (first | exact ⟨hcell.out _ hsx, hsx⟩ | exact ⟨hcell.out _ (S1.out.drew HI.out), S1.out.drew HI.out⟩)
                (first | ((with_reducible refine (HC.out _ _ _ (And.right (by assumption : _ ∧ SX I blk d _)).fr HOX.out HOY.out).mono ?_); rintro e w1 ⟨rfl, hb⟩; have hsx := (And.right (by assumption : _ ∧ SX I blk d _)).step HI.out hb; clear hb))
              have S2 := Aside0.mk hsx
              clear hsx l1 l2 hcell
              clear S1 F1
              go_wp2
              go_roundg (j - (h + 1))
              case measure => omega
              case rel => exact ⟨h + 1, j, by go_num, rfl, by omega, by omega, hjb, by omega, S2, G1, F2⟩
          · have hltz : ¬ (i : Int) < (j : Int) := by omega
            obtain rfl : i = j := by omega
            obtain ⟨c1, c2⟩ := TP.sym_split HS.out HL.out HRR.out j1 hmi hjb j3 j4 j5 B1.out B2.out F1.out F2.out
            have C1 := Aside0.mk c1
            have C2 := Aside0.mk c2
            clear c1 c2 F1 F2 B1 B2
            obtain ⟨e, he⟩ : ∃ e, e = mid + m - i := ⟨_, rfl⟩
            have hez : (mid : Int) + (m : Int) - (i : Int) = (e : Int) := by omega
            rw [← he] at C1 C2
            have g1 : a ≤ i := by omega
            have g2 : i ≤ m := by omega
            have g3 : m ≤ e := by omega
            have g4 : e ≤ b := by omega
            have g5 : i ≤ mid := by omega
            have g6 : mid ≤ e := by omega
            have HE : Aside0 (i + (e - m) = mid) := ⟨by omega⟩
            clear he hlt hltz
            go_upto_region 39 with (fail)
            go_cut [185] (fun v185 wc => ∃ bv : Bool, v185 = .bool bv ∧ Aside0 (bv = true ↔ i < m ∧ m < e) ∧ Aside0 (SX I blk d wc))
            case first => as_aux_lemma =>
              by_cases q1 : i < m
              · have z1 : (i : Int) < (m : Int) := by omega
                by_cases q2 : m < e
                · have z2 : (m : Int) < (e : Int) := by omega
                  go_wp2_with fail
                  go_meet
                  exact ⟨true, rfl, ⟨by simp [q1, q2]⟩, S1⟩
                · have z2 : ¬ (m : Int) < (e : Int) := by omega
                  go_wp2_with fail
                  go_meet
                  exact ⟨false, rfl, ⟨by simp [q2]⟩, S1⟩
              · have z1 : ¬ (i : Int) < (m : Int) := by omega
                go_wp2_with fail
                go_meet
                exact ⟨false, rfl, ⟨by simp [q1]⟩, S1⟩
            case rest =>
            clear S1
            obtain ⟨bv, rfl, HBV, S1⟩ := hcut
            go_upto_if 185 with (fail)
            go_cut [] (fun wc => ∃ (d1 : Array Int), Aside0 (SX I blk d1 wc) ∧ Aside0 (TP.RotR i m e d d1))
            case first => as_aux_lemma =>
              cases bv with
              | true =>
                obtain ⟨q1, q2⟩ := HBV.out.1 rfl
                have HX := Aside0.mk (HROT.out i m e d wc S1.out q1 q2 (by omega) rfl)
                go_wp2_with (go_at_call 40; with_reducible refine HX.out.mono ?_; rintro e' w1 ⟨rfl, d1, hs2, hr2⟩; have HS2 := Aside0.mk hs2; have HR2 := Aside0.mk hr2; clear hs2 hr2)
                go_meet
                exact ⟨d1, HS2, HR2⟩
              | false =>
                have hq : ¬ (i < m ∧ m < e) := fun h => by have := HBV.out.2 h; cases this
                have hme : Aside0 (TP.RotR i m e d d) := ⟨by
                  by_cases q1 : i < m
                  · rw [show e = m by omega]; exact TP.RotR.idr d
                  · rw [show i = m by omega]; exact TP.RotR.idl d⟩
                clear hq
                go_wp2_with fail
                go_meet
                exact ⟨d, S1, hme⟩
            case rest =>
              clear S1
              obtain ⟨d1, S2, HR1⟩ := hcut
              have hcu := TP.cut_of (lt := lt) g1 g2 g3 g4 HL.out HRR.out C1.out C2.out HR1.out
              rw [HE.out] at hcu
              have HCU := Aside0.mk hcu
              have hal := TP.acr_left HA.out HR1.out g2 g3 g4
              have har := TP.acr_right HA.out HR1.out g1 g2 g3
              rw [HE.out] at hal har
              have HAL := Aside0.mk hal
              have HAR := Aside0.mk har
              have HP := Aside0.mk (HR1.out.perm a b g1 g4 hb)
              have HK1 : Aside0 (∀ i, i < d1.size → ok d1[i]!) := ⟨TP.ok_perm HK.out HP.out hb⟩
              have HZ1 : Aside0 (d1.size = d.size) := ⟨HR1.out.size⟩
              clear hcu hal har C1 C2
              clear HBV
              go_upto_region 41 with (fail)
              go_cut [199] (fun v199 wc => ∃ bv : Bool, v199 = .bool bv ∧ Aside0 (bv = true ↔ a < i ∧ i < mid) ∧ Aside0 (SX I blk d1 wc))
              case first => as_aux_lemma =>
                by_cases q1 : a < i
                · have z1 : (a : Int) < (i : Int) := by omega
                  by_cases q2 : i < mid
                  · have z2 : (i : Int) < (mid : Int) := by omega
                    go_wp2_with fail
                    go_meet
                    exact ⟨true, rfl, ⟨by simp [q1, q2]⟩, S2⟩
                  · have z2 : ¬ (i : Int) < (mid : Int) := by omega
                    go_wp2_with fail
                    go_meet
                    exact ⟨false, rfl, ⟨by simp [q2]⟩, S2⟩
                · have z1 : ¬ (a : Int) < (i : Int) := by omega
                  go_wp2_with fail
                  go_meet
                  exact ⟨false, rfl, ⟨by simp [q1]⟩, S2⟩
              case rest =>
              clear S2
              obtain ⟨bv2, rfl, HBV, S2⟩ := hcut
              go_upto_if 199 with (fail)
              go_cut [] (fun wc => ∃ (d2 : Array Int), Aside0 (SX I blk d2 wc) ∧ Aside0 (TP.Merged lt a mid d1 d2))
              case first => as_aux_lemma =>
                cases bv2 with
                | true =>
                  obtain ⟨q1, q2⟩ := HBV.out.1 rfl
                  have hx := HIH.out a i mid d1 wc (by omega) q1 q2 (by have := HZ1.out; omega) (by have := HZ1.out; omega) HK1.out S2.out HCU.out.l1 HCU.out.l2 HAL.out
                  rw [HZ1.out] at hx
                  have HX := Aside0.mk hx
                  clear hx
                  go_wp2_with (go_at_call 37; with_reducible refine HX.out.mono ?_; rintro e' w1 ⟨rfl, d2, hs2, hr2⟩; have HS2 := Aside0.mk hs2; have HR2 := Aside0.mk hr2; clear hs2 hr2)
                  go_meet
                  exact ⟨d2, HS2, HR2⟩
                | false =>
                  have hq : ¬ (a < i ∧ i < mid) := fun h => by have := HBV.out.2 h; cases this
                  have hme : Aside0 (TP.Merged lt a mid d1 d1) := ⟨by
                    by_cases q1 : a < i
                    · exact TP.merged_refl (by have := HCU.out.l1; rwa [show i = mid by omega] at this)
                    · exact TP.merged_refl (by have := HCU.out.l2; rwa [show i = a by omega] at this)⟩
                  clear hq
                  go_wp2_with fail
                  go_meet
                  exact ⟨d1, S2, hme⟩
              case rest =>
                clear S2
                obtain ⟨d2, S3, HM⟩ := hcut
                have HZ2 : Aside0 (d2.size = d.size) := ⟨by rw [HM.out.1.1, HZ1.out]⟩
                have HSM : Aside0 (∀ x, mid ≤ x → d2[x]! = d1[x]!) := ⟨fun x hx => HM.out.1.2.1 x (.inr hx)⟩
                have HK2 : Aside0 (∀ i, i < d2.size → ok d2[i]!) := ⟨TP.ok_perm HK1.out HM.out.1 (by have := HZ1.out; omega)⟩
                have FIN : Aside0 (∀ d3, TP.Merged lt mid b d2 d3 → TP.Merged lt a b d d3) := ⟨fun d3 h3 => TP.merged_then HP.out (TP.cut_merged (by omega) (by omega) (by have := HZ1.out; omega) HCU.out.acr HM.out h3)⟩
                have R1 : Aside0 (SortedIn lt mid e d2) := ⟨TP.sorted_congr HCU.out.r1 (fun x h1 _ => HSM.out x h1)⟩
                have R2 : Aside0 (SortedIn lt e b d2) := ⟨TP.sorted_congr HCU.out.r2 (fun x h1 _ => HSM.out x (by omega))⟩
                have RA : Aside0 (TP.Acr (ltc cf) lt mid e b d2) := ⟨TP.acr_congr HAR.out (fun x h1 _ => HSM.out x h1) g4 g6⟩
                clear HCU HAL HAR HM HSM HP HBV
                by_cases q1 : mid < e
                · by_cases q2 : e < b
                  · have z1 : (mid : Int) < (e : Int) := by omega
                    have z2 : (e : Int) < (b : Int) := by omega
                    have hx := HIH.out mid e b d2 wc (by omega) q1 q2 (by have := HZ2.out; omega) (by have := HZ2.out; omega) HK2.out S3.out R1.out R2.out RA.out
                    rw [HZ2.out] at hx
                    have HX := Aside0.mk hx
                    clear hx
                    go_wp2_with (go_at_call 37; with_reducible refine HX.out.mono ?_; rintro e' w1 ⟨rfl, d3, hs2, hr2⟩; have HS2 := Aside0.mk hs2; have HR2 := Aside0.mk hr2; clear hs2 hr2)
                    go_end0
                    exact ⟨rfl, d3, HS2.out, FIN.out d3 HR2.out⟩
                  · have z1 : (mid : Int) < (e : Int) := by omega
                    have z2 : ¬ (e : Int) < (b : Int) := by omega
                    have hme : Aside0 (TP.Merged lt mid b d2 d2) := ⟨TP.merged_refl (by have := R1.out; rwa [show e = b by omega] at this)⟩
                    go_wp2_with fail
                    go_end0
                    exact ⟨rfl, d2, S3.out, FIN.out d2 hme.out⟩
                · have z1 : ¬ (mid : Int) < (e : Int) := by omega
                  have hme : Aside0 (TP.Merged lt mid b d2 d2) := ⟨TP.merged_refl (by have := R2.out; rwa [show e = mid by omega] at this)⟩
                  go_wp2_with fail
                  go_end0
                  exact ⟨rfl, d2, S3.out, FIN.out d2 hme.out⟩
/-- The merge, whatever the rows' lengths. -/
theorem sym_all (g : Nat) (cb : Array Value) (cf : Int → Int → Int) (lt : Int → Int → Bool) (hS : SWO lt) (hI : ∀ w w', I w → Below w.heap.size w w' → I w') (hI2 : ∀ w (a : Addr) v, a.block = blk → I w → I (w.setCell a v))
    (eg : ∀ args w, (callFunc g args).run Try.prog w = .ok (.enter g args) w) (ok : Int → Prop)
    (hc : ∀ (w : World) (x y : Int), I w → ok x → ok y → Calls Try.prog g (#[.int .i64 x, .int .i64 y] ++ cb) w fun e w' => e = .returned (.int .i64 (cf x y)) ∧ Below w.heap.size w w') :
    ∀ (N a m b : Nat) (d : Array Int) (w : World), b - a < N → a < m → m < b → b ≤ d.size → d.size < 1000000 → (∀ i, i < d.size → ok d[i]!) → SX I blk d w → SortedIn lt a m d → SortedIn lt m b d → TP.Acr (ltc cf) lt a m b d →
      Calls Try.prog 37 #[.slice (some ⟨blk, 0, none⟩) d.size d.size, .int .i64 a, .int .i64 m, .int .i64 b, .func (.func g) #[] cb] w fun e w' => e = .returned (.tuple #[]) ∧ ∃ d', SX I blk d' w' ∧ TP.Merged lt a b d d'
  | 0, _, _, _, _, _, h, _, _, _, _, _, _, _, _, _ => absurd h (Nat.not_lt_zero _)
  | N + 1, a, m, b, d, w, h, h1, h2, h3, h4, h5, h6, h7, h8, h9 =>
    sym_walk g cb cf lt hS hI hI2 eg ok hc N (sym_all g cb cf lt hS hI hI2 eg ok hc N) a m b d w (by omega) h1 h2 h3 h4 h5 h6 h7 h8 h9
end Go.Proofs.Ytojdmloimmcacaa.TS
