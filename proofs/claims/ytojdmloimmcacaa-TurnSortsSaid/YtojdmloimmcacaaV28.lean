/- Proved: what stableCmpFunc and SortStableFunc of slices do to the row of the places 0, 1, ..: the places in order by the comparison, then by the place; the comparison is a total preorder; no condition beyond the length. -/
import Derived.Test.YtojdmloimmcacaaV37
import Derived.Test.YtojdmloimmcacaaTB
import Derived.LoopN
namespace Go.Proofs.Ytojdmloimmcacaa.TS
open Go.RowKit Go.Sort Go.Proofs.YtojdmloimmcacaaW.PrintWords Go.Proofs.YtojdmloimmcacaaW.PrintLast Go.Proofs.YtojdmloimmcacaaW.PrintMore
set_option linter.unusedVariables false
set_option linter.unusedSimpArgs false
variable {I : World → Prop} {blk : Nat}
set_option maxHeartbeats 4000000 in
set_option maxRecDepth 100000 in
theorem stable_any (g : Nat) (cb : Array Value) (cf : Int → Int → Int) (hP : TP.Pre cf) (hI : ∀ w w', I w → Below w.heap.size w w' → I w') (hI2 : ∀ w (a : Addr) v, a.block = blk → I w → I (w.setCell a v))
    (eg : ∀ args w, (callFunc g args).run Try.prog w = .ok (.enter g args) w) (ok : Int → Prop)
    (hc : ∀ (w : World) (x y : Int), I w → ok x → ok y → Calls Try.prog g (#[.int .i64 x, .int .i64 y] ++ cb) w fun e w' => e = .returned (.int .i64 (cf x y)) ∧ Below w.heap.size w w')
    (n : Nat) (w : World) (hok : ∀ i, i < n → ok (TP.iota n)[i]!) (S : SX I blk (TP.iota n) w) (hsz : n < 100000) :
    Calls Try.prog 27 #[.slice (some ⟨blk, 0, none⟩) n n, .int .i64 n, .func (.func g) #[] cb] w fun e w' => e = .returned (.tuple #[]) ∧ SX I blk (TP.sorts cf n) w' := by
  have HOK : Aside0 (∀ dk : Array Int, PermIn 0 n (TP.iota n) dk → ∀ i, i < dk.size → ok dk[i]!) := ⟨fun dk hp => TP.ok_perm (fun i hi => hok i (by rw [TP.iota_size] at hi; exact hi)) hp (by rw [TP.iota_size]; exact Nat.le_refl _)⟩
  have HINS : Aside0 (∀ (a b P : Nat) (dk : Array Int) (w : World), SX I blk dk w → a ≤ b → b ≤ n → b ≤ a + 20 → a = P * 20 → TP.Prog (TP.lt2 cf) 1 20 a n dk → Calls Try.prog 36 #[.slice (some ⟨blk, 0, none⟩) n n, .int .i64 a, .int .i64 b, .func (.func g) #[] cb] w fun e w' => e = .returned (.tuple #[]) ∧ ∃ d', SX I blk d' w' ∧ TP.Prog (TP.lt2 cf) 1 20 b n d') := ⟨fun a b P dk w S h1 h2 h3 h4 hp => by
    have hs := hp.size
    have := ins_walk (I := I) (blk := blk) g cb cf hI hI2 eg ok hc a b dk w (HOK.out dk hp.perm) S h1 (by omega) (by omega)
    rw [hs] at this
    refine this.mono fun e w' h => ⟨h.1, _, h.2.1, ?_⟩
    exact hp.step P 20 h4 rfl h1 h3 h2 (hp.ins hP P h4 h1 h2).2⟩
  have HSYM : Aside0 (∀ (a m b s P : Nat) (dk : Array Int) (w : World), SX I blk dk w → a < m → m < b → b ≤ n → m = a + s → b ≤ a + 2 * s → a = P * (2 * s) → TP.Prog (TP.lt2 cf) s (2 * s) a n dk → Calls Try.prog 37 #[.slice (some ⟨blk, 0, none⟩) n n, .int .i64 a, .int .i64 m, .int .i64 b, .func (.func g) #[] cb] w fun e w' => e = .returned (.tuple #[]) ∧ ∃ d', SX I blk d' w' ∧ TP.Prog (TP.lt2 cf) s (2 * s) b n d') := ⟨fun a m b s P dk w S h1 h2 h3 h4 h5 h6 hp => by
    have hs := hp.size
    have ha : a = (P * 2) * s := by rw [h6, Nat.mul_assoc]
    subst h4
    have := sym_all (I := I) (blk := blk) g cb cf (TP.lt2 cf) (TP.swo2 hP) hI hI2 eg ok hc (b + 1) a (a + s) b dk w (by omega) h1 h2 (by omega) (by omega) (HOK.out dk hp.perm) S (hp.left (P * 2) ha (a + s) (by omega) (by omega)) (hp.right (P * 2) ha b (by omega) h3) (hp.acr (P * 2) ha b h3)
    rw [hs] at this
    refine this.mono fun e w' h => ⟨h.1, ?_⟩
    obtain ⟨d', h7, h8⟩ := h.2
    exact ⟨d', h7, hp.step P 2 h6 rfl (by omega) h5 h3 h8⟩⟩
  have S0 := Aside0.mk S
  have HP := Aside0.mk hP
  clear S hI hI2 hok hc hP eg
  go_enter Try.func27, Try.ntmps27
  go_wp2
  go_loopg [7, 8] n (fun g1 va vb wr => ∃ (a b : Nat) (dk : Array Int), va = .int .i64 a ∧ vb = .int .i64 b ∧ a ≤ n ∧ b ≤ n + 20 ∧ n - a ≤ g1 ∧ Aside0 (b = a + 20) ∧ Aside0 (∃ P, a = P * 20) ∧ Aside0 (SX I blk dk wr) ∧ Aside0 (TP.Prog (TP.lt2 cf) 1 20 a n dk))
  case atStart => exact ⟨0, 20, TP.iota n, rfl, rfl, by omega, by omega, by omega, ⟨rfl⟩, ⟨0, rfl⟩, S0, ⟨TP.Prog.start _ _ _⟩⟩
  case round =>
    clear S0
    obtain ⟨a, b, dk, rfl, rfl, han, hbn, hg, HB, HA, S1, HR⟩ := hrel
    by_cases hle : b ≤ n
    · have hlz : (b : Int) ≤ (n : Int) := by omega
      have hx := HINS.out a b HA.out.choose dk wr S1.out (by have := HB.out; omega) hle (by have := HB.out; omega) HA.out.choose_spec HR.out
      have HX := Aside0.mk hx
      clear hx S1 HR
      go_wp2_with (go_at_call 36; with_reducible refine HX.out.mono ?_; rintro e w1 ⟨rfl, d2, hs2, hr2⟩; have HS2 := Aside0.mk hs2; have HR2 := Aside0.mk hr2; clear hs2 hr2)
      go_roundg (n - b)
      case measure => have := HB.out; omega
      case rel =>
        refine ⟨b, b + 20, d2, rfl, by first | rfl | go_num | (congr 1; omega), by omega, by omega, by omega, ⟨rfl⟩, ⟨?_⟩, HS2, HR2⟩
        obtain ⟨P, hP⟩ := HA.out
        exact ⟨P + 1, by rw [HB.out, hP, Nat.add_mul]⟩
    · have hlz : ¬ (b : Int) ≤ (n : Int) := by omega
      have hx := HINS.out a n HA.out.choose dk wr S1.out han (Nat.le_refl _) (by have := HB.out; omega) HA.out.choose_spec HR.out
      have HX := Aside0.mk hx
      clear hx S1 HR HINS
      go_wp2_with (go_at_call 36; with_reducible refine HX.out.mono ?_; rintro e w1 ⟨rfl, d2, hs2, hr2⟩; have HS2 := Aside0.mk hs2; have HR2 := Aside0.mk (TP.Prog.next hr2 40); clear hs2 hr2)
      clear HX HA HB
      go_loopg [6, 7, 8, 9] n (fun g2 v6 v7 v8 v9 wr2 => ∃ (s : Nat) (dk : Array Int), v6 = .int .i64 s ∧ 20 ≤ s ∧ s ≤ 2 * n + 20 ∧ n - s ≤ g2 ∧ Aside0 (SX I blk dk wr2) ∧ Aside0 (∀ u, TP.Prog (TP.lt2 cf) s u 0 n dk))
      case atStart => exact ⟨20, d2, rfl, by omega, by omega, by omega, HS2, ⟨fun u => ⟨HR2.out.perm, fun q i hi => by omega, HR2.out.hB, fun q i j _ _ hj => by omega, HR2.out.sB⟩⟩⟩
      case round =>
        clear HS2 HR2
        obtain ⟨s, dk, rfl, hs20, hs2n, hg2, S2, HR⟩ := hrel
        by_cases hsn : s < n
        · have hsz' : (s : Int) < (n : Int) := by omega
          go_wp2_with fail
          go_loopg [7, 8] n (fun g3 va vb wr3 => ∃ (a b : Nat) (dk : Array Int), va = .int .i64 a ∧ vb = .int .i64 b ∧ a ≤ n ∧ b ≤ n + 2 * s ∧ n - a ≤ g3 ∧ Aside0 (b = a + 2 * s) ∧ Aside0 (∃ P, a = P * (2 * s)) ∧ Aside0 (SX I blk dk wr3) ∧ Aside0 (TP.Prog (TP.lt2 cf) s (2 * s) a n dk))
          case atStart => exact ⟨0, 2 * s, dk, rfl, by first | rfl | go_num | (congr 1; omega), by omega, by omega, by omega, ⟨by omega⟩, ⟨0, by omega⟩, S2, ⟨HR.out _⟩⟩
          case round =>
            clear S2 HR
            obtain ⟨a, b, dk, rfl, rfl, han, hbn, hg3, HB, HA, S3, HR⟩ := hrel
            by_cases hle : b ≤ n
            · have hlz : (b : Int) ≤ (n : Int) := by omega
              have hx := HSYM.out a (a + s) b s HA.out.choose dk wr S3.out (by omega) (by have := HB.out; omega) hle rfl (by have := HB.out; omega) HA.out.choose_spec HR.out
              rw [show ((a + s : Nat) : Int) = (a : Int) + (s : Int) by omega] at hx
              have HX := Aside0.mk hx
              clear hx S3 HR
              go_wp2_with (go_at_call 37; with_reducible refine HX.out.mono ?_; rintro e w1 ⟨rfl, d2, hs2, hr2⟩; have HS2 := Aside0.mk hs2; have HR2 := Aside0.mk hr2; clear hs2 hr2)
              go_roundg (n - b)
              case measure => have := HB.out; omega
              case rel =>
                refine ⟨b, b + 2 * s, d2, rfl, by first | rfl | go_num | (congr 1; omega), by omega, by omega, by omega, ⟨rfl⟩, ⟨?_⟩, HS2, HR2⟩
                obtain ⟨P, hP⟩ := HA.out
                exact ⟨P + 1, by rw [HB.out, hP, Nat.add_mul, Nat.one_mul]⟩
            · have hlz : ¬ (b : Int) ≤ (n : Int) := by omega
              by_cases hmn : a + s < n
              · have hmz : (a : Int) + (s : Int) < (n : Int) := by omega
                have hx := HSYM.out a (a + s) n s HA.out.choose dk wr S3.out (by omega) hmn (Nat.le_refl _) rfl (by have := HB.out; omega) HA.out.choose_spec HR.out
                rw [show ((a + s : Nat) : Int) = (a : Int) + (s : Int) by omega] at hx
                have HX := Aside0.mk hx
                clear hx S3 HR
                go_wp2_with (go_at_call 37; with_reducible refine HX.out.mono ?_; rintro e w1 ⟨rfl, d2, hs2, hr2⟩; have HS2 := Aside0.mk hs2; have HR2 := Aside0.mk hr2; clear hs2 hr2)
                go_roundg (n - 2 * s)
                case measure => omega
                case rel => exact ⟨2 * s, d2, by first | rfl | go_num | (congr 1; omega), by omega, by omega, by omega, HS2, ⟨fun u => TP.Prog.next HR2.out u⟩⟩
              · have hmz : ¬ (a : Int) + (s : Int) < (n : Int) := by omega
                have HR2 : Aside0 (TP.Prog (TP.lt2 cf) s (2 * s) n n dk) := ⟨by
                  obtain ⟨P, hP⟩ := HA.out
                  exact HR.out.step P 2 hP rfl han (by omega) (Nat.le_refl _) (TP.merged_refl (HR.out.left (P * 2) (by rw [hP, Nat.mul_assoc]) n (by omega) (Nat.le_refl _)))⟩
                go_wp2_with fail
                go_roundg (n - 2 * s)
                case measure => omega
                case rel => exact ⟨2 * s, dk, by first | rfl | go_num | (congr 1; omega), by omega, by omega, by omega, S3, ⟨fun u => TP.Prog.next HR2.out u⟩⟩
        · have hsz' : ¬ (s : Int) < (n : Int) := by omega
          have HF : Aside0 (dk = TP.sorts cf n) := ⟨TP.only_sorts HP.out (HR.out 1).perm ((HR.out 1).all (by omega))⟩
          go_wp2
          go_end0
          exact ⟨rfl, by rw [← HF.out]; exact S2.out⟩
set_option maxHeartbeats 4000000 in
set_option maxRecDepth 100000 in
theorem sort_any (g : Nat) (cb : Array Value) (cf : Int → Int → Int) (hP : TP.Pre cf) (hI : ∀ w w', I w → Below w.heap.size w w' → I w') (hI2 : ∀ w (a : Addr) v, a.block = blk → I w → I (w.setCell a v))
    (eg : ∀ args w, (callFunc g args).run Try.prog w = .ok (.enter g args) w) (ok : Int → Prop)
    (hc : ∀ (w : World) (x y : Int), I w → ok x → ok y → Calls Try.prog g (#[.int .i64 x, .int .i64 y] ++ cb) w fun e w' => e = .returned (.int .i64 (cf x y)) ∧ Below w.heap.size w w')
    (n : Nat) (w : World) (hok : ∀ i, i < n → ok (TP.iota n)[i]!) (S : SX I blk (TP.iota n) w) (hsz : n < 100000) :
    Calls Try.prog 18 #[.slice (some ⟨blk, 0, none⟩) n n, .func (.func g) #[] cb] w fun e w' => e = .returned (.tuple #[]) ∧ SX I blk (TP.sorts cf n) w' := by
  have HC := Aside0.mk (stable_any g cb cf hP hI hI2 eg ok hc n w hok S hsz)
  clear hc hI hI2 S hok
  go_enter Try.func18, Try.ntmps18
  go_wp2_with (go_at_call 27; with_reducible refine HC.out.mono ?_; rintro e w1 ⟨rfl, hs⟩; have HS := Aside0.mk hs; clear hs)
  go_end0
  exact ⟨rfl, HS.out⟩
end Go.Proofs.Ytojdmloimmcacaa.TS
