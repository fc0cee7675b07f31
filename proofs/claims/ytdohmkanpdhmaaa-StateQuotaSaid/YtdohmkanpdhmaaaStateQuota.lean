/- The walk of the law StateQuota. Condition: the four numbers are bytes. -/
import Derived.Test.YtdohmkanpdhmaaaState5
namespace Go.Proofs.Ytdohmkanpdhmaaa
open Go.RowKit
set_option linter.unusedVariables false
set_option linter.unusedSimpArgs false
def AppAt (w w' : World) (e : Ending) (s : ST) (x : Array Value) (hv : Value) : Prop := ∃ A cap, e = .returned (.tuple #[.agg (s.A (.slice A s.l.length cap) hv), .agg x]) ∧ RowAt w' (.slice A s.l.length cap) s.l ∧ Below w.heap.size w w'
theorem put_cl (s : ST) (c : Nat) (hc : c < 4) (x : Cl) (l : List Rq) : (s.put c x l).cl c = x ∧ (s.put c x l).l = l ∧ ∀ d, d < 4 → d ≠ c → (s.put c x l).cl d = s.cl d := by
  refine ⟨?_, ?_, fun d hd hne => ?_⟩
  · rcases c with _ | _ | _ | _ | c <;> first | rfl | omega
  · rcases c with _ | _ | _ | _ | c <;> first | rfl | omega
  · rcases c with _ | _ | _ | _ | c <;> rcases d with _ | _ | _ | _ | d <;> first | rfl | omega
def QR (c i : Nat) : Rq := ⟨c, 3 * i, ⟨#[108]⟩, ⟨#[]⟩, ⟨#[]⟩⟩
theorem QR_right (c i : Nat) (hc : c < 4) (hi : 1 ≤ i) (hi2 : i ≤ 30) : (QR c i).right = true := by
  have h1 : ((⟨#[108]⟩ : ByteArray).size : Int) = 1 := rfl
  have h2 : ((⟨#[]⟩ : ByteArray).size : Int) = 0 := rfl
  have h3 : (⟨#[]⟩ : ByteArray) = ByteArray.empty := rfl
  simp only [QR, Rq.right, h1, h2, h3]
  simp
  omega
/-- A call of the law: what it answers, and leaves. -/
theorem quota_step (s : ST) (c i had : Nat) (hc : c < 4) (hi : 1 ≤ i) (hi2 : i ≤ 30) (hn : (s.cl c).n = had) (hq : (s.cl c).q ≤ 3 * ((i : Int) - 1)) (h20 : had ≤ 20) (h64 : s.l.length ≤ 64) :
    (had = 20 → s.ap 0 (QR c i) = (s, ⟨6, 0, 0⟩)) ∧ (had ≠ 20 → s.l.length = 64 → s.ap 0 (QR c i) = (s, ⟨10, 0, 0⟩)) ∧
      (had ≠ 20 → s.l.length ≠ 64 → ∃ s2, s.ap 0 (QR c i) = (s2, ⟨0, s.l.length, 1⟩) ∧ s2.l.length = s.l.length + 1 ∧ (s2.cl c).n = (had + 1 : Nat) ∧ (s2.cl c).q = 3 * (i : Int) ∧ ∀ d, d < 4 → d ≠ c → s2.cl d = s.cl d) := by
  have hr := QR_right c i hc hi hi2
  have e0 : s.ap 0 (QR c i) = if (3 * i : Int) = (s.cl c).q then (s, (s.cl c).r) else if (3 * i : Int) < (s.cl c).q then (s, ⟨7, 0, 0⟩) else if 20 ≤ (s.cl c).n then (s, ⟨6, 0, 0⟩) else if 64 ≤ s.l.length then (s, ⟨10, 0, 0⟩)
      else (s.put c ⟨3 * i, (s.cl c).n + 1, 0, s.l.length, (0 : Nat) + 1⟩ (s.l ++ [QR c i]), ⟨0, s.l.length, (0 : Nat) + 1⟩) := by
    unfold ST.ap
    rw [if_neg (by rw [hr]; simp)]
    rfl
  rw [e0, if_neg (by omega), if_neg (by omega)]
  refine ⟨fun h => if_pos (by omega), fun h h2 => ?_, fun h h2 => ?_⟩
  · rw [if_neg (by omega), if_pos (by omega)]
  · rw [if_neg (by omega), if_neg (by omega)]
    obtain ⟨p1, p2, p3⟩ := put_cl s c hc ⟨3 * i, (s.cl c).n + 1, 0, s.l.length, (0 : Nat) + 1⟩ (s.l ++ [QR c i])
    exact ⟨_, rfl, by rw [p2]; simp, by rw [p1]; simp only [hn]; omega, by rw [p1], p3⟩
set_option maxHeartbeats 400000 in
set_option maxRecDepth 100000 in
theorem awake11_calls (w : World) : Calls Try.prog 21 #[] w fun e w' => e = .returned (.bool true) ∧ Below w.heap.size w w' := by
  obtain ⟨s2, hs2⟩ : ∃ s2, ST.zero.ap 0 ⟨0, 1, ⟨#[97]⟩, ⟨#[]⟩, ⟨#[]⟩⟩ = (s2, ⟨0, 0, 1⟩) := by
    refine ⟨ST.zero.put 0 ⟨1, 1, 0, 0, 1⟩ [⟨0, 1, ⟨#[97]⟩, ⟨#[]⟩, ⟨#[]⟩⟩], ?_⟩
    unfold ST.ap
    rw [if_neg (by decide), if_neg (by decide), if_neg (by decide), if_neg (by decide), if_neg (by decide)]
    rfl
  have P : Calls Try.prog 22 #[.agg #[.slice none 0 0, .int .i64 0, .int .i64 0, .int .i64 0, .int .i64 0, .int .i64 0, .int .i64 0, .int .i64 0, .int .i64 0, .int .i64 0, .int .i64 0, .int .i64 0, .int .i64 0, .int .i64 0, .int .i64 0, .int .i64 0, .int .i64 0, .int .i64 0, .int .i64 0, .int .i64 0, .int .i64 0, .slice none 0 0], .agg #[.int .i64 0, .int .i64 1, .string ⟨#[97]⟩, .string ⟨#[]⟩, .string ⟨#[]⟩]] w fun e w' => AppAt w w' e s2 #[.int .i64 0, .int .i64 0, .int .i64 1] (.slice none 0 0) := by
    have := apply_calls w ST.zero ⟨0, 1, ⟨#[97]⟩, ⟨#[]⟩, ⟨#[]⟩⟩ none none 0 0 0 (RowAt.nil w) (by decide) (by decide)
    rw [hs2] at this
    exact this
  replace P := Lib.hid P
  clear hs2
  have hB : Below w.heap.size w w := Below.refl _ _
  go_enter Try.func21, Try.ntmps21
  go_wp2_with (first | ((with_reducible refine P.out.mono ?_); rintro e w2 ⟨A, cap, rfl, hrow, hb⟩; have h1 := (Whole.new w2 52 #[.slice none 0 0, .int .i64 0, .int .i64 0, .int .i64 0, .int .i64 0, .int .i64 0, .int .i64 0, .int .i64 0, .int .i64 0, .int .i64 0, .int .i64 0, .int .i64 0, .int .i64 0, .int .i64 0, .int .i64 0, .int .i64 0, .int .i64 0, .int .i64 0, .int .i64 0, .int .i64 0, .int .i64 0, .slice none 0 0]).alloc (.cells #[.int .i64 0, .int .i64 0, .int .i64 0] 46); have h2 := Whole.new1 w2 (.cells #[.slice none 0 0, .int .i64 0, .int .i64 0, .int .i64 0, .int .i64 0, .int .i64 0, .int .i64 0, .int .i64 0, .int .i64 0, .int .i64 0, .int .i64 0, .int .i64 0, .int .i64 0, .int .i64 0, .int .i64 0, .int .i64 0, .int .i64 0, .int .i64 0, .int .i64 0, .int .i64 0, .int .i64 0, .slice none 0 0] 52) 46 #[.int .i64 0, .int .i64 0, .int .i64 0]; replace hB := (hb.alloc hb.size (.cells #[.slice none 0 0, .int .i64 0, .int .i64 0, .int .i64 0, .int .i64 0, .int .i64 0, .int .i64 0, .int .i64 0, .int .i64 0, .int .i64 0, .int .i64 0, .int .i64 0, .int .i64 0, .int .i64 0, .int .i64 0, .int .i64 0, .int .i64 0, .int .i64 0, .int .i64 0, .int .i64 0, .int .i64 0, .slice none 0 0] 52)).alloc (hb.alloc hb.size (.cells #[.slice none 0 0, .int .i64 0, .int .i64 0, .int .i64 0, .int .i64 0, .int .i64 0, .int .i64 0, .int .i64 0, .int .i64 0, .int .i64 0, .int .i64 0, .int .i64 0, .int .i64 0, .int .i64 0, .int .i64 0, .int .i64 0, .int .i64 0, .int .i64 0, .int .i64 0, .int .i64 0, .int .i64 0, .slice none 0 0] 52)).size (.cells #[.int .i64 0, .int .i64 0, .int .i64 0] 46); have hsz := hb.size) | (((with_reducible apply wl_storeW (ty := 52) h1); rfl; rfl; rfl; kernel_rfl; rfl; rfl; intro w5 hs5 hg5 hz5); have j2 := h2.only hg5 (by simp)) | ((with_reducible apply wl_storeW (ty := 46) j2); rfl; rfl; rfl; kernel_rfl; rfl; rfl; intro w6 hs6 hg6 hz6) | (first | ((with_reducible apply wl_loadW (ty := 46) hs6 Try.underlying46); rfl; rfl; rfl; kernel_rfl) | ((with_reducible apply wl_loadW (ty := 46) (hs6.alloc _) Try.underlying46); rfl; rfl; rfl; kernel_rfl) | ((with_reducible apply wl_loadW (ty := 46) ((hs6.alloc _).alloc _) Try.underlying46); rfl; rfl; rfl; kernel_rfl)))
  go_returns
  exact ⟨rfl, below_only' (below_only' hB hg5 (by omega)) hg6 (by omega)⟩
def pick4 (n0 n1 n2 n3 : Int) (c : Nat) : Int := match c with | 0 => n0 | 1 => n1 | 2 => n2 | _ => n3
set_option maxHeartbeats 1000000 in
set_option maxRecDepth 100000 in
theorem stateQuota_calls (n0 n1 n2 n3 : Int) (h0 : 0 ≤ n0 ∧ n0 < 256) (h1 : 0 ≤ n1 ∧ n1 < 256) (h2 : 0 ≤ n2 ∧ n2 < 256) (h3 : 0 ≤ n3 ∧ n3 < 256) (w : World) :
    Calls Try.prog 6 #[.agg #[.int .u8 n0, .int .u8 n1, .int .u8 n2, .int .u8 n3]] w fun e w' => e = .returned (.bool true) ∧ Below w.heap.size w w' := by
  have hpick : ∀ c, c < 4 → 0 ≤ pick4 n0 n1 n2 n3 c ∧ pick4 n0 n1 n2 n3 c < 256 := by
    intro c hc
    match c, hc with
    | 0, _ => exact h0
    | 1, _ => exact h1
    | 2, _ => exact h2
    | 3, _ => exact h3
  have hN := Whole.new w 42 #[.int .u8 n0, .int .u8 n1, .int .u8 n2, .int .u8 n3]
  have hcell : ∀ W, Whole W w.heap.size 42 #[.int .u8 n0, .int .u8 n1, .int .u8 n2, .int .u8 n3] → ∀ c, c < 4 → W.cell? ⟨w.heap.size, c, none⟩ = some (.int .u8 (pick4 n0 n1 n2 n3 c)) := by
    intro W H c hc
    match c, hc with
    | 0, _ => exact H.cell 0
    | 1, _ => exact H.cell 1
    | 2, _ => exact H.cell 2
    | 3, _ => exact H.cell 3
  have hB : Below w.heap.size w (w.alloc (.cells #[.int .u8 n0, .int .u8 n1, .int .u8 n2, .int .u8 n3] 42)) := by go_grown
  replace hcell := Lib.hid hcell
  replace hpick := Lib.hid hpick
  clear h0 h1 h2 h3
  go_enter Try.func6, Try.ntmps6
  go_wp2_with fail
  refine (awake11_calls _).mono ?_
  rintro e w1 ⟨rfl, hb1⟩
  replace hN := Whole.below (by first | (with_reducible exact hN) | (with_reducible exact hN.alloc _) | (with_reducible exact (hN.alloc _).alloc _) | (with_reducible exact hN.drewN _)) hb1 (by have := hN.lt; go_size)
  replace hB := below_next' (by first | (with_reducible exact hB) | (with_reducible exact hB.alloc hB.size _) | (with_reducible exact (hB.alloc hB.size _).alloc (hB.alloc hB.size _).size _) | exact below_drewN' hB _) hb1
  have hs := Whole.new w1 52 #[.slice none 0 0, .int .i64 0, .int .i64 0, .int .i64 0, .int .i64 0, .int .i64 0, .int .i64 0, .int .i64 0, .int .i64 0, .int .i64 0, .int .i64 0, .int .i64 0, .int .i64 0, .int .i64 0, .int .i64 0, .int .i64 0, .int .i64 0, .int .i64 0, .int .i64 0, .int .i64 0, .int .i64 0, .slice none 0 0]
  have hN1 := hN.alloc (.cells #[.slice none 0 0, .int .i64 0, .int .i64 0, .int .i64 0, .int .i64 0, .int .i64 0, .int .i64 0, .int .i64 0, .int .i64 0, .int .i64 0, .int .i64 0, .int .i64 0, .int .i64 0, .int .i64 0, .int .i64 0, .int .i64 0, .int .i64 0, .int .i64 0, .int .i64 0, .int .i64 0, .int .i64 0, .slice none 0 0] 52)
  have hB1 := hB.alloc hB.size (.cells #[.slice none 0 0, .int .i64 0, .int .i64 0, .int .i64 0, .int .i64 0, .int .i64 0, .int .i64 0, .int .i64 0, .int .i64 0, .int .i64 0, .int .i64 0, .int .i64 0, .int .i64 0, .int .i64 0, .int .i64 0, .int .i64 0, .int .i64 0, .int .i64 0, .int .i64 0, .int .i64 0, .int .i64 0, .slice none 0 0] 52)
  have hsz := hN.lt
  have hsz2 := hB.size
  go_wp2
  go_loopg [4, 5] 5 (fun kg t i wr => ∃ (c : Nat) (s : ST) (A : Option Addr) (cap : Nat), c ≤ 4 ∧ kg = 5 - c ∧ i = .int .i64 c ∧ t = .int .i64 s.l.length ∧ s.l.length ≤ 64 ∧ Whole wr w1.heap.size 52 (s.A (.slice A s.l.length cap) (.slice none 0 0)) ∧ RowAt wr (.slice A s.l.length cap) s.l ∧ (∀ d, c ≤ d → d < 4 → s.cl d = Cl.zero) ∧ Whole wr w.heap.size 42 #[.int .u8 n0, .int .u8 n1, .int .u8 n2, .int .u8 n3] ∧ Below w.heap.size w wr)
  case atStart => exact ⟨0, ST.zero, none, 0, by decide, rfl, rfl, rfl, by decide, hs, RowAt.nil _, fun d _ hd => (by match d, hd with | 0, _ => rfl | 1, _ => rfl | 2, _ => rfl | 3, _ => rfl), hN1, hB1⟩
  case round =>
    clear hs hN1 hB1 hN hB hb1
    obtain ⟨c, s, A, cap, hc, hkg, rfl, rfl, h64, hs, hrow, hz, hN, hB⟩ := hrel
    replace hkg := Lib.hid hkg
    by_cases hlt : c < 4
    · have e0 := hcell.out wr hN c hlt
      obtain ⟨hp0, hp1⟩ := hpick.out c hlt
      generalize pick4 n0 n1 n2 n3 c = q at e0 hp0 hp1
      have hz0 := hz c (Nat.le_refl _) hlt
      obtain ⟨kk, hkk, hkk2⟩ : ∃ kk : Nat, q % 30 = kk ∧ kk < 30 := ⟨(q % 30).toNat, by omega, by omega⟩
      replace hz := Lib.hid hz
      replace hrow := Lib.hid hrow
      go_wp2_with (fail)
      rw [decide_eq_true (show (c : Int) < 4 by omega)]
      replace hlt := Lib.hid hlt
      replace hkk := Lib.hid hkk
      clear hc
      go_loopg [4, 7, 8] (kk + 1) (fun kg2 t hd i wr2 => ∃ (s : ST) (A : Option Addr) (cap h j : Nat), 1 ≤ j ∧ j ≤ kk + 1 ∧ kg2 = kk + 2 - j ∧ i = .int .i64 j ∧ hd = .int .i64 h ∧ t = .int .i64 s.l.length ∧ h ≤ 20 ∧ s.l.length ≤ 64 ∧ (s.cl c).n = h ∧ (s.cl c).q ≤ 3 * ((j : Int) - 1) ∧ (∀ d, c < d → d < 4 → s.cl d = Cl.zero) ∧ Whole wr2 w1.heap.size 52 (s.A (.slice A s.l.length cap) (.slice none 0 0)) ∧ RowAt wr2 (.slice A s.l.length cap) s.l ∧ Whole wr2 w.heap.size 42 #[.int .u8 n0, .int .u8 n1, .int .u8 n2, .int .u8 n3] ∧ Below w.heap.size w wr2)
      case atStart => exact ⟨s, A, cap, 0, 1, Nat.le_refl _, by omega, by omega, rfl, rfl, rfl, by decide, h64, by rw [hz0]; rfl, by rw [hz0]; decide, fun d hd hd4 => hz.out d (by omega) hd4, hs, hrow.out, hN, hB⟩
      case round =>
        clear hs hrow hz hz0 hN hB e0 h64 A cap s
        obtain ⟨s, A, cap, h, j, hj1, hj2, hkg2, rfl, rfl, rfl, h20, h64, hn, hq, hz, hs, hrow, hN, hB⟩ := hrel
        replace hkg2 := Lib.hid hkg2
        by_cases hj : j ≤ kk
        · have hstep := quota_step s c j h hlt.out hj1 (by omega) hn hq h20 h64
          have P : ∀ W, RowAt W (.slice A s.l.length cap) s.l → Calls Try.prog 22 #[.agg (s.A (.slice A s.l.length cap) (.slice none 0 0)), .agg #[.int .i64 c, .int .i64 (3 * j), .string ⟨#[108]⟩, .string ⟨#[]⟩, .string ⟨#[]⟩]] W fun e w' => AppliedAt W w' e (s.ap 0 (QR c j)) (.slice none 0 0) :=
            fun W hr => apply_calls W s (QR c j) A none cap 0 0 hr (by show -9223372036854775808 ≤ (s.cl c).n; omega) (by omega)
          replace hz := Lib.hid hz
          replace hrow := Lib.hid hrow
          by_cases c1 : h = 20
          · rw [hstep.1 c1] at P
            replace P : ∀ W, RowAt W (.slice A s.l.length cap) s.l → Calls Try.prog 22 #[.agg (s.A (.slice A s.l.length cap) (.slice none 0 0)), .agg #[.int .i64 c, .int .i64 (3 * j), .string ⟨#[108]⟩, .string ⟨#[]⟩, .string ⟨#[]⟩]] W fun e w' => AppAt W w' e s #[.int .i64 6, .int .i64 0, .int .i64 0] (.slice none 0 0) := P
            replace P := Lib.hid P
            clear hstep
            subst c1
            (go_upto_region 14 with (first | (first | ((with_reducible apply wl_loadW (ty := 52) hs Try.underlying52); rfl; rfl; rfl; kernel_rfl) | ((with_reducible apply wl_loadW (ty := 52) (hs.alloc _) Try.underlying52); rfl; rfl; rfl; kernel_rfl) | ((with_reducible apply wl_loadW (ty := 52) ((hs.alloc _).alloc _) Try.underlying52); rfl; rfl; rfl; kernel_rfl)) | ((with_reducible refine (P.out _ hrow.out).mono ?_); rintro e w2 ⟨A2, cap2, rfl, hrow2, hb⟩; replace hs := hs.below hb hs.lt; replace hN := hN.below hb hN.lt; replace hB := below_next' hB hb; have g1 := (Whole.new w2 52 #[.slice none 0 0, .int .i64 0, .int .i64 0, .int .i64 0, .int .i64 0, .int .i64 0, .int .i64 0, .int .i64 0, .int .i64 0, .int .i64 0, .int .i64 0, .int .i64 0, .int .i64 0, .int .i64 0, .int .i64 0, .int .i64 0, .int .i64 0, .int .i64 0, .int .i64 0, .int .i64 0, .int .i64 0, .slice none 0 0]).alloc (.cells #[.int .i64 0, .int .i64 0, .int .i64 0] 46); have g2 := Whole.new1 w2 (.cells #[.slice none 0 0, .int .i64 0, .int .i64 0, .int .i64 0, .int .i64 0, .int .i64 0, .int .i64 0, .int .i64 0, .int .i64 0, .int .i64 0, .int .i64 0, .int .i64 0, .int .i64 0, .int .i64 0, .int .i64 0, .int .i64 0, .int .i64 0, .int .i64 0, .int .i64 0, .int .i64 0, .int .i64 0, .slice none 0 0] 52) 46 #[.int .i64 0, .int .i64 0, .int .i64 0]) | (((with_reducible apply wl_storeW (ty := 52) g1); rfl; rfl; rfl; kernel_rfl; rfl; rfl; intro w5 hs5 hg5 hz5); have g3 := g2.only hg5 (by simp)) | ((with_reducible apply wl_storeW (ty := 46) g3); rfl; rfl; rfl; kernel_rfl; rfl; rfl; intro w6 hs6 hg6 hz6))); have hb6 : Below w2.heap.size w2 w6 := below_only' (below_only' (((Below.refl w2.heap.size w2).alloc (Nat.le_refl _) (.cells #[.slice none 0 0, .int .i64 0, .int .i64 0, .int .i64 0, .int .i64 0, .int .i64 0, .int .i64 0, .int .i64 0, .int .i64 0, .int .i64 0, .int .i64 0, .int .i64 0, .int .i64 0, .int .i64 0, .int .i64 0, .int .i64 0, .int .i64 0, .int .i64 0, .int .i64 0, .int .i64 0, .int .i64 0, .slice none 0 0] 52)).alloc (by simp) (.cells #[.int .i64 0, .int .i64 0, .int .i64 0] 46)) hg5 (Nat.le_refl _)) hg6 (Nat.le_succ _); have hls := hs.lt; have hs5' := hs5.only hg6 (by simp); replace hs := hs.below hb6 hs.lt; replace hN := hN.below hb6 hN.lt; replace hB := below_next' hB hb6; replace hrow2 := Lib.hid (hrow2.below hb6); have y0 := hs6.cell 0; have y1 := hs6.cell 1; simp at y0 y1
            go_wp2_with (first | (first | ((with_reducible apply wl_loadW (ty := 52) hs5' Try.underlying52); rfl; rfl; rfl; kernel_rfl) | ((with_reducible apply wl_loadW (ty := 52) (hs5'.alloc _) Try.underlying52); rfl; rfl; rfl; kernel_rfl) | ((with_reducible apply wl_loadW (ty := 52) ((hs5'.alloc _).alloc _) Try.underlying52); rfl; rfl; rfl; kernel_rfl)) | ((with_reducible apply wl_storeW (ty := 52) hs); rfl; rfl; rfl; kernel_rfl; rfl; rfl; intro w7 hs7 hg7 hz7))
            go_roundg (kk + 1 - j)
            case measure => go_light; rw [hkg2.out]; omega
            case rel => go_light; exact ⟨s, A2, cap2, 20, j + 1, by omega, by omega, by omega, by go_num, rfl, rfl, by omega, h64, hn, by omega, hz.out, hs7, hrow2.out.kept hg7 hs (by decide), hN.only hg7 (by simp only [ne_eq, Option.some.injEq]; omega), below_only' hB hg7 hsz2⟩
          · by_cases c2 : s.l.length = 64
            · rw [hstep.2.1 c1 c2] at P
              replace P : ∀ W, RowAt W (.slice A s.l.length cap) s.l → Calls Try.prog 22 #[.agg (s.A (.slice A s.l.length cap) (.slice none 0 0)), .agg #[.int .i64 c, .int .i64 (3 * j), .string ⟨#[108]⟩, .string ⟨#[]⟩, .string ⟨#[]⟩]] W fun e w' => AppAt W w' e s #[.int .i64 10, .int .i64 0, .int .i64 0] (.slice none 0 0) := P
              replace P := Lib.hid P
              clear hstep
              have c3 : ¬ (h : Int) = 20 := by omega
              have c4 : (s.l.length : Int) = 64 := by omega
              replace c4 := Lib.hid c4
              replace c2 := Lib.hid c2
              (go_upto_region 14 with (first | (first | ((with_reducible apply wl_loadW (ty := 52) hs Try.underlying52); rfl; rfl; rfl; kernel_rfl) | ((with_reducible apply wl_loadW (ty := 52) (hs.alloc _) Try.underlying52); rfl; rfl; rfl; kernel_rfl) | ((with_reducible apply wl_loadW (ty := 52) ((hs.alloc _).alloc _) Try.underlying52); rfl; rfl; rfl; kernel_rfl)) | ((with_reducible refine (P.out _ hrow.out).mono ?_); rintro e w2 ⟨A2, cap2, rfl, hrow2, hb⟩; replace hs := hs.below hb hs.lt; replace hN := hN.below hb hN.lt; replace hB := below_next' hB hb; have g1 := (Whole.new w2 52 #[.slice none 0 0, .int .i64 0, .int .i64 0, .int .i64 0, .int .i64 0, .int .i64 0, .int .i64 0, .int .i64 0, .int .i64 0, .int .i64 0, .int .i64 0, .int .i64 0, .int .i64 0, .int .i64 0, .int .i64 0, .int .i64 0, .int .i64 0, .int .i64 0, .int .i64 0, .int .i64 0, .int .i64 0, .slice none 0 0]).alloc (.cells #[.int .i64 0, .int .i64 0, .int .i64 0] 46); have g2 := Whole.new1 w2 (.cells #[.slice none 0 0, .int .i64 0, .int .i64 0, .int .i64 0, .int .i64 0, .int .i64 0, .int .i64 0, .int .i64 0, .int .i64 0, .int .i64 0, .int .i64 0, .int .i64 0, .int .i64 0, .int .i64 0, .int .i64 0, .int .i64 0, .int .i64 0, .int .i64 0, .int .i64 0, .int .i64 0, .int .i64 0, .slice none 0 0] 52) 46 #[.int .i64 0, .int .i64 0, .int .i64 0]) | (((with_reducible apply wl_storeW (ty := 52) g1); rfl; rfl; rfl; kernel_rfl; rfl; rfl; intro w5 hs5 hg5 hz5); have g3 := g2.only hg5 (by simp)) | ((with_reducible apply wl_storeW (ty := 46) g3); rfl; rfl; rfl; kernel_rfl; rfl; rfl; intro w6 hs6 hg6 hz6))); have hb6 : Below w2.heap.size w2 w6 := below_only' (below_only' (((Below.refl w2.heap.size w2).alloc (Nat.le_refl _) (.cells #[.slice none 0 0, .int .i64 0, .int .i64 0, .int .i64 0, .int .i64 0, .int .i64 0, .int .i64 0, .int .i64 0, .int .i64 0, .int .i64 0, .int .i64 0, .int .i64 0, .int .i64 0, .int .i64 0, .int .i64 0, .int .i64 0, .int .i64 0, .int .i64 0, .int .i64 0, .int .i64 0, .int .i64 0, .slice none 0 0] 52)).alloc (by simp) (.cells #[.int .i64 0, .int .i64 0, .int .i64 0] 46)) hg5 (Nat.le_refl _)) hg6 (Nat.le_succ _); have hls := hs.lt; have hs5' := hs5.only hg6 (by simp); replace hs := hs.below hb6 hs.lt; replace hN := hN.below hb6 hN.lt; replace hB := below_next' hB hb6; replace hrow2 := Lib.hid (hrow2.below hb6); have y0 := hs6.cell 0; have y1 := hs6.cell 1; simp at y0 y1
              replace c4 := c4.out
              go_wp2_with (first | (first | ((with_reducible apply wl_loadW (ty := 52) hs5' Try.underlying52); rfl; rfl; rfl; kernel_rfl) | ((with_reducible apply wl_loadW (ty := 52) (hs5'.alloc _) Try.underlying52); rfl; rfl; rfl; kernel_rfl) | ((with_reducible apply wl_loadW (ty := 52) ((hs5'.alloc _).alloc _) Try.underlying52); rfl; rfl; rfl; kernel_rfl)) | ((with_reducible apply wl_storeW (ty := 52) hs); rfl; rfl; rfl; kernel_rfl; rfl; rfl; intro w7 hs7 hg7 hz7))
              go_roundg (kk + 1 - j)
              case measure => go_light; rw [hkg2.out]; omega
              case rel => go_light; exact ⟨s, A2, cap2, h, j + 1, by omega, by omega, by omega, by go_num, rfl, by first | rfl | (rw [c2.out]; rfl), by omega, h64, hn, by omega, hz.out, hs7, hrow2.out.kept hg7 hs (by decide), hN.only hg7 (by simp only [ne_eq, Option.some.injEq]; omega), below_only' hB hg7 hsz2⟩
            · obtain ⟨s2, hap, l1, l2, l3, l4⟩ := hstep.2.2 c1 c2
              rw [hap] at P
              replace P : ∀ W, RowAt W (.slice A s.l.length cap) s.l → Calls Try.prog 22 #[.agg (s.A (.slice A s.l.length cap) (.slice none 0 0)), .agg #[.int .i64 c, .int .i64 (3 * j), .string ⟨#[108]⟩, .string ⟨#[]⟩, .string ⟨#[]⟩]] W fun e w' => AppAt W w' e s2 #[.int .i64 0, .int .i64 s.l.length, .int .i64 1] (.slice none 0 0) := P
              replace P := Lib.hid P
              clear hstep hap
              replace l4 := Lib.hid l4
              replace l1 := Lib.hid l1
              replace l2 := Lib.hid l2
              replace l3 := Lib.hid l3
              have c3 : ¬ (h : Int) = 20 := by omega
              have c4 : ¬ (s.l.length : Int) = 64 := by omega
              (go_upto_region 14 with (first | (first | ((with_reducible apply wl_loadW (ty := 52) hs Try.underlying52); rfl; rfl; rfl; kernel_rfl) | ((with_reducible apply wl_loadW (ty := 52) (hs.alloc _) Try.underlying52); rfl; rfl; rfl; kernel_rfl) | ((with_reducible apply wl_loadW (ty := 52) ((hs.alloc _).alloc _) Try.underlying52); rfl; rfl; rfl; kernel_rfl)) | ((with_reducible refine (P.out _ hrow.out).mono ?_); rintro e w2 ⟨A2, cap2, rfl, hrow2, hb⟩; replace hs := hs.below hb hs.lt; replace hN := hN.below hb hN.lt; replace hB := below_next' hB hb; have g1 := (Whole.new w2 52 #[.slice none 0 0, .int .i64 0, .int .i64 0, .int .i64 0, .int .i64 0, .int .i64 0, .int .i64 0, .int .i64 0, .int .i64 0, .int .i64 0, .int .i64 0, .int .i64 0, .int .i64 0, .int .i64 0, .int .i64 0, .int .i64 0, .int .i64 0, .int .i64 0, .int .i64 0, .int .i64 0, .int .i64 0, .slice none 0 0]).alloc (.cells #[.int .i64 0, .int .i64 0, .int .i64 0] 46); have g2 := Whole.new1 w2 (.cells #[.slice none 0 0, .int .i64 0, .int .i64 0, .int .i64 0, .int .i64 0, .int .i64 0, .int .i64 0, .int .i64 0, .int .i64 0, .int .i64 0, .int .i64 0, .int .i64 0, .int .i64 0, .int .i64 0, .int .i64 0, .int .i64 0, .int .i64 0, .int .i64 0, .int .i64 0, .int .i64 0, .int .i64 0, .slice none 0 0] 52) 46 #[.int .i64 0, .int .i64 0, .int .i64 0]) | (((with_reducible apply wl_storeW (ty := 52) g1); rfl; rfl; rfl; kernel_rfl; rfl; rfl; intro w5 hs5 hg5 hz5); have g3 := g2.only hg5 (by simp)) | ((with_reducible apply wl_storeW (ty := 46) g3); rfl; rfl; rfl; kernel_rfl; rfl; rfl; intro w6 hs6 hg6 hz6))); have hb6 : Below w2.heap.size w2 w6 := below_only' (below_only' (((Below.refl w2.heap.size w2).alloc (Nat.le_refl _) (.cells #[.slice none 0 0, .int .i64 0, .int .i64 0, .int .i64 0, .int .i64 0, .int .i64 0, .int .i64 0, .int .i64 0, .int .i64 0, .int .i64 0, .int .i64 0, .int .i64 0, .int .i64 0, .int .i64 0, .int .i64 0, .int .i64 0, .int .i64 0, .int .i64 0, .int .i64 0, .int .i64 0, .int .i64 0, .slice none 0 0] 52)).alloc (by simp) (.cells #[.int .i64 0, .int .i64 0, .int .i64 0] 46)) hg5 (Nat.le_refl _)) hg6 (Nat.le_succ _); have hls := hs.lt; have hs5' := hs5.only hg6 (by simp); replace hs := hs.below hb6 hs.lt; replace hN := hN.below hb6 hN.lt; replace hB := below_next' hB hb6; replace hrow2 := Lib.hid (hrow2.below hb6); have y0 := hs6.cell 0; have y1 := hs6.cell 1; simp at y0 y1
              go_wp2_with (first | (first | ((with_reducible apply wl_loadW (ty := 52) hs5' Try.underlying52); rfl; rfl; rfl; kernel_rfl) | ((with_reducible apply wl_loadW (ty := 52) (hs5'.alloc _) Try.underlying52); rfl; rfl; rfl; kernel_rfl) | ((with_reducible apply wl_loadW (ty := 52) ((hs5'.alloc _).alloc _) Try.underlying52); rfl; rfl; rfl; kernel_rfl)) | ((with_reducible apply wl_storeW (ty := 52) hs); rfl; rfl; rfl; kernel_rfl; rfl; rfl; intro w7 hs7 hg7 hz7))
              go_roundg (kk + 1 - j)
              case measure => go_light; rw [hkg2.out]; omega
              case rel => go_light; exact ⟨s2, A2, cap2, h + 1, j + 1, by omega, by omega, by omega, by go_num, by go_num, by rw [l1.out]; go_num, by omega, by have := l1.out; omega, by rw [l2.out], by rw [l3.out]; omega, fun d hd hd4 => by rw [l4.out d hd4 (by omega)]; exact hz.out d hd hd4, hs7, hrow2.out.kept hg7 hs (by decide), hN.only hg7 (by simp only [ne_eq, Option.some.injEq]; omega), below_only' hB hg7 hsz2⟩
        · obtain rfl : j = kk + 1 := by omega
          go_wp2
          go_roundg (4 - c)
          case measure => go_light; rw [hkg.out]; have := hlt.out; omega
          case rel => go_light; exact ⟨c + 1, s, A, cap, by have := hlt.out; omega, by omega, by go_num, rfl, h64, hs, hrow, fun d hd hd4 => hz d (by omega) hd4, hN, hB⟩
    · obtain rfl : c = 4 := by omega
      have x0 : wr.cell? ⟨w1.heap.size, 0, none⟩ = some (.slice A s.l.length cap) := hs.cell 0
      go_wp2
      go_returns
      exact ⟨rfl, hB⟩
end Go.Proofs.Ytdohmkanpdhmaaa
