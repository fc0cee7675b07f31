/- The law OtsSigns, walked. No conditions. -/
import Derived.Test.YtfkafejoacpclaaOtsRefS
import Derived.Test.YtfkafejoacpclaaOtsKeys
namespace Go.Proofs.Ytfkafejoacpclaa
open Go.RowKit
set_option linter.unusedVariables false
set_option linter.unusedSimpArgs false
set_option maxHeartbeats 8000000 in
set_option maxRecDepth 100000 in
theorem otsSigns_calls (seed msg : ByteArray) (q : Int) (w : World) :
    Calls Try.prog 10 #[.string seed, .string msg, .int .i64 q] w fun e w' => e = .returned (.bool true) ∧ Below w.heap.size w w' := by
  have AW := fun w => awake03_calls w
  have M := fun w => make_calls w
  have hsz : (Try.prog.info? 29).map (·.size) = some (arr .u32 (K64 ++ H8.L)).size := by kernel_rfl
  have htz : (arr .u32 (K64 ++ H8.L)).size = Try.zeroCells29.size := by kernel_rfl
  have ho1 : (arr .u32 (K64 ++ H8.L)).toList.all (·.oneCell') = true := by kernel_rfl
  replace AW := Lib.hid AW
  have hB : Later w w := Later.refl w
  by_cases hs1 : seed.size ≤ 100
  · have qs1 : ((100 : Int) < seed.size) = False := eq_false (by omega)
    by_cases hs2 : msg.size ≤ 100
    · have qs2 : ((100 : Int) < msg.size) = False := eq_false (by omega)
      by_cases h1 : q < 0
      · have q1 : (q < 0) = True := eq_true h1
        have SB := fun w => sign_bad q (.inl h1) seed msg w
        generalize arr .u32 (K64 ++ H8.L) = tb at *
        replace M := Lib.hid M
        replace SB := Lib.hid SB
        go_enter Try.func10, Try.ntmps10
        go_wp2_with (first | ((with_reducible refine (AW.out _).mono ?_); rintro e w4 ⟨rfl, hb4⟩; replace hB := Later.trans hB hb4) | ((with_reducible refine (M.out _).mono ?_); rintro e w6 ⟨rfl, hb6⟩; replace hB := Later.trans hB hb6; have hZ := Whole.new w6 29 Try.zeroCells29; have hG6 := hB.size; replace hB := hB.alloc (.cells Try.zeroCells29 29)) | ((with_reducible apply wl_storeW (ty := 29) hZ); rfl; rfl; rfl; kernel_rfl; exact htz; exact ho1; intro wS hT hgS hzS; replace hB := below_only' hB hgS hG6; clear hgS hzS hZ) | ((with_reducible apply wl_loadW (ty := 29) hT Try.underlying29); rfl; rfl; rfl; exact hsz) | ((with_reducible refine (SB.out _).mono ?_); rintro e w8 ⟨rfl, hb8⟩; replace hB := Later.trans hB hb8; replace hT := Later.whole hb8 hT; clear hb8))
        go_returns
        go_light
        exact ⟨rfl, hB⟩
      · have q1 : (q < 0) = False := eq_false h1
        by_cases h2 : 7 < q
        · have q2 : (7 < q) = True := eq_true h2
          have SB := fun w => sign_bad q (.inr (by omega)) seed msg w
          generalize arr .u32 (K64 ++ H8.L) = tb at *
          replace M := Lib.hid M
          replace SB := Lib.hid SB
          go_enter Try.func10, Try.ntmps10
          go_wp2_with (first | ((with_reducible refine (AW.out _).mono ?_); rintro e w4 ⟨rfl, hb4⟩; replace hB := Later.trans hB hb4) | ((with_reducible refine (M.out _).mono ?_); rintro e w6 ⟨rfl, hb6⟩; replace hB := Later.trans hB hb6; have hZ := Whole.new w6 29 Try.zeroCells29; have hG6 := hB.size; replace hB := hB.alloc (.cells Try.zeroCells29 29)) | ((with_reducible apply wl_storeW (ty := 29) hZ); rfl; rfl; rfl; kernel_rfl; exact htz; exact ho1; intro wS hT hgS hzS; replace hB := below_only' hB hgS hG6; clear hgS hzS hZ) | ((with_reducible apply wl_loadW (ty := 29) hT Try.underlying29); rfl; rfl; rfl; exact hsz) | ((with_reducible refine (SB.out _).mono ?_); rintro e w8 ⟨rfl, hb8⟩; replace hB := Later.trans hB hb8; replace hT := Later.whole hb8 hT; clear hb8))
          go_returns
          go_light
          exact ⟨rfl, hB⟩
        · have q2 : (7 < q) = False := eq_false h2
          obtain ⟨n, rfl⟩ : ∃ n : Nat, q = n := ⟨q.toNat, by omega⟩
          have SG := fun w => sign_calls seed (by omega) n (by omega) msg (by omega) w
          have PB := fun w => public_calls seed (by omega) w
          have VO := fun w => verify_own seed msg (by omega) n (by omega) w
          have RS := fun w => refSign_calls seed (by omega) n (by omega) msg (by omega) w
          have RN : ∀ w : World, Calls Try.prog 40 #[.string seed, .int .i64 3, .int .i64 0] w fun e w' => e = .returned (.string (nodeN seed 3 0)) ∧ Below w.heap.size w w' := fun w => refNode_calls seed (by omega) 3 0 w (by omega) (by omega)
          generalize nodeN seed 3 0 = PK at *
          generalize sigN seed n msg = sg at *
          generalize arr .u32 (K64 ++ H8.L) = tb at *
          replace M := Lib.hid M
          replace SG := Lib.hid SG
          replace PB := Lib.hid PB
          replace VO := Lib.hid VO
          replace RS := Lib.hid RS
          replace RN := Lib.hid RN
          go_enter Try.func10, Try.ntmps10
          go_wp2_with (first | ((with_reducible refine (AW.out _).mono ?_); rintro e w4 ⟨rfl, hb4⟩; replace hB := Later.trans hB hb4) | ((with_reducible refine (M.out _).mono ?_); rintro e w6 ⟨rfl, hb6⟩; replace hB := Later.trans hB hb6; have hZ := Whole.new w6 29 Try.zeroCells29; have hG6 := hB.size; replace hB := hB.alloc (.cells Try.zeroCells29 29)) | ((with_reducible apply wl_storeW (ty := 29) hZ); rfl; rfl; rfl; kernel_rfl; exact htz; exact ho1; intro wS hT hgS hzS; replace hB := below_only' hB hgS hG6; clear hgS hzS hZ) | ((with_reducible apply wl_loadW (ty := 29) hT Try.underlying29); rfl; rfl; rfl; exact hsz) | ((with_reducible refine (SG.out _).mono ?_); rintro e w8 ⟨rfl, hb8⟩; replace hB := Later.trans hB hb8; replace hT := Later.whole hb8 hT; clear hb8) | ((with_reducible refine (PB.out _).mono ?_); rintro e w8 ⟨rfl, hb8⟩; replace hB := Later.trans hB hb8; replace hT := Later.whole hb8 hT; clear hb8) | ((with_reducible refine (VO.out _).mono ?_); rintro e w8 ⟨rfl, hb8⟩; replace hB := Later.trans hB hb8; replace hT := Later.whole hb8 hT; clear hb8) | ((with_reducible refine (RS.out _).mono ?_); rintro e w8 ⟨rfl, hb8⟩; replace hB := Later.trans hB hb8; replace hT := Later.whole hb8 hT; clear hb8) | ((with_reducible refine (RN.out _).mono ?_); rintro e w8 ⟨rfl, hb8⟩; replace hB := Later.trans hB hb8; replace hT := Later.whole hb8 hT; clear hb8))
          go_returns
          go_light
          exact ⟨by first | rfl | simp, hB⟩
    · have qs2 : ((100 : Int) < msg.size) = True := eq_true (by omega)
      go_enter Try.func10, Try.ntmps10
      go_wp2_with (first | ((with_reducible refine (AW.out _).mono ?_); rintro e w4 ⟨rfl, hb4⟩; replace hB := Later.trans hB hb4))
      go_returns
      go_light
      exact ⟨rfl, hB⟩
  · have qs1 : ((100 : Int) < seed.size) = True := eq_true (by omega)
    go_enter Try.func10, Try.ntmps10
    go_wp2_with (first | ((with_reducible refine (AW.out _).mono ?_); rintro e w4 ⟨rfl, hb4⟩; replace hB := Later.trans hB hb4))
    go_returns
    go_light
    exact ⟨rfl, hB⟩
end Go.Proofs.Ytfkafejoacpclaa
