/- Keys' leaves, rows going together, public keys: the program's. Conditions: seeds of at most 2^20 bytes. -/
import Derived.Test.YteipcmbbonfklaaOts3
import Derived.Test.YteipcmbbonfklaaBuildF
import Derived.Test.YteipcmbbonfklaaToolA
namespace Go.Proofs.Yteipcmbbonfklaa
open Go.RowKit
set_option linter.unusedVariables false
set_option linter.unusedSimpArgs false
/-- Worlds of which the second leaves what lies below B, and the builder b with its text. -/
def RB (B b : Nat) (s : ByteArray) (w w' : World) : Prop := Below B w w' ∧ (BAt B b s w → BAt B b s w')
theorem Rel.builder (B b : Nat) (s : ByteArray) : Rel (RB B b s) :=
  ⟨fun w => ⟨Below.refl B w, fun h => h⟩, fun h k => ⟨Below.trans h.1 k.1, fun x => k.2 (h.2 x)⟩, fun w => ⟨(Below.refl B w).drew, fun h => h.later ((Later.refl w).drew)⟩⟩
theorem RB.later {B b : Nat} {s : ByteArray} {w w' : World} (hB : B ≤ w.heap.size) (h : Below w.heap.size w w') : RB B b s w w' := ⟨Below.mono h hB, fun x => x.later h⟩
theorem RB.string {B b : Nat} {s : ByteArray} {w : World} (h : BAt B b s w) (h0 : s.size ≠ 0) :
    Calls Try.prog 116 #[.pointer (some ⟨b, 0, none⟩)] w fun e w' => e = .returned (.string s) ∧ RB B b s w w' :=
  (bs_calls B b s w h h0).mono fun e w' k => ⟨k.1, k.2.2, fun _ => k.2.1⟩
theorem begN_size (seed : ByteArray) (q i : Nat) : (begN seed q i).size = 32 := shaN_size _
theorem endsN_size (seed : ByteArray) (q : Nat) : ∀ n, (endsN seed q n).size = 32 * n
  | 0 => rfl
  | n + 1 => by rw [endsN_succ, ByteArray.size_append, endsN_size seed q n, wkN_size _ _ _ _ _ (by omega)]; omega
set_option maxHeartbeats 8000000 in
set_option maxRecDepth 100000 in
theorem leaves3_calls (seed : ByteArray) (hs : seed.size ≤ 1048576) (w : World) :
    Calls Try.prog 82 #[.agg (arr .u32 (K64 ++ H8.L)), .string seed] w fun e w' => (∃ v, e = .returned v ∧ TextRow 9 w.heap.size ((List.range 8).map (nodeN seed 0)) v w') ∧ Below w.heap.size w w' := by
  have hsz : (Try.prog.info? 31).map (·.size) = some (arr .u32 (K64 ++ H8.L)).size := by kernel_rfl
  have BC := fun (q i : Nat) w => begin_calls seed (by omega) q i w
  have WC : ∀ (q i : Nat) (w : World), Calls Try.prog 114 #[.agg (arr .u32 (K64 ++ H8.L)), .int .i64 q, .int .i64 i, .string (begN seed q i), .int .i64 0, .int .i64 15] w fun e w' => e = .returned (.string (wkN q i 0 (begN seed q i) 15)) ∧ Below w.heap.size w w' := fun q i w => walk_calls q i 0 15 (by omega) (by omega) (begN seed q i) (by rw [begN_size]; decide) w
  have LC := fun (q : Nat) w => leafO_calls q (endsN seed q 67) (by rw [endsN_size]; decide) w
  have hend0 : ∀ q, endsN seed q 0 = ⟨#[]⟩ := fun q => rfl
  have hends := fun q n => endsN_succ seed q n
  have hez := fun q n => endsN_size seed q n
  have hwz := fun q i => wkN_size q i 0 (begN seed q i) 15 (by omega)
  have hnode : ∀ q, leafO q (endsN seed q 67) = nodeN seed 0 q := fun q => rfl
  simp only [hnode] at LC
  have hrange : ∀ q, (List.range (q + 1)).map (nodeN seed 0) = (List.range q).map (nodeN seed 0) ++ [nodeN seed 0 q] := fun q => by rw [List.range_succ, List.map_append]; rfl
  have hrlen : ∀ q, ((List.range q).map (nodeN seed 0)).length = q := fun q => by simp
  generalize nodeN seed 0 = ND at *
  generalize endsN seed = EN at *
  generalize hBN : begN seed = BN at *
  generalize arr .u32 (K64 ++ H8.L) = tb at *
  have h1 := Whole.new w 31 tb
  have hB1 : Below w.heap.size w (w.alloc (.cells tb 31)) := by go_grown
  replace BC := Lib.hid BC
  replace WC := Lib.hid WC
  replace LC := Lib.hid LC
  replace hend0 := Lib.hid hend0
  replace hends := Lib.hid hends
  replace hez := Lib.hid hez
  replace hwz := Lib.hid hwz
  replace hrange := Lib.hid hrange
  replace hrlen := Lib.hid hrlen
  clear hnode hBN
  go_enter Try.func82, Try.ntmps82
  go_upto_region 1 with (fail)
  generalize hG : w.heap.size = G at *
  generalize w.alloc (.cells tb 31) = W1 at *
  have hl0 : Later W1 W1 := Later.refl W1
  have ho0 : TextRow 9 W1.heap.size ((List.range 0).map ND) (.slice none 0 0) W1 := World.ownsRow_nil _ _ _ _
  go_wp2_with (fail)
  go_loopg [5, 6, 7, 8, 9, 12] 9 (fun kg o q p i x y wr => ∃ k : Nat, x = .int .i64 k ∧ k ≤ 8 ∧ kg = 9 - k ∧ TextRow 9 W1.heap.size ((List.range k).map ND) o wr ∧ Later W1 wr)
  case atStart => exact ⟨0, rfl, by omega, rfl, ho0, hl0⟩
  case round =>
    clear hl0 ho0
    obtain ⟨q, rfl, hq, hkg, ho, hl⟩ := hrel
    replace hkg := Lib.hid hkg
    generalize wr = V at *
    by_cases hlt : q < 8
    · have hb0 := BAt.new V
      have hlb : Later V (V.alloc (.cells #[.pointer none, .slice none 0 0] 170)) := (Later.refl V).alloc _
      rw [← hend0.out q] at hb0
      replace ho := Lib.hid ho
      have q8 : ((q : Int) < 8) = True := eq_true (by omega)
      go_wp2_with (fail)
      generalize V.alloc (.cells #[.pointer none, .slice none 0 0] 170) = Wb at *
      go_loopg [8, 12] 68 (fun kg2 i y wr2 => ∃ j : Nat, y = .int .i64 j ∧ j ≤ 67 ∧ kg2 = 68 - j ∧ BAt V.heap.size V.heap.size (EN q j) wr2 ∧ Later V wr2)
      case atStart => exact ⟨0, rfl, by omega, rfl, hb0, hlb⟩
      case round =>
        clear hb0 hlb
        obtain ⟨j, rfl, hj, hkg2, hba, hlb⟩ := hrel
        replace hkg2 := Lib.hid hkg2
        have hT := Later.whole (hl.trans hlb) h1
        by_cases hlj : j < 67
        · have BQ := fun w => BC.out q j w
          have WQ := fun w => WC.out q j w
          have hes := hends.out q j
          have hjz := hez.out q j
          have hwj := hwz.out q j
          generalize wkN q j 0 (BN q j) 15 = X at *
          generalize BN q j = BX at *
          replace BQ := Lib.hid BQ
          replace WQ := Lib.hid WQ
          go_upto_region 9 with (fail)
          refine wp_region_grow 9 35 (by kernel_rfl) (by kernel_rfl) rfl (fun w5 hl5 => ?_)
          simp only [List.take_succ_cons, List.take_zero, List.drop_succ_cons, List.drop_zero]
          generalize ha : Act.mk _ _ = a0
          have k1 : a0.eval (.tmp 1) = .string seed := by subst ha; rfl
          have k2 : a0.eval (.tmp 2) = .pointer (some ⟨G, 0, none⟩) := by subst ha; rfl
          have k6 : a0.eval (.tmp 6) = .int .i64 q := by subst ha; rfl
          have k8 : a0.eval (.tmp 8) = .int .i64 j := by subst ha; rfl
          have ks : a0.tmps.size = 35 := by subst ha; rfl
          have ha0 := ha.symm
          clear ha
          refine wpG_loadW (hl5.whole hT) Try.underlying31 rfl (hsz) (fun a w hk => (hk 2 rfl : a.eval (.tmp 2) = a0.eval (.tmp 2)).trans k2) ?_
          refine wpG_move (fun a w hk => (hk 6 rfl : a.eval (.tmp 6) = a0.eval (.tmp 6)).trans k6) ?_
          refine wpG_move (fun a w hk => (hk 8 rfl : a.eval (.tmp 8) = a0.eval (.tmp 8)).trans k8) ?_
          refine wpG_loadW (hl5.whole hT) Try.underlying31 rfl (hsz) (fun a w hk => (hk 2 rfl : a.eval (.tmp 2) = a0.eval (.tmp 2)).trans k2) ?_
          refine wpG_move (fun a w hk => (hk 1 rfl : a.eval (.tmp 1) = a0.eval (.tmp 1)).trans k1) ?_
          refine wpG_move (fun a w hk => (hk 6 rfl : a.eval (.tmp 6) = a0.eval (.tmp 6)).trans k6) ?_
          refine wpG_move (fun a w hk => (hk 8 rfl : a.eval (.tmp 8) = a0.eval (.tmp 8)).trans k8) ?_
          refine wpG_call _ _ Try.func115 (by kernel_rfl) (by kernel_rfl) (fun W _ => BQ.out W) (fun a w hk => by have e18 : a.eval (.tmp 18) = _ := hk 18 rfl; have e19 : a.eval (.tmp 19) = _ := hk 19 rfl; have e20 : a.eval (.tmp 20) = _ := hk 20 rfl; have e21 : a.eval (.tmp 21) = _ := hk 21 rfl; simp [e18, e19, e20, e21]) ?_
          refine wpG_call _ _ Try.func114 (by kernel_rfl) (by kernel_rfl) (fun W _ => WQ.out W) (fun a w hk => by have e15 : a.eval (.tmp 15) = _ := hk 15 rfl; have e16 : a.eval (.tmp 16) = _ := hk 16 rfl; have e17 : a.eval (.tmp 17) = _ := hk 17 rfl; have e22 : a.eval (.tmp 22) = _ := hk 22 rfl; simp [e15, e16, e17, e22] <;> first | rfl | exact ⟨rfl, rfl⟩ | exact ⟨rfl, rfl, rfl⟩) ?_
          refine wpG_nil (fun w5' hl5' => ?_)
          refine fin_is ?_
          refine fin_is ?_
          refine fin_is ?_
          refine fin_is ?_
          refine fin_is ?_
          refine fin_is ?_
          refine fin_is ?_
          refine fin_is ?_
          refine fin_is ?_
          refine fin_nil ?_
          subst ha0
          clear k2 k6 k8 k1 ks
          simp only [Act.put, List.setIfInBounds_toArray, List.set_cons_succ, List.set_cons_zero]
          have hl55 := hl5.trans hl5'
          have hba5 := hba.later hl55
          have hlb5 := Later.trans hlb hl55
          have hlb5s := hlb5.size
          clear hl5 hl5' hl55 hba hlb BQ WQ hT
          replace hba5 := Lib.hid hba5
          go_wp2_with ((with_reducible refine (bw_calls _ _ _ X _ hba5.out (by rw [hjz, hwj]; omega) hlb5s).mono ?_); rintro e w6 ⟨rfl, hb6, hB6⟩)
          rw [← hes] at hb6
          replace hb6 := Lib.hid hb6
          have hlb6 := Below.trans hlb5 hB6
          clear hba5 hlb5 hB6 hes
          go_roundg (67 - j)
          case measure => go_light; rw [hkg2.out]; omega
          case rel => go_light; exact ⟨j + 1, by go_num, by omega, by omega, hb6.out, hlb6⟩
        · obtain rfl : j = 67 := by omega
          have h67 : (EN q 67).size ≠ 0 := by rw [hez.out]; decide
          have LQ := fun w => LC.out q w
          have hrq := hrange.out q
          have hrl := hrlen.out q
          generalize EN q 67 = E67 at *
          generalize hR1 : (List.range (q + 1)).map ND = R1 at *
          replace hR1 := Lib.hid hR1
          generalize (List.range q).map ND = R0 at *
          generalize ND q = NX at *
          replace LQ := Lib.hid LQ
          replace hba := Lib.hid hba
          have hkey : ∀ {W : World}, Below V.heap.size wr W → Later V W := fun hW => Below.trans hlb hW
          replace hkey := @hkey
          have hTw := Later.whole hl h1
          go_upto_region 11 with (fail)
          refine wp_region_any (by kernel_rfl) ?_
          change wpAny _ _ _ _ _ _ _ (World.drew _)
          have hlb2 : Later V wr.drew := hlb.drew
          have hba2 := hba.out.later ((Later.refl wr).drew)
          replace hba2 := Lib.hid hba2
          clear hlb hba hT hkey
          generalize wr.drew = W5 at *
          generalize ha : Act.mk _ _ = a0
          have k5 : a0.eval (.tmp 5) = u5 := by subst ha; rfl
          have k2 : a0.eval (.tmp 2) = .pointer (some ⟨G, 0, none⟩) := by subst ha; rfl
          have k6 : a0.eval (.tmp 6) = .int .i64 q := by subst ha; rfl
          have k7 : a0.eval (.tmp 7) = .pointer (some ⟨V.heap.size, 0, none⟩) := by subst ha; rfl
          have ks : a0.tmps.size = 35 := by subst ha; rfl
          have ha0 := ha.symm
          clear ha
          refine wpAny_take (i := 0) (v := u5) rfl (by kernel_rfl) (by kernel_rfl) (by kernel_rfl) (fun _ _ _ h => h) (Or.inl ⟨by rfl, fun w => by simp only [execOp, eval_put, size_put, ks, k5, k2, k6, k7]; go_simp⟩) ?_
          refine wpAny_take (i := 2) (v := .int .i64 q) rfl (by kernel_rfl) (by kernel_rfl) (by kernel_rfl) (fun _ _ _ h => h) (Or.inl ⟨by rfl, fun w => by simp only [execOp, eval_put, size_put, ks, k5, k2, k6, k7]; go_simp⟩) ?_
          refine anyCast (fuel := 6) (listed := #[true, false, true, false, false, false, false, false]) (by kernel_rfl) (by kernel_rfl) ?_
          refine anyGen fun a1 hA1 => ?_
          have m1 : a1.eval (.tmp 2) = .pointer (some ⟨G, 0, none⟩) := (by rw [hA1]; simp [eval_put, size_put, put_none, ks, k5, k2, k6, k7])
          have m2 : a1.eval (.tmp 7) = .pointer (some ⟨V.heap.size, 0, none⟩) := (by rw [hA1]; simp [eval_put, size_put, put_none, ks, k5, k2, k6, k7])
          have m3 : a1.eval (.tmp 26) = u5 := (by rw [hA1]; simp [eval_put, size_put, put_none, ks, k5, k2, k6, k7])
          have m4 : a1.eval (.tmp 28) = .int .i64 q := (by rw [hA1]; simp [eval_put, size_put, put_none, ks, k5, k2, k6, k7])
          have ms : a1.tmps.size = 35 := (by rw [hA1]; simp [eval_put, size_put, put_none, ks, k5, k2, k6, k7])
          refine any_two (i := 1) (j := 3) (by kernel_rfl) rfl rfl rfl rfl ?_ ?_
          · (refine wp_loadW (Later.whole hlb2 hTw) Try.underlying31 (by simp [eval_put, size_put, put_none, ms, m1, m2, m3, m4]) rfl hsz ?_)
            refine any_one (i := 3) (by kernel_rfl) rfl rfl ?_
            (refine wp_callf Try.func116 (by kernel_rfl) (by kernel_rfl) (vs := #[.pointer (some ⟨V.heap.size, 0, none⟩)]) (by simp [eval_put, size_put, put_none, ms, m1, m2, m3, m4]) (bs_calls V.heap.size V.heap.size E67 _ hba2.out h67) ?_; rintro e w6 ⟨rfl, hb6, hB6⟩; refine ⟨_, rfl, ?_⟩; replace hlb2 : Later V w6 := Below.trans hlb2 hB6; clear hb6 hB6)
            (refine any_one (i := 4) (by kernel_rfl) rfl rfl ?_; refine wp_callf Try.func118 (by kernel_rfl) (by kernel_rfl) (vs := #[.agg tb, .int .i64 q, .string E67]) (by simp [eval_put, size_put, put_none, ms, m1, m2, m3, m4]) (LQ.out _) ?_; rintro e w7 ⟨rfl, hb7⟩; refine ⟨_, rfl, ?_⟩; replace hlb2 := Later.trans hlb2 hb7; clear hb7)
            (refine anyCast (fuel := 8 - 5) (listed := headDone 5 8) (by kernel_rfl) (by kernel_rfl) (anySeq 5 (by kernel_rfl) ?_); have ho7 := TextRow.later _ _ _ hlb2 ho.out; have hB7 := hl.trans hlb2; replace ho7 := Lib.hid ho7; subst hA1; subst ha0; clear k5 k2 k6 k7 ks m1 m2 m3 m4 ms; simp only [Act.put, List.setIfInBounds_toArray, List.set_cons_succ, List.set_cons_zero]; simp only [List.drop_succ_cons, List.drop_zero]; go_wp2_with ((at_builtin; refine wl_appendS (base := W1.heap.size) (s := NX) Try.underlying43 (by unfold StrT; kernel_rfl) (TextRow.later _ _ _ ((Later.refl _).alloc _) ho7.out) (Whole.new _ _ _) (by omega) (by have := hB7.size; go_size) rfl rfl (fun v' w5 ho5 hg5 => ?_))); have hB5 := below_own (hB7.alloc (.cells #[.string NX] 9)) (TextRow.later _ _ _ ((Later.refl _).alloc (.cells #[.string NX] 9)) ho7.out) (Nat.le_refl _) hg5; rw [← hrq] at ho5; replace ho5 := Lib.hid ho5; clear ho7 hg5 hB7; go_wp2_with (fail); go_roundg (8 - q); (case measure => (go_light; rw [hkg.out]; omega)); (case rel => (go_light; exact ⟨q + 1, by go_num, by omega, by omega, by rw [hR1.out]; exact ho5.out, hB5⟩)))
          · (refine wp_callf Try.func116 (by kernel_rfl) (by kernel_rfl) (vs := #[.pointer (some ⟨V.heap.size, 0, none⟩)]) (by simp [eval_put, size_put, put_none, ms, m1, m2, m3, m4]) (bs_calls V.heap.size V.heap.size E67 _ hba2.out h67) ?_; rintro e w6 ⟨rfl, hb6, hB6⟩; refine ⟨_, rfl, ?_⟩; replace hlb2 : Later V w6 := Below.trans hlb2 hB6; clear hb6 hB6)
            refine any_one (i := 1) (by kernel_rfl) rfl rfl ?_
            (refine wp_loadW (Later.whole hlb2 hTw) Try.underlying31 (by simp [eval_put, size_put, put_none, ms, m1, m2, m3, m4]) rfl hsz ?_)
            (refine any_one (i := 4) (by kernel_rfl) rfl rfl ?_; refine wp_callf Try.func118 (by kernel_rfl) (by kernel_rfl) (vs := #[.agg tb, .int .i64 q, .string E67]) (by simp [eval_put, size_put, put_none, ms, m1, m2, m3, m4]) (LQ.out _) ?_; rintro e w7 ⟨rfl, hb7⟩; refine ⟨_, rfl, ?_⟩; replace hlb2 := Later.trans hlb2 hb7; clear hb7)
            (refine anyCast (fuel := 8 - 5) (listed := headDone 5 8) (by kernel_rfl) (by kernel_rfl) (anySeq 5 (by kernel_rfl) ?_); have ho7 := TextRow.later _ _ _ hlb2 ho.out; have hB7 := hl.trans hlb2; replace ho7 := Lib.hid ho7; subst hA1; subst ha0; clear k5 k2 k6 k7 ks m1 m2 m3 m4 ms; simp only [Act.put, List.setIfInBounds_toArray, List.set_cons_succ, List.set_cons_zero]; simp only [List.drop_succ_cons, List.drop_zero]; go_wp2_with ((at_builtin; refine wl_appendS (base := W1.heap.size) (s := NX) Try.underlying43 (by unfold StrT; kernel_rfl) (TextRow.later _ _ _ ((Later.refl _).alloc _) ho7.out) (Whole.new _ _ _) (by omega) (by have := hB7.size; go_size) rfl rfl (fun v' w5 ho5 hg5 => ?_))); have hB5 := below_own (hB7.alloc (.cells #[.string NX] 9)) (TextRow.later _ _ _ ((Later.refl _).alloc (.cells #[.string NX] 9)) ho7.out) (Nat.le_refl _) hg5; rw [← hrq] at ho5; replace ho5 := Lib.hid ho5; clear ho7 hg5 hB7; go_wp2_with (fail); go_roundg (8 - q); (case measure => (go_light; rw [hkg.out]; omega)); (case rel => (go_light; exact ⟨q + 1, by go_num, by omega, by omega, by rw [hR1.out]; exact ho5.out, hB5⟩)))
    · obtain rfl : q = 8 := by omega
      go_wp2_with (fail)
      go_returns
      go_light
      exact ⟨⟨_, rfl, ho.base (by have := hB1.size; omega)⟩, below_next' (hG ▸ hB1) hl⟩
end Go.Proofs.Yteipcmbbonfklaa
