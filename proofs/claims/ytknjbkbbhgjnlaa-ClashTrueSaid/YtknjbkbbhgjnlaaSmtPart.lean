/- Package smt: part. Condition: at most 2^20 items. -/
import Derived.Test.YtknjbkbbhgjnlaaSmt10
import Derived.Test.YtknjbkbbhgjnlaaToolA
import Derived.Deep.AppendLies
namespace Go.Proofs.Ytknjbkbbhgjnlaa
open Go.RowKit
set_option linter.unusedVariables false
set_option linter.unusedSimpArgs false
/-- An item: a pair with its path. -/
abbrev ItemV (p : KV) : List Value := [.string (pathN p.1), .string p.1, .string p.2]
theorem ItemV_one (p : KV) : ∀ u ∈ ItemV p, u.oneCell' = true := by
  intro u hu
  simp at hu
  rcases hu with rfl | rfl | rfl <;> rfl
def IK : Kn KV := (Kn.str.pair PK).via fun p => (pathN p.1, p)
theorem IK.K_mk (w : World) (p : KV) : IK.K w p (ItemV p) := ⟨[.string (pathN p.1)], PairV p, rfl, rfl, PK.K_mk w p⟩
theorem IK.item_ {w : World} {A : Option Addr} {xs : List KV} (h : IK.Rows w A xs) {k : Nat} (hk : k < xs.length) :
    ∃ ad, A = some ad ∧ ad.block < w.heap.size ∧ ∀ j v, (ItemV xs[k]).toArray.toList[j]? = some v → w.cell? ((ad.add (k * 3)).add j) = some v := by
  obtain ⟨ad, c, e, hlt, hK, hc⟩ := h.get hk
  obtain ⟨c0, c1, rfl, e0, c2, c3, rfl, e2, e3⟩ := hK
  obtain rfl := e0
  obtain rfl := e2
  obtain rfl := e3
  refine ⟨ad, e, hlt, fun j v hj => ?_⟩
  rw [Go.Deep.add_add]
  exact hc j v hj
theorem item_cell {w : World} {a : Addr} {p : KV} (h : ∀ j v, (ItemV p).toArray.toList[j]? = some v → w.cell? (a.add j) = some v) : w.cell? a = some (.string (pathN p.1)) ∧ w.cell? ⟨a.block, a.off + 1, none⟩ = some (.string p.1) ∧ w.cell? ⟨a.block, a.off + 2, none⟩ = some (.string p.2) := ⟨h 0 _ rfl, h 1 _ rfl, h 2 _ rfl⟩
theorem pathN_len (k : ByteArray) : (pathN k).size = 32 := shaN_len _
def PartAt (w w' : World) (e : Ending) (d : Nat) (l : List KV) : Prop := ∃ (A0 A1 : Option Addr) (c0 c1 : Nat), e = .returned (.agg #[.slice A0 (l.filter (onB d false)).length c0, .slice A1 (l.filter (onB d true)).length c1]) ∧ (l.filter (onB d false)).length ≤ c0 ∧ (l.filter (onB d true)).length ≤ c1 ∧ IK.Rows w' A0 (l.filter (onB d false)) ∧ IK.Rows w' A1 (l.filter (onB d true)) ∧ Later w w'
set_option maxHeartbeats 16000000 in
set_option maxRecDepth 100000 in
theorem part_calls (A : Option Addr) (l : List KV) (cap d : Nat) (hd : d < 256) (w : World) (hcap : l.length ≤ cap) (hl : l.length ≤ 1048576) (hr : IK.Rows w A l) :
    Calls Try.prog 67 #[.slice A l.length cap, .int .i64 d] w fun e w' => PartAt w w' e d l := by
  have hR := (Whole.new w 117 #[.slice none 0 0, .slice none 0 0]).alloc (.cells #[.slice none 0 0, .slice none 0 0] 117)
  have hO := Whole.new (w.alloc (.cells #[.slice none 0 0, .slice none 0 0] 117)) 117 #[.slice none 0 0, .slice none 0 0]
  rw [show (w.alloc (.cells #[.slice none 0 0, .slice none 0 0] 117)).heap.size = w.heap.size + 1 by simp] at hO
  have hB : Later w ((w.alloc (.cells #[.slice none 0 0, .slice none 0 0] 117)).alloc (.cells #[.slice none 0 0, .slice none 0 0] 117)) := ((Later.refl w).alloc _).alloc _
  have hstep := fun b k hk => sidesN_succ d b l k hk
  have hsl := fun b k => sidesN_len d b l k
  have z1 : sidesN d false l 0 = [] := rfl
  have z2 : sidesN d true l 0 = [] := rfl
  have f1 : (sidesN d false l l.length) = l.filter (onB d false) := by unfold sidesN; rw [List.take_length]
  have f2 : (sidesN d true l l.length) = l.filter (onB d true) := by unfold sidesN; rw [List.take_length]
  generalize sidesN d = SD at *
  have b3 : ((l.length : Int) ≤ cap) = True := eq_true (by omega)
  obtain ⟨i9, q1, q2, q3, q4⟩ := info_parts (P := Try.prog) (e := 110) (z := .slice none 0 0) (size := 1) (bytes := 24) (by kernel_rfl)
  replace f1 := Lib.hid f1
  replace f2 := Lib.hid f2
  replace hstep := Lib.hid hstep
  replace hsl := Lib.hid hsl
  replace hr := Lib.hid hr
  go_enter Try.func67, Try.ntmps67
  go_upto_region 2 with (fail)
  generalize (w.alloc (.cells #[.slice none 0 0, .slice none 0 0] 117)).alloc (.cells #[.slice none 0 0, .slice none 0 0] 117) = W1 at *
  have s0 : SRow 147 3 (w.heap.size + 2) ItemV ([] : List KV) (.slice none 0 0) W1 := SRow.nil _ _ _ _ _
  go_wp2_with (fail)
  go_loopg [11] (l.length + 1) (fun kg i wr => ∃ (k : Nat) (v0 v1 : Value), i = .int .i64 k ∧ k ≤ l.length ∧ kg = l.length + 1 - k ∧ SRow 147 3 (w.heap.size + 2) ItemV (SD false l k) v0 wr ∧ SRow 147 3 (w.heap.size + 2) ItemV (SD true l k) v1 wr ∧ Dis v0 v1 ∧ Whole wr (w.heap.size + 1) 117 #[v0, v1] ∧ Whole wr w.heap.size 117 #[.slice none 0 0, .slice none 0 0] ∧ Later w wr)
  case atStart => exact ⟨0, _, _, rfl, Nat.zero_le _, rfl, by rw [z1]; exact s0, by rw [z2]; exact s0, Dis.nil _, hO, hR, hB⟩
  case round =>
    clear s0 hO hR hB z1 z2
    obtain ⟨k, v0, v1, rfl, hk, hkg, h0, h1, hdis, hO, hR, hB⟩ := hrel
    replace hkg := Lib.hid hkg
    by_cases hlt : k < l.length
    · obtain ⟨ad, rfl, -, hc⟩ := IK.item_ (hr.out.below hB) hlt
      have hn0 := hstep.out false k hlt
      have hn1 := hstep.out true k hlt
      have hl0 : (SD false l k).length ≤ 1048576 := Nat.le_trans (hsl.out _ _) hl
      have hl1 : (SD true l k).length ≤ 1048576 := Nat.le_trans (hsl.out _ _) hl
      generalize l[k] = x at *
      have CB := fun w => sbit_calls (pathN x.1) d (by rw [pathN_len x.1]; omega) (by rw [pathN_len x.1]; omega) w
      have hkk : (k : Int) < l.length := by omega
      have hX := Whole.new wr 147 (ItemV x).toArray
      have x0 := hX.cell 0
      have hBx : Later w (wr.alloc (.cells (ItemV x).toArray 147)) := hB.alloc _
      have h0x := SRow.later _ _ _ ((Later.refl wr).alloc (.cells (ItemV x).toArray 147)) h0
      have h1x := SRow.later _ _ _ ((Later.refl wr).alloc (.cells (ItemV x).toArray 147)) h1
      have hOx := hO.alloc (.cells (ItemV x).toArray 147)
      have hRx := hR.alloc (.cells (ItemV x).toArray 147)
      cases hbit : bitQ (pathN x.1) d
      · rw [hbit, if_pos rfl] at hn0
        rw [hbit, if_neg (by decide), List.append_nil] at hn1
        rw [bitQ_no hbit] at CB
        replace hn0 := Lib.hid hn0
        replace hn1 := Lib.hid hn1
        replace CB := Lib.hid CB
        go_upto_region 6 with (first | ((with_reducible apply wl_loadAt (ty := 147) (ItemV x).toArray hc Try.underlying147); rfl; rfl; rfl; kernel_rfl) | ((with_reducible refine (CB.out _).mono ?_); rintro e wB ⟨rfl, rfl⟩))
        have ag : v0.ownBlock ≠ some (w.heap.size + 1) := fun q => by have := (World.ownsRow.lt h0x _ q).1; omega
        have hl67 : Later (wr.alloc (.cells (ItemV x).toArray 147)) (wr.alloc (.cells (ItemV x).toArray 147)).drew := (Later.refl _).drew
        replace hX := Later.whole hl67 hX
        replace hOx := Later.whole hl67 hOx
        replace hRx := Later.whole hl67 hRx
        replace h0x := SRow.later _ _ _ hl67 h0x
        replace h1x := SRow.later _ _ _ hl67 h1x
        replace hBx := Later.trans hBx hl67
        have hXlt := hX.lt
        have hOlt := hO.lt
        clear hl67 x0
        obtain ⟨ie, ei1, ei2, ei3, ei4⟩ := info_parts (P := Try.prog) (e := 147) (z := .agg #[.string ⟨#[]⟩, .string ⟨#[]⟩, .string ⟨#[]⟩]) (size := 3) (bytes := 48) (by kernel_rfl)
        refine wp_region_any (by kernel_rfl) ?_
        change wpAny _ _ _ _ _ _ _ (World.drew _)
        generalize (wr.alloc (.cells (ItemV x).toArray 147)).drew = W6 at *
        generalize wr.heap.size = gx at *
        have HCO := hOx.cell 0
        have HXX := hX
        generalize ha : Act.mk _ _ = a0
        have k5 : a0.eval (.tmp 5) = .pointer (some ⟨w.heap.size + 1, 0, none⟩) := by subst ha; rfl
        have k7 : a0.eval (.tmp 7) = .pointer (some ⟨gx, 0, none⟩) := by subst ha; rfl
        have k8 : a0.eval (.tmp 8) = .int .i64 0 := by subst ha; rfl
        have ks : a0.tmps.size = 29 := by subst ha; rfl
        have ha0 := ha.symm
        clear ha
        refine wpAny_take (i := 0) (v := .int .i64 0) rfl (by kernel_rfl) (by kernel_rfl) (by kernel_rfl) (fun _ _ _ h => h) (Or.inl ⟨by rfl, fun w => by simp only [execOp, eval_put, size_put, ks, k5, k7, k8]; go_simp⟩) ?_
        refine wpAny_take (i := 1) (v := .int .i64 0) rfl (by kernel_rfl) (by kernel_rfl) (by kernel_rfl) (fun _ _ _ h => h) (Or.inl ⟨by rfl, fun w => by simp only [execOp, eval_put, size_put, ks, k5, k7, k8]; go_simp⟩) ?_
        refine wpAny_take (i := 2) (v := .pointer (some ⟨w.heap.size + 1, 0, none⟩)) rfl (by kernel_rfl) (by kernel_rfl) (by kernel_rfl) (fun _ _ _ h => h) (Or.inl ⟨by rfl, fun w => by simp only [execOp, eval_put, size_put, ks, k5, k7, k8]; go_simp⟩) ?_
        refine anyCast (fuel := 6) (listed := #[true, true, true, false, false, false, false, false, false]) (by kernel_rfl) (by kernel_rfl) ?_
        refine anyGen fun a1 hA1 => ?_
        have m1 : a1.eval (.tmp 21) = .pointer (some ⟨w.heap.size + 1, 0, none⟩) := (by rw [hA1]; simp [eval_put, size_put, put_none, ks, k5, k7, k8])
        have m2 : a1.eval (.tmp 7) = .pointer (some ⟨gx, 0, none⟩) := (by rw [hA1]; simp [eval_put, size_put, put_none, ks, k5, k7, k8])
        have m3 : a1.eval (.tmp 5) = .pointer (some ⟨w.heap.size + 1, 0, none⟩) := (by rw [hA1]; simp [eval_put, size_put, put_none, ks, k5, k7, k8])
        have m4 : a1.eval (.tmp 19) = .int .i64 0 := (by rw [hA1]; simp [eval_put, size_put, put_none, ks, k5, k7, k8])
        have ms : a1.tmps.size = 29 := (by rw [hA1]; simp [eval_put, size_put, put_none, ks, k5, k7, k8])
        have HCA : (W6.alloc (.cells (ItemV x).toArray 147)).cell? ⟨w.heap.size + 1, 0, none⟩ = some v0 := (hOx.alloc _).cell 0
        refine any_two (i := 3) (j := 4) (by kernel_rfl) rfl rfl rfl rfl ?_ ?_
        · refine wp_load1 (v := v0) (p := ⟨w.heap.size + 1, 0, none⟩) HCO Try.underlying110 (by simp [eval_put, size_put, put_none, ms, m1, m2, m3, m4]) rfl ?_
          refine any_one (i := 4) (by kernel_rfl) rfl rfl ?_
          refine wp_loadW HXX Try.underlying147 (by simp [eval_put, size_put, put_none, ms, m1, m2, m3, m4]) rfl (by kernel_rfl) ?_
          refine any_one (i := 5) (by kernel_rfl) rfl rfl ?_
          refine wp_buildOne (part := (ItemV x).toArray) Try.underlying110 ei1 ei2 ei3 (by simp) (by simp) (by simp [eval_put, size_put, put_none, ms, m1, m2, m3, m4]) (by kernel_rfl) ?_
          refine anyGen fun a2 hA2 => ?_
          have n1 : a2.eval (.tmp 22) = v0 := (by rw [hA2]; simp [eval_put, size_put, put_none, ms, m1, m2, m3, m4])
          have n2 : a2.eval (.tmp 24) = .slice (some ⟨W6.heap.size, 0, none⟩) 1 1 := (by rw [hA2]; simp [eval_put, size_put, put_none, ms, m1, m2, m3, m4])
          have n3 : a2.eval (.tmp 5) = .pointer (some ⟨w.heap.size + 1, 0, none⟩) := (by rw [hA2]; simp [eval_put, size_put, put_none, ms, m1, m2, m3, m4])
          have n4 : a2.eval (.tmp 19) = .int .i64 0 := (by rw [hA2]; simp [eval_put, size_put, put_none, ms, m1, m2, m3, m4])
          have ns : a2.tmps.size = 29 := (by rw [hA2]; simp [eval_put, size_put, put_none, ms, m1, m2, m3, m4])
          refine any_one (i := 6) (by kernel_rfl) rfl rfl ?_
          refine wp_append_lies _ (.tmp 22) (.tmp 24) 110 rfl (w.heap.size + 2) 147 ie _ 3 48 Try.underlying110 ei1 ei2 ei3 ei4 rfl (by decide) v0 (SD false l k).length ((SD false l k).flatMap ItemV) (by simp [eval_put, size_put, put_none, ns, n1, n2, n3, n4]) (World.ownsRow.alloc h0x _) ⟨W6.heap.size, 0, none⟩ 1 1 (ItemV x) (by simp [eval_put, size_put, put_none, ns, n1, n2, n3, n4]) rfl (World.news_of_block (heap_alloc_new W6 _)) (ItemV_one x) (by decide) (by unfold maxLen; omega) (by omega) (by simp; omega) (W6.heap.size + 1) (by simp) (fun gg cg w5 hown1 hgrow hat hlt5 => ?_)
          have ho5 : SRow 147 3 (w.heap.size + 2) ItemV (SD false l k ++ [x]) (.slice (some ⟨gg, 0, none⟩) ((SD false l k).length + 1) cg) w5 := by unfold SRow; rw [List.length_append, List.flatMap_append]; simpa using hown1
          have hO5 := Whole.only (hOx.alloc (.cells (ItemV x).toArray 147)) hgrow (fun q => ag q.symm)
          have hR5 := Whole.only (hRx.alloc (.cells (ItemV x).toArray 147)) hgrow (fun q => by have := (World.ownsRow.lt h0x _ q.symm).1; omega)
          have hB5 := below_own (Later.trans hBx ((Later.refl W6).alloc (.cells (ItemV x).toArray 147))) (SRow.later _ _ _ ((Later.refl W6).alloc (.cells (ItemV x).toArray 147)) h0x) (by omega) hgrow
          have h15 := SRow.dis (SRow.later _ _ _ ((Later.refl W6).alloc (.cells (ItemV x).toArray 147)) h1x) hgrow (hdis.symm)
          have hd5 : Dis v1 (.slice (some ⟨gg, 0, none⟩) ((SD false l k).length + 1) cg) := fun q h1 h2 => by
            have e : gg = q := Option.some.inj h2
            rcases hat with h | h
            · exact (hdis.symm) q h1 (e ▸ h)
            · have := (World.ownsRow.lt h1x q h1).2
              omega
          have ho6 : SRow _ _ _ _ _ _ _ := own_far ho5 (show w.heap.size + 1 < w.heap.size + 2 by omega) 0 (.slice (some ⟨gg, 0, none⟩) ((SD false l k).length + 1) cg)
          have h16 : SRow _ _ _ _ _ _ _ := own_far h15 (show w.heap.size + 1 < w.heap.size + 2 by omega) 0 (.slice (some ⟨gg, 0, none⟩) ((SD false l k).length + 1) cg)
          have hO6 := hO5.put 0 (.slice (some ⟨gg, 0, none⟩) ((SD false l k).length + 1) cg)
          have hR6 := hR5.far (p := ⟨w.heap.size + 1, 0, none⟩) (show w.heap.size ≠ w.heap.size + 1 by omega) (.slice (some ⟨gg, 0, none⟩) ((SD false l k).length + 1) cg)
          have hB6 : Later w _ := Below.setCell hB5 (p := ⟨w.heap.size + 1, 0, none⟩) (show w.heap.size ≤ w.heap.size + 1 by omega) (.slice (some ⟨gg, 0, none⟩) ((SD false l k).length + 1) cg)
          refine wpAny_take (i := 7) (v := .pointer (some ⟨w.heap.size + 1, 0, none⟩)) rfl (by kernel_rfl) (by kernel_rfl) (by kernel_rfl) (fun _ _ _ h => h) (Or.inl ⟨by rfl, fun w => by simp only [execOp, eval_put, size_put, ns, n1, n2, n3, n4]; go_simp⟩) ?_
          refine any_one (i := 8) (by kernel_rfl) rfl rfl ?_
          refine wp_store1 (p := ⟨w.heap.size + 1, 0, none⟩) (v := .slice (some ⟨gg, 0, none⟩) ((SD false l k).length + 1) cg) (hO5.cell 0) (hO5.frozen 0) q1 q3 (by simp [eval_put, size_put, put_none, ns, n1, n2, n3, n4]) (by simp [eval_put, size_put, put_none, ns, n1, n2, n3, n4]) rfl rfl ?_
          refine ⟨by kernel_rfl, ?_⟩
          subst hA2
          subst hA1
          subst ha0
          clear k5 k7 k8 ks m1 m2 m3 m4 ms n1 n2 n3 n4 ns
          simp only [Act.put, List.setIfInBounds_toArray, List.set_cons_succ, List.set_cons_zero]
          go_wp2_with (fail)
          go_roundg (l.length - k)
          case measure => go_light; rw [hkg.out]; omega
          case rel =>
            go_light
            exact ⟨k + 1, _, v1, by go_num, by omega, by omega, by rw [hn0.out]; exact ho6, by rw [hn1.out]; exact h16, hd5.symm, hO6, hR6, hB6⟩
        · refine wp_loadW HXX Try.underlying147 (by simp [eval_put, size_put, put_none, ms, m1, m2, m3, m4]) rfl (by kernel_rfl) ?_
          refine any_two (i := 3) (j := 5) (by kernel_rfl) rfl rfl rfl rfl ?_ ?_
          · refine wp_load1 (v := v0) (p := ⟨w.heap.size + 1, 0, none⟩) HCO Try.underlying110 (by simp [eval_put, size_put, put_none, ms, m1, m2, m3, m4]) rfl ?_
            refine any_one (i := 5) (by kernel_rfl) rfl rfl ?_
            refine wp_buildOne (part := (ItemV x).toArray) Try.underlying110 ei1 ei2 ei3 (by simp) (by simp) (by simp [eval_put, size_put, put_none, ms, m1, m2, m3, m4]) (by kernel_rfl) ?_
            refine anyGen fun a2 hA2 => ?_
            have n1 : a2.eval (.tmp 22) = v0 := (by rw [hA2]; simp [eval_put, size_put, put_none, ms, m1, m2, m3, m4])
            have n2 : a2.eval (.tmp 24) = .slice (some ⟨W6.heap.size, 0, none⟩) 1 1 := (by rw [hA2]; simp [eval_put, size_put, put_none, ms, m1, m2, m3, m4])
            have n3 : a2.eval (.tmp 5) = .pointer (some ⟨w.heap.size + 1, 0, none⟩) := (by rw [hA2]; simp [eval_put, size_put, put_none, ms, m1, m2, m3, m4])
            have n4 : a2.eval (.tmp 19) = .int .i64 0 := (by rw [hA2]; simp [eval_put, size_put, put_none, ms, m1, m2, m3, m4])
            have ns : a2.tmps.size = 29 := (by rw [hA2]; simp [eval_put, size_put, put_none, ms, m1, m2, m3, m4])
            refine any_one (i := 6) (by kernel_rfl) rfl rfl ?_
            refine wp_append_lies _ (.tmp 22) (.tmp 24) 110 rfl (w.heap.size + 2) 147 ie _ 3 48 Try.underlying110 ei1 ei2 ei3 ei4 rfl (by decide) v0 (SD false l k).length ((SD false l k).flatMap ItemV) (by simp [eval_put, size_put, put_none, ns, n1, n2, n3, n4]) (World.ownsRow.alloc h0x _) ⟨W6.heap.size, 0, none⟩ 1 1 (ItemV x) (by simp [eval_put, size_put, put_none, ns, n1, n2, n3, n4]) rfl (World.news_of_block (heap_alloc_new W6 _)) (ItemV_one x) (by decide) (by unfold maxLen; omega) (by omega) (by simp; omega) (W6.heap.size + 1) (by simp) (fun gg cg w5 hown1 hgrow hat hlt5 => ?_)
            have ho5 : SRow 147 3 (w.heap.size + 2) ItemV (SD false l k ++ [x]) (.slice (some ⟨gg, 0, none⟩) ((SD false l k).length + 1) cg) w5 := by unfold SRow; rw [List.length_append, List.flatMap_append]; simpa using hown1
            have hO5 := Whole.only (hOx.alloc (.cells (ItemV x).toArray 147)) hgrow (fun q => ag q.symm)
            have hR5 := Whole.only (hRx.alloc (.cells (ItemV x).toArray 147)) hgrow (fun q => by have := (World.ownsRow.lt h0x _ q.symm).1; omega)
            have hB5 := below_own (Later.trans hBx ((Later.refl W6).alloc (.cells (ItemV x).toArray 147))) (SRow.later _ _ _ ((Later.refl W6).alloc (.cells (ItemV x).toArray 147)) h0x) (by omega) hgrow
            have h15 := SRow.dis (SRow.later _ _ _ ((Later.refl W6).alloc (.cells (ItemV x).toArray 147)) h1x) hgrow (hdis.symm)
            have hd5 : Dis v1 (.slice (some ⟨gg, 0, none⟩) ((SD false l k).length + 1) cg) := fun q h1 h2 => by
              have e : gg = q := Option.some.inj h2
              rcases hat with h | h
              · exact (hdis.symm) q h1 (e ▸ h)
              · have := (World.ownsRow.lt h1x q h1).2
                omega
            have ho6 : SRow _ _ _ _ _ _ _ := own_far ho5 (show w.heap.size + 1 < w.heap.size + 2 by omega) 0 (.slice (some ⟨gg, 0, none⟩) ((SD false l k).length + 1) cg)
            have h16 : SRow _ _ _ _ _ _ _ := own_far h15 (show w.heap.size + 1 < w.heap.size + 2 by omega) 0 (.slice (some ⟨gg, 0, none⟩) ((SD false l k).length + 1) cg)
            have hO6 := hO5.put 0 (.slice (some ⟨gg, 0, none⟩) ((SD false l k).length + 1) cg)
            have hR6 := hR5.far (p := ⟨w.heap.size + 1, 0, none⟩) (show w.heap.size ≠ w.heap.size + 1 by omega) (.slice (some ⟨gg, 0, none⟩) ((SD false l k).length + 1) cg)
            have hB6 : Later w _ := Below.setCell hB5 (p := ⟨w.heap.size + 1, 0, none⟩) (show w.heap.size ≤ w.heap.size + 1 by omega) (.slice (some ⟨gg, 0, none⟩) ((SD false l k).length + 1) cg)
            refine wpAny_take (i := 7) (v := .pointer (some ⟨w.heap.size + 1, 0, none⟩)) rfl (by kernel_rfl) (by kernel_rfl) (by kernel_rfl) (fun _ _ _ h => h) (Or.inl ⟨by rfl, fun w => by simp only [execOp, eval_put, size_put, ns, n1, n2, n3, n4]; go_simp⟩) ?_
            refine any_one (i := 8) (by kernel_rfl) rfl rfl ?_
            refine wp_store1 (p := ⟨w.heap.size + 1, 0, none⟩) (v := .slice (some ⟨gg, 0, none⟩) ((SD false l k).length + 1) cg) (hO5.cell 0) (hO5.frozen 0) q1 q3 (by simp [eval_put, size_put, put_none, ns, n1, n2, n3, n4]) (by simp [eval_put, size_put, put_none, ns, n1, n2, n3, n4]) rfl rfl ?_
            refine ⟨by kernel_rfl, ?_⟩
            subst hA2
            subst hA1
            subst ha0
            clear k5 k7 k8 ks m1 m2 m3 m4 ms n1 n2 n3 n4 ns
            simp only [Act.put, List.setIfInBounds_toArray, List.set_cons_succ, List.set_cons_zero]
            go_wp2_with (fail)
            go_roundg (l.length - k)
            case measure => go_light; rw [hkg.out]; omega
            case rel =>
              go_light
              exact ⟨k + 1, _, v1, by go_num, by omega, by omega, by rw [hn0.out]; exact ho6, by rw [hn1.out]; exact h16, hd5.symm, hO6, hR6, hB6⟩
          · refine wp_buildOne (part := (ItemV x).toArray) Try.underlying110 ei1 ei2 ei3 (by simp) (by simp) (by simp [eval_put, size_put, put_none, ms, m1, m2, m3, m4]) (by kernel_rfl) ?_
            refine any_one (i := 3) (by kernel_rfl) rfl rfl ?_
            refine wp_load1 (v := v0) (p := ⟨w.heap.size + 1, 0, none⟩) HCA Try.underlying110 (by simp [eval_put, size_put, put_none, ms, m1, m2, m3, m4]) rfl ?_
            refine anyGen fun a2 hA2 => ?_
            have n1 : a2.eval (.tmp 22) = v0 := (by rw [hA2]; simp [eval_put, size_put, put_none, ms, m1, m2, m3, m4])
            have n2 : a2.eval (.tmp 24) = .slice (some ⟨W6.heap.size, 0, none⟩) 1 1 := (by rw [hA2]; simp [eval_put, size_put, put_none, ms, m1, m2, m3, m4])
            have n3 : a2.eval (.tmp 5) = .pointer (some ⟨w.heap.size + 1, 0, none⟩) := (by rw [hA2]; simp [eval_put, size_put, put_none, ms, m1, m2, m3, m4])
            have n4 : a2.eval (.tmp 19) = .int .i64 0 := (by rw [hA2]; simp [eval_put, size_put, put_none, ms, m1, m2, m3, m4])
            have ns : a2.tmps.size = 29 := (by rw [hA2]; simp [eval_put, size_put, put_none, ms, m1, m2, m3, m4])
            refine any_one (i := 6) (by kernel_rfl) rfl rfl ?_
            refine wp_append_lies _ (.tmp 22) (.tmp 24) 110 rfl (w.heap.size + 2) 147 ie _ 3 48 Try.underlying110 ei1 ei2 ei3 ei4 rfl (by decide) v0 (SD false l k).length ((SD false l k).flatMap ItemV) (by simp [eval_put, size_put, put_none, ns, n1, n2, n3, n4]) (World.ownsRow.alloc h0x _) ⟨W6.heap.size, 0, none⟩ 1 1 (ItemV x) (by simp [eval_put, size_put, put_none, ns, n1, n2, n3, n4]) rfl (World.news_of_block (heap_alloc_new W6 _)) (ItemV_one x) (by decide) (by unfold maxLen; omega) (by omega) (by simp; omega) (W6.heap.size + 1) (by simp) (fun gg cg w5 hown1 hgrow hat hlt5 => ?_)
            have ho5 : SRow 147 3 (w.heap.size + 2) ItemV (SD false l k ++ [x]) (.slice (some ⟨gg, 0, none⟩) ((SD false l k).length + 1) cg) w5 := by unfold SRow; rw [List.length_append, List.flatMap_append]; simpa using hown1
            have hO5 := Whole.only (hOx.alloc (.cells (ItemV x).toArray 147)) hgrow (fun q => ag q.symm)
            have hR5 := Whole.only (hRx.alloc (.cells (ItemV x).toArray 147)) hgrow (fun q => by have := (World.ownsRow.lt h0x _ q.symm).1; omega)
            have hB5 := below_own (Later.trans hBx ((Later.refl W6).alloc (.cells (ItemV x).toArray 147))) (SRow.later _ _ _ ((Later.refl W6).alloc (.cells (ItemV x).toArray 147)) h0x) (by omega) hgrow
            have h15 := SRow.dis (SRow.later _ _ _ ((Later.refl W6).alloc (.cells (ItemV x).toArray 147)) h1x) hgrow (hdis.symm)
            have hd5 : Dis v1 (.slice (some ⟨gg, 0, none⟩) ((SD false l k).length + 1) cg) := fun q h1 h2 => by
              have e : gg = q := Option.some.inj h2
              rcases hat with h | h
              · exact (hdis.symm) q h1 (e ▸ h)
              · have := (World.ownsRow.lt h1x q h1).2
                omega
            have ho6 : SRow _ _ _ _ _ _ _ := own_far ho5 (show w.heap.size + 1 < w.heap.size + 2 by omega) 0 (.slice (some ⟨gg, 0, none⟩) ((SD false l k).length + 1) cg)
            have h16 : SRow _ _ _ _ _ _ _ := own_far h15 (show w.heap.size + 1 < w.heap.size + 2 by omega) 0 (.slice (some ⟨gg, 0, none⟩) ((SD false l k).length + 1) cg)
            have hO6 := hO5.put 0 (.slice (some ⟨gg, 0, none⟩) ((SD false l k).length + 1) cg)
            have hR6 := hR5.far (p := ⟨w.heap.size + 1, 0, none⟩) (show w.heap.size ≠ w.heap.size + 1 by omega) (.slice (some ⟨gg, 0, none⟩) ((SD false l k).length + 1) cg)
            have hB6 : Later w _ := Below.setCell hB5 (p := ⟨w.heap.size + 1, 0, none⟩) (show w.heap.size ≤ w.heap.size + 1 by omega) (.slice (some ⟨gg, 0, none⟩) ((SD false l k).length + 1) cg)
            refine wpAny_take (i := 7) (v := .pointer (some ⟨w.heap.size + 1, 0, none⟩)) rfl (by kernel_rfl) (by kernel_rfl) (by kernel_rfl) (fun _ _ _ h => h) (Or.inl ⟨by rfl, fun w => by simp only [execOp, eval_put, size_put, ns, n1, n2, n3, n4]; go_simp⟩) ?_
            refine any_one (i := 8) (by kernel_rfl) rfl rfl ?_
            refine wp_store1 (p := ⟨w.heap.size + 1, 0, none⟩) (v := .slice (some ⟨gg, 0, none⟩) ((SD false l k).length + 1) cg) (hO5.cell 0) (hO5.frozen 0) q1 q3 (by simp [eval_put, size_put, put_none, ns, n1, n2, n3, n4]) (by simp [eval_put, size_put, put_none, ns, n1, n2, n3, n4]) rfl rfl ?_
            refine ⟨by kernel_rfl, ?_⟩
            subst hA2
            subst hA1
            subst ha0
            clear k5 k7 k8 ks m1 m2 m3 m4 ms n1 n2 n3 n4 ns
            simp only [Act.put, List.setIfInBounds_toArray, List.set_cons_succ, List.set_cons_zero]
            go_wp2_with (fail)
            go_roundg (l.length - k)
            case measure => go_light; rw [hkg.out]; omega
            case rel =>
              go_light
              exact ⟨k + 1, _, v1, by go_num, by omega, by omega, by rw [hn0.out]; exact ho6, by rw [hn1.out]; exact h16, hd5.symm, hO6, hR6, hB6⟩
      · rw [hbit, if_neg (by decide), List.append_nil] at hn0
        rw [hbit, if_pos rfl] at hn1
        rw [(bitQ_true _ _).1 hbit] at CB
        replace hn0 := Lib.hid hn0
        replace hn1 := Lib.hid hn1
        replace CB := Lib.hid CB
        go_upto_region 6 with (first | ((with_reducible apply wl_loadAt (ty := 147) (ItemV x).toArray hc Try.underlying147); rfl; rfl; rfl; kernel_rfl) | ((with_reducible refine (CB.out _).mono ?_); rintro e wB ⟨rfl, rfl⟩))
        have ag : v1.ownBlock ≠ some (w.heap.size + 1) := fun q => by have := (World.ownsRow.lt h1x _ q).1; omega
        have hl67 : Later (wr.alloc (.cells (ItemV x).toArray 147)) (wr.alloc (.cells (ItemV x).toArray 147)).drew := (Later.refl _).drew
        replace hX := Later.whole hl67 hX
        replace hOx := Later.whole hl67 hOx
        replace hRx := Later.whole hl67 hRx
        replace h0x := SRow.later _ _ _ hl67 h0x
        replace h1x := SRow.later _ _ _ hl67 h1x
        replace hBx := Later.trans hBx hl67
        have hXlt := hX.lt
        have hOlt := hO.lt
        clear hl67 x0
        obtain ⟨ie, ei1, ei2, ei3, ei4⟩ := info_parts (P := Try.prog) (e := 147) (z := .agg #[.string ⟨#[]⟩, .string ⟨#[]⟩, .string ⟨#[]⟩]) (size := 3) (bytes := 48) (by kernel_rfl)
        refine wp_region_any (by kernel_rfl) ?_
        change wpAny _ _ _ _ _ _ _ (World.drew _)
        generalize (wr.alloc (.cells (ItemV x).toArray 147)).drew = W6 at *
        generalize wr.heap.size = gx at *
        have HCO := hOx.cell 1
        have HXX := hX
        generalize ha : Act.mk _ _ = a0
        have k5 : a0.eval (.tmp 5) = .pointer (some ⟨w.heap.size + 1, 0, none⟩) := by subst ha; rfl
        have k7 : a0.eval (.tmp 7) = .pointer (some ⟨gx, 0, none⟩) := by subst ha; rfl
        have k8 : a0.eval (.tmp 8) = .int .i64 1 := by subst ha; rfl
        have ks : a0.tmps.size = 29 := by subst ha; rfl
        have ha0 := ha.symm
        clear ha
        refine wpAny_take (i := 0) (v := .int .i64 1) rfl (by kernel_rfl) (by kernel_rfl) (by kernel_rfl) (fun _ _ _ h => h) (Or.inl ⟨by rfl, fun w => by simp only [execOp, eval_put, size_put, ks, k5, k7, k8]; go_simp⟩) ?_
        refine wpAny_take (i := 1) (v := .int .i64 1) rfl (by kernel_rfl) (by kernel_rfl) (by kernel_rfl) (fun _ _ _ h => h) (Or.inl ⟨by rfl, fun w => by simp only [execOp, eval_put, size_put, ks, k5, k7, k8]; go_simp⟩) ?_
        refine wpAny_take (i := 2) (v := .pointer (some ⟨w.heap.size + 1, 1, none⟩)) rfl (by kernel_rfl) (by kernel_rfl) (by kernel_rfl) (fun _ _ _ h => h) (Or.inl ⟨by rfl, fun w => by simp only [execOp, eval_put, size_put, ks, k5, k7, k8]; go_simp⟩) ?_
        refine anyCast (fuel := 6) (listed := #[true, true, true, false, false, false, false, false, false]) (by kernel_rfl) (by kernel_rfl) ?_
        refine anyGen fun a1 hA1 => ?_
        have m1 : a1.eval (.tmp 21) = .pointer (some ⟨w.heap.size + 1, 1, none⟩) := (by rw [hA1]; simp [eval_put, size_put, put_none, ks, k5, k7, k8])
        have m2 : a1.eval (.tmp 7) = .pointer (some ⟨gx, 0, none⟩) := (by rw [hA1]; simp [eval_put, size_put, put_none, ks, k5, k7, k8])
        have m3 : a1.eval (.tmp 5) = .pointer (some ⟨w.heap.size + 1, 0, none⟩) := (by rw [hA1]; simp [eval_put, size_put, put_none, ks, k5, k7, k8])
        have m4 : a1.eval (.tmp 19) = .int .i64 1 := (by rw [hA1]; simp [eval_put, size_put, put_none, ks, k5, k7, k8])
        have ms : a1.tmps.size = 29 := (by rw [hA1]; simp [eval_put, size_put, put_none, ks, k5, k7, k8])
        have HCA : (W6.alloc (.cells (ItemV x).toArray 147)).cell? ⟨w.heap.size + 1, 1, none⟩ = some v1 := (hOx.alloc _).cell 1
        refine any_two (i := 3) (j := 4) (by kernel_rfl) rfl rfl rfl rfl ?_ ?_
        · refine wp_load1 (v := v1) (p := ⟨w.heap.size + 1, 1, none⟩) HCO Try.underlying110 (by simp [eval_put, size_put, put_none, ms, m1, m2, m3, m4]) rfl ?_
          refine any_one (i := 4) (by kernel_rfl) rfl rfl ?_
          refine wp_loadW HXX Try.underlying147 (by simp [eval_put, size_put, put_none, ms, m1, m2, m3, m4]) rfl (by kernel_rfl) ?_
          refine any_one (i := 5) (by kernel_rfl) rfl rfl ?_
          refine wp_buildOne (part := (ItemV x).toArray) Try.underlying110 ei1 ei2 ei3 (by simp) (by simp) (by simp [eval_put, size_put, put_none, ms, m1, m2, m3, m4]) (by kernel_rfl) ?_
          refine anyGen fun a2 hA2 => ?_
          have n1 : a2.eval (.tmp 22) = v1 := (by rw [hA2]; simp [eval_put, size_put, put_none, ms, m1, m2, m3, m4])
          have n2 : a2.eval (.tmp 24) = .slice (some ⟨W6.heap.size, 0, none⟩) 1 1 := (by rw [hA2]; simp [eval_put, size_put, put_none, ms, m1, m2, m3, m4])
          have n3 : a2.eval (.tmp 5) = .pointer (some ⟨w.heap.size + 1, 0, none⟩) := (by rw [hA2]; simp [eval_put, size_put, put_none, ms, m1, m2, m3, m4])
          have n4 : a2.eval (.tmp 19) = .int .i64 1 := (by rw [hA2]; simp [eval_put, size_put, put_none, ms, m1, m2, m3, m4])
          have ns : a2.tmps.size = 29 := (by rw [hA2]; simp [eval_put, size_put, put_none, ms, m1, m2, m3, m4])
          refine any_one (i := 6) (by kernel_rfl) rfl rfl ?_
          refine wp_append_lies _ (.tmp 22) (.tmp 24) 110 rfl (w.heap.size + 2) 147 ie _ 3 48 Try.underlying110 ei1 ei2 ei3 ei4 rfl (by decide) v1 (SD true l k).length ((SD true l k).flatMap ItemV) (by simp [eval_put, size_put, put_none, ns, n1, n2, n3, n4]) (World.ownsRow.alloc h1x _) ⟨W6.heap.size, 0, none⟩ 1 1 (ItemV x) (by simp [eval_put, size_put, put_none, ns, n1, n2, n3, n4]) rfl (World.news_of_block (heap_alloc_new W6 _)) (ItemV_one x) (by decide) (by unfold maxLen; omega) (by omega) (by simp; omega) (W6.heap.size + 1) (by simp) (fun gg cg w5 hown1 hgrow hat hlt5 => ?_)
          have ho5 : SRow 147 3 (w.heap.size + 2) ItemV (SD true l k ++ [x]) (.slice (some ⟨gg, 0, none⟩) ((SD true l k).length + 1) cg) w5 := by unfold SRow; rw [List.length_append, List.flatMap_append]; simpa using hown1
          have hO5 := Whole.only (hOx.alloc (.cells (ItemV x).toArray 147)) hgrow (fun q => ag q.symm)
          have hR5 := Whole.only (hRx.alloc (.cells (ItemV x).toArray 147)) hgrow (fun q => by have := (World.ownsRow.lt h1x _ q.symm).1; omega)
          have hB5 := below_own (Later.trans hBx ((Later.refl W6).alloc (.cells (ItemV x).toArray 147))) (SRow.later _ _ _ ((Later.refl W6).alloc (.cells (ItemV x).toArray 147)) h1x) (by omega) hgrow
          have h15 := SRow.dis (SRow.later _ _ _ ((Later.refl W6).alloc (.cells (ItemV x).toArray 147)) h0x) hgrow (hdis)
          have hd5 : Dis v0 (.slice (some ⟨gg, 0, none⟩) ((SD true l k).length + 1) cg) := fun q h1 h2 => by
            have e : gg = q := Option.some.inj h2
            rcases hat with h | h
            · exact (hdis) q h1 (e ▸ h)
            · have := (World.ownsRow.lt h0x q h1).2
              omega
          have ho6 : SRow _ _ _ _ _ _ _ := own_far ho5 (show w.heap.size + 1 < w.heap.size + 2 by omega) 1 (.slice (some ⟨gg, 0, none⟩) ((SD true l k).length + 1) cg)
          have h16 : SRow _ _ _ _ _ _ _ := own_far h15 (show w.heap.size + 1 < w.heap.size + 2 by omega) 1 (.slice (some ⟨gg, 0, none⟩) ((SD true l k).length + 1) cg)
          have hO6 := hO5.put 1 (.slice (some ⟨gg, 0, none⟩) ((SD true l k).length + 1) cg)
          have hR6 := hR5.far (p := ⟨w.heap.size + 1, 1, none⟩) (show w.heap.size ≠ w.heap.size + 1 by omega) (.slice (some ⟨gg, 0, none⟩) ((SD true l k).length + 1) cg)
          have hB6 : Later w _ := Below.setCell hB5 (p := ⟨w.heap.size + 1, 1, none⟩) (show w.heap.size ≤ w.heap.size + 1 by omega) (.slice (some ⟨gg, 0, none⟩) ((SD true l k).length + 1) cg)
          refine wpAny_take (i := 7) (v := .pointer (some ⟨w.heap.size + 1, 1, none⟩)) rfl (by kernel_rfl) (by kernel_rfl) (by kernel_rfl) (fun _ _ _ h => h) (Or.inl ⟨by rfl, fun w => by simp only [execOp, eval_put, size_put, ns, n1, n2, n3, n4]; go_simp⟩) ?_
          refine any_one (i := 8) (by kernel_rfl) rfl rfl ?_
          refine wp_store1 (p := ⟨w.heap.size + 1, 1, none⟩) (v := .slice (some ⟨gg, 0, none⟩) ((SD true l k).length + 1) cg) (hO5.cell 1) (hO5.frozen 1) q1 q3 (by simp [eval_put, size_put, put_none, ns, n1, n2, n3, n4]) (by simp [eval_put, size_put, put_none, ns, n1, n2, n3, n4]) rfl rfl ?_
          refine ⟨by kernel_rfl, ?_⟩
          subst hA2
          subst hA1
          subst ha0
          clear k5 k7 k8 ks m1 m2 m3 m4 ms n1 n2 n3 n4 ns
          simp only [Act.put, List.setIfInBounds_toArray, List.set_cons_succ, List.set_cons_zero]
          go_wp2_with (fail)
          go_roundg (l.length - k)
          case measure => go_light; rw [hkg.out]; omega
          case rel =>
            go_light
            exact ⟨k + 1, v0, _, by go_num, by omega, by omega, by rw [hn0.out]; exact h16, by rw [hn1.out]; exact ho6, hd5, hO6, hR6, hB6⟩
        · refine wp_loadW HXX Try.underlying147 (by simp [eval_put, size_put, put_none, ms, m1, m2, m3, m4]) rfl (by kernel_rfl) ?_
          refine any_two (i := 3) (j := 5) (by kernel_rfl) rfl rfl rfl rfl ?_ ?_
          · refine wp_load1 (v := v1) (p := ⟨w.heap.size + 1, 1, none⟩) HCO Try.underlying110 (by simp [eval_put, size_put, put_none, ms, m1, m2, m3, m4]) rfl ?_
            refine any_one (i := 5) (by kernel_rfl) rfl rfl ?_
            refine wp_buildOne (part := (ItemV x).toArray) Try.underlying110 ei1 ei2 ei3 (by simp) (by simp) (by simp [eval_put, size_put, put_none, ms, m1, m2, m3, m4]) (by kernel_rfl) ?_
            refine anyGen fun a2 hA2 => ?_
            have n1 : a2.eval (.tmp 22) = v1 := (by rw [hA2]; simp [eval_put, size_put, put_none, ms, m1, m2, m3, m4])
            have n2 : a2.eval (.tmp 24) = .slice (some ⟨W6.heap.size, 0, none⟩) 1 1 := (by rw [hA2]; simp [eval_put, size_put, put_none, ms, m1, m2, m3, m4])
            have n3 : a2.eval (.tmp 5) = .pointer (some ⟨w.heap.size + 1, 0, none⟩) := (by rw [hA2]; simp [eval_put, size_put, put_none, ms, m1, m2, m3, m4])
            have n4 : a2.eval (.tmp 19) = .int .i64 1 := (by rw [hA2]; simp [eval_put, size_put, put_none, ms, m1, m2, m3, m4])
            have ns : a2.tmps.size = 29 := (by rw [hA2]; simp [eval_put, size_put, put_none, ms, m1, m2, m3, m4])
            refine any_one (i := 6) (by kernel_rfl) rfl rfl ?_
            refine wp_append_lies _ (.tmp 22) (.tmp 24) 110 rfl (w.heap.size + 2) 147 ie _ 3 48 Try.underlying110 ei1 ei2 ei3 ei4 rfl (by decide) v1 (SD true l k).length ((SD true l k).flatMap ItemV) (by simp [eval_put, size_put, put_none, ns, n1, n2, n3, n4]) (World.ownsRow.alloc h1x _) ⟨W6.heap.size, 0, none⟩ 1 1 (ItemV x) (by simp [eval_put, size_put, put_none, ns, n1, n2, n3, n4]) rfl (World.news_of_block (heap_alloc_new W6 _)) (ItemV_one x) (by decide) (by unfold maxLen; omega) (by omega) (by simp; omega) (W6.heap.size + 1) (by simp) (fun gg cg w5 hown1 hgrow hat hlt5 => ?_)
            have ho5 : SRow 147 3 (w.heap.size + 2) ItemV (SD true l k ++ [x]) (.slice (some ⟨gg, 0, none⟩) ((SD true l k).length + 1) cg) w5 := by unfold SRow; rw [List.length_append, List.flatMap_append]; simpa using hown1
            have hO5 := Whole.only (hOx.alloc (.cells (ItemV x).toArray 147)) hgrow (fun q => ag q.symm)
            have hR5 := Whole.only (hRx.alloc (.cells (ItemV x).toArray 147)) hgrow (fun q => by have := (World.ownsRow.lt h1x _ q.symm).1; omega)
            have hB5 := below_own (Later.trans hBx ((Later.refl W6).alloc (.cells (ItemV x).toArray 147))) (SRow.later _ _ _ ((Later.refl W6).alloc (.cells (ItemV x).toArray 147)) h1x) (by omega) hgrow
            have h15 := SRow.dis (SRow.later _ _ _ ((Later.refl W6).alloc (.cells (ItemV x).toArray 147)) h0x) hgrow (hdis)
            have hd5 : Dis v0 (.slice (some ⟨gg, 0, none⟩) ((SD true l k).length + 1) cg) := fun q h1 h2 => by
              have e : gg = q := Option.some.inj h2
              rcases hat with h | h
              · exact (hdis) q h1 (e ▸ h)
              · have := (World.ownsRow.lt h0x q h1).2
                omega
            have ho6 : SRow _ _ _ _ _ _ _ := own_far ho5 (show w.heap.size + 1 < w.heap.size + 2 by omega) 1 (.slice (some ⟨gg, 0, none⟩) ((SD true l k).length + 1) cg)
            have h16 : SRow _ _ _ _ _ _ _ := own_far h15 (show w.heap.size + 1 < w.heap.size + 2 by omega) 1 (.slice (some ⟨gg, 0, none⟩) ((SD true l k).length + 1) cg)
            have hO6 := hO5.put 1 (.slice (some ⟨gg, 0, none⟩) ((SD true l k).length + 1) cg)
            have hR6 := hR5.far (p := ⟨w.heap.size + 1, 1, none⟩) (show w.heap.size ≠ w.heap.size + 1 by omega) (.slice (some ⟨gg, 0, none⟩) ((SD true l k).length + 1) cg)
            have hB6 : Later w _ := Below.setCell hB5 (p := ⟨w.heap.size + 1, 1, none⟩) (show w.heap.size ≤ w.heap.size + 1 by omega) (.slice (some ⟨gg, 0, none⟩) ((SD true l k).length + 1) cg)
            refine wpAny_take (i := 7) (v := .pointer (some ⟨w.heap.size + 1, 1, none⟩)) rfl (by kernel_rfl) (by kernel_rfl) (by kernel_rfl) (fun _ _ _ h => h) (Or.inl ⟨by rfl, fun w => by simp only [execOp, eval_put, size_put, ns, n1, n2, n3, n4]; go_simp⟩) ?_
            refine any_one (i := 8) (by kernel_rfl) rfl rfl ?_
            refine wp_store1 (p := ⟨w.heap.size + 1, 1, none⟩) (v := .slice (some ⟨gg, 0, none⟩) ((SD true l k).length + 1) cg) (hO5.cell 1) (hO5.frozen 1) q1 q3 (by simp [eval_put, size_put, put_none, ns, n1, n2, n3, n4]) (by simp [eval_put, size_put, put_none, ns, n1, n2, n3, n4]) rfl rfl ?_
            refine ⟨by kernel_rfl, ?_⟩
            subst hA2
            subst hA1
            subst ha0
            clear k5 k7 k8 ks m1 m2 m3 m4 ms n1 n2 n3 n4 ns
            simp only [Act.put, List.setIfInBounds_toArray, List.set_cons_succ, List.set_cons_zero]
            go_wp2_with (fail)
            go_roundg (l.length - k)
            case measure => go_light; rw [hkg.out]; omega
            case rel =>
              go_light
              exact ⟨k + 1, v0, _, by go_num, by omega, by omega, by rw [hn0.out]; exact h16, by rw [hn1.out]; exact ho6, hd5, hO6, hR6, hB6⟩
          · refine wp_buildOne (part := (ItemV x).toArray) Try.underlying110 ei1 ei2 ei3 (by simp) (by simp) (by simp [eval_put, size_put, put_none, ms, m1, m2, m3, m4]) (by kernel_rfl) ?_
            refine any_one (i := 3) (by kernel_rfl) rfl rfl ?_
            refine wp_load1 (v := v1) (p := ⟨w.heap.size + 1, 1, none⟩) HCA Try.underlying110 (by simp [eval_put, size_put, put_none, ms, m1, m2, m3, m4]) rfl ?_
            refine anyGen fun a2 hA2 => ?_
            have n1 : a2.eval (.tmp 22) = v1 := (by rw [hA2]; simp [eval_put, size_put, put_none, ms, m1, m2, m3, m4])
            have n2 : a2.eval (.tmp 24) = .slice (some ⟨W6.heap.size, 0, none⟩) 1 1 := (by rw [hA2]; simp [eval_put, size_put, put_none, ms, m1, m2, m3, m4])
            have n3 : a2.eval (.tmp 5) = .pointer (some ⟨w.heap.size + 1, 0, none⟩) := (by rw [hA2]; simp [eval_put, size_put, put_none, ms, m1, m2, m3, m4])
            have n4 : a2.eval (.tmp 19) = .int .i64 1 := (by rw [hA2]; simp [eval_put, size_put, put_none, ms, m1, m2, m3, m4])
            have ns : a2.tmps.size = 29 := (by rw [hA2]; simp [eval_put, size_put, put_none, ms, m1, m2, m3, m4])
            refine any_one (i := 6) (by kernel_rfl) rfl rfl ?_
            refine wp_append_lies _ (.tmp 22) (.tmp 24) 110 rfl (w.heap.size + 2) 147 ie _ 3 48 Try.underlying110 ei1 ei2 ei3 ei4 rfl (by decide) v1 (SD true l k).length ((SD true l k).flatMap ItemV) (by simp [eval_put, size_put, put_none, ns, n1, n2, n3, n4]) (World.ownsRow.alloc h1x _) ⟨W6.heap.size, 0, none⟩ 1 1 (ItemV x) (by simp [eval_put, size_put, put_none, ns, n1, n2, n3, n4]) rfl (World.news_of_block (heap_alloc_new W6 _)) (ItemV_one x) (by decide) (by unfold maxLen; omega) (by omega) (by simp; omega) (W6.heap.size + 1) (by simp) (fun gg cg w5 hown1 hgrow hat hlt5 => ?_)
            have ho5 : SRow 147 3 (w.heap.size + 2) ItemV (SD true l k ++ [x]) (.slice (some ⟨gg, 0, none⟩) ((SD true l k).length + 1) cg) w5 := by unfold SRow; rw [List.length_append, List.flatMap_append]; simpa using hown1
            have hO5 := Whole.only (hOx.alloc (.cells (ItemV x).toArray 147)) hgrow (fun q => ag q.symm)
            have hR5 := Whole.only (hRx.alloc (.cells (ItemV x).toArray 147)) hgrow (fun q => by have := (World.ownsRow.lt h1x _ q.symm).1; omega)
            have hB5 := below_own (Later.trans hBx ((Later.refl W6).alloc (.cells (ItemV x).toArray 147))) (SRow.later _ _ _ ((Later.refl W6).alloc (.cells (ItemV x).toArray 147)) h1x) (by omega) hgrow
            have h15 := SRow.dis (SRow.later _ _ _ ((Later.refl W6).alloc (.cells (ItemV x).toArray 147)) h0x) hgrow (hdis)
            have hd5 : Dis v0 (.slice (some ⟨gg, 0, none⟩) ((SD true l k).length + 1) cg) := fun q h1 h2 => by
              have e : gg = q := Option.some.inj h2
              rcases hat with h | h
              · exact (hdis) q h1 (e ▸ h)
              · have := (World.ownsRow.lt h0x q h1).2
                omega
            have ho6 : SRow _ _ _ _ _ _ _ := own_far ho5 (show w.heap.size + 1 < w.heap.size + 2 by omega) 1 (.slice (some ⟨gg, 0, none⟩) ((SD true l k).length + 1) cg)
            have h16 : SRow _ _ _ _ _ _ _ := own_far h15 (show w.heap.size + 1 < w.heap.size + 2 by omega) 1 (.slice (some ⟨gg, 0, none⟩) ((SD true l k).length + 1) cg)
            have hO6 := hO5.put 1 (.slice (some ⟨gg, 0, none⟩) ((SD true l k).length + 1) cg)
            have hR6 := hR5.far (p := ⟨w.heap.size + 1, 1, none⟩) (show w.heap.size ≠ w.heap.size + 1 by omega) (.slice (some ⟨gg, 0, none⟩) ((SD true l k).length + 1) cg)
            have hB6 : Later w _ := Below.setCell hB5 (p := ⟨w.heap.size + 1, 1, none⟩) (show w.heap.size ≤ w.heap.size + 1 by omega) (.slice (some ⟨gg, 0, none⟩) ((SD true l k).length + 1) cg)
            refine wpAny_take (i := 7) (v := .pointer (some ⟨w.heap.size + 1, 1, none⟩)) rfl (by kernel_rfl) (by kernel_rfl) (by kernel_rfl) (fun _ _ _ h => h) (Or.inl ⟨by rfl, fun w => by simp only [execOp, eval_put, size_put, ns, n1, n2, n3, n4]; go_simp⟩) ?_
            refine any_one (i := 8) (by kernel_rfl) rfl rfl ?_
            refine wp_store1 (p := ⟨w.heap.size + 1, 1, none⟩) (v := .slice (some ⟨gg, 0, none⟩) ((SD true l k).length + 1) cg) (hO5.cell 1) (hO5.frozen 1) q1 q3 (by simp [eval_put, size_put, put_none, ns, n1, n2, n3, n4]) (by simp [eval_put, size_put, put_none, ns, n1, n2, n3, n4]) rfl rfl ?_
            refine ⟨by kernel_rfl, ?_⟩
            subst hA2
            subst hA1
            subst ha0
            clear k5 k7 k8 ks m1 m2 m3 m4 ms n1 n2 n3 n4 ns
            simp only [Act.put, List.setIfInBounds_toArray, List.set_cons_succ, List.set_cons_zero]
            go_wp2_with (fail)
            go_roundg (l.length - k)
            case measure => go_light; rw [hkg.out]; omega
            case rel =>
              go_light
              exact ⟨k + 1, v0, _, by go_num, by omega, by omega, by rw [hn0.out]; exact h16, by rw [hn1.out]; exact ho6, hd5, hO6, hR6, hB6⟩
    · obtain rfl : k = l.length := by omega
      obtain ⟨A0, c0, rfl, hc0, -⟩ := h0.rows IK rfl (fun _ => rfl) IK.K_mk (Nat.le_trans (hsl.out _ _) (by omega))
      obtain ⟨A1, c1, rfl, hc1, -⟩ := h1.rows IK rfl (fun _ => rfl) IK.K_mk (Nat.le_trans (hsl.out _ _) (by omega))
      go_wp2_with (first | (first | ((with_reducible apply wl_loadW (ty := 117) hO Try.underlying117); rfl; rfl; rfl; kernel_rfl) | ((with_reducible apply wl_loadW (ty := 117) (hO.alloc _) Try.underlying117); rfl; rfl; rfl; kernel_rfl) | ((with_reducible apply wl_loadW (ty := 117) ((hO.alloc _).alloc _) Try.underlying117); rfl; rfl; rfl; kernel_rfl)) | ((with_reducible apply wl_storeW (ty := 117) hR); rfl; rfl; rfl; kernel_rfl; rfl; rfl; intro w7 hs7 hg7 hz7))
      refine bodyPost_ret (res_cell1 rfl _ _ _ _ _ _ rfl hs7 Try.underlying117 rfl (by kernel_rfl)) rfl ?_
      go_light
      have hne : ∀ v : Value, ∀ (l' : List KV), SRow 147 3 (w.heap.size + 2) ItemV l' v wr → SRow 147 3 (w.heap.size + 2) ItemV l' v w7 := fun v l' h => World.ownsRow.kept h hg7 (by
        cases hu : v.ownBlock with
        | none => exact .inl rfl
        | some g => exact .inr (fun q => by have := (World.ownsRow.lt h g hu).1; have := Option.some.inj q; omega))
      obtain ⟨A0', c0', e0, -, hR0⟩ := (hne _ _ h0).rows IK rfl (fun _ => rfl) IK.K_mk (Nat.le_trans (hsl.out _ _) (by omega))
      obtain ⟨rfl, rfl⟩ : A0 = A0' ∧ c0 = c0' := by simpa using e0
      obtain ⟨A1', c1', e1, -, hR1⟩ := (hne _ _ h1).rows IK rfl (fun _ => rfl) IK.K_mk (Nat.le_trans (hsl.out _ _) (by omega))
      obtain ⟨rfl, rfl⟩ : A1 = A1' ∧ c1 = c1' := by simpa using e1
      rw [f1.out] at hc0 hR0 ⊢
      rw [f2.out] at hc1 hR1 ⊢
      exact ⟨A0, A1, c0, c1, rfl, hc0, hc1, hR0, hR1, below_only' hB hg7 (by omega)⟩
end Go.Proofs.Ytknjbkbbhgjnlaa
