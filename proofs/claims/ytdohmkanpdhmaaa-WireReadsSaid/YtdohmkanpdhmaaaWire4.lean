/- Contracts of package wire: requests read. No conditions. -/
import Derived.Test.YtdohmkanpdhmaaaWire3
namespace Go.Proofs.Ytdohmkanpdhmaaa
open Go.RowKit
set_option linter.unusedVariables false
set_option linter.unusedSimpArgs false

set_option maxHeartbeats 1000000 in
set_option maxRecDepth 100000 in
theorem readReq_calls (b : ByteArray) (w : World) :
    Calls Try.prog 37 #[.string b] w fun e w' => e = .returned (.tuple #[.agg (readReq b).1.A, .int .i64 (readReq b).2]) ∧ Below w.heap.size w w' := by
  have hq : readReq b = (let x := ((⟨b, false⟩ : Rd).mark (lit [82])).req
    if x.2.done && x.1.right then (x.1, 0) else (Rq.zero, 2)) := rfl
  generalize hr : readReq b = r at hq
  have Hq := Lib.hid hq
  clear hq hr
  go_enter Try.func37, Try.ntmps37
  go_wp2_with fail
  refine (rmark ⟨b, false⟩ (lit [82]) _ _ (Whole.new1 _ _ _ _)).mono ?_
  rintro e w1 ⟨rfl, hw1, hg1⟩
  have hr1 : Whole w1 w.heap.size 56 Rq.zero.A := Whole.only (Whole.alloc (Whole.new _ _ _) _) hg1 (by simp)
  generalize hs1 : (⟨b, false⟩ : Rd).mark (lit [82]) = r1 at hw1
  have Hs1 := Lib.hid hs1
  clear hs1
  go_wp2_with fail
  refine (rnum r1 _ _ hw1).mono ?_
  rintro e w2 ⟨rfl, hw2, hg2⟩
  have hr2 := hr1.only hg2 (by simp)
  go_wp2_with fail
  refine (rnum r1.num.2 _ _ hw2).mono ?_
  rintro e w3 ⟨rfl, hw3, hg3⟩
  have hr3 := hr2.only hg3 (by simp)
  go_wp2_with fail
  refine (rtext r1.num.2.num.2 _ _ hw3).mono ?_
  rintro e w4 ⟨rfl, hw4, hg4⟩
  have hr4 := hr3.only hg4 (by simp)
  go_wp2_with fail
  refine (rtext r1.num.2.num.2.text.2 _ _ hw4).mono ?_
  rintro e w5 ⟨rfl, hw5, hg5⟩
  have hr5 := hr4.only hg5 (by simp)
  go_wp2_with fail
  refine (rtext r1.num.2.num.2.text.2.text.2 _ _ hw5).mono ?_
  rintro e w6 ⟨rfl, hw6, hg6⟩
  have hr6 := hr5.only hg6 (by simp)
  have hB : Below w.heap.size w w6 := by
    refine below_only' (below_only' (below_only' (below_only' (below_only' (below_only' ?_ hg1 ?_) hg2 ?_) hg3 ?_) hg4 ?_) hg5 ?_) hg6 ?_
    all_goals first | go_grown | omega
  have hX : r1.req = (⟨r1.num.1, r1.num.2.num.1, r1.num.2.num.2.text.1, r1.num.2.num.2.text.2.text.1, r1.num.2.num.2.text.2.text.2.text.1⟩, r1.num.2.num.2.text.2.text.2.text.2) := rfl
  generalize r1.num.2.num.2.text.2.text.2.text.2 = r6 at hw6 hX
  generalize r1.num.1 = c at hX ⊢
  generalize r1.num.2.num.1 = s at hX ⊢
  generalize r1.num.2.num.2.text.1 = l at hX ⊢
  generalize r1.num.2.num.2.text.2.text.1 = k at hX ⊢
  generalize r1.num.2.num.2.text.2.text.2.text.1 = v at hX ⊢
  have HX := Lib.hid hX
  clear hX hg1 hg2 hg3 hg4 hg5 hg6 hr1 hr2 hr3 hr4 hr5 hw1 hw2 hw3 hw4 hw5
  go_wp2_with fail
  refine (rdone r6 _ _ (hw6.alloc _)).mono ?_
  rintro e w7 ⟨rfl, rfl⟩
  have hz := hr6.alloc (.cells #[.int .i64 c, .int .i64 s, .string l, .string k, .string v] 56)
  have hn := Whole.new w6 56 #[.int .i64 c, .int .i64 s, .string l, .string k, .string v]
  have hlt := hr6.lt
  have hB' := hB.alloc hB.size (.cells #[.int .i64 c, .int .i64 s, .string l, .string k, .string v] 56)
  generalize hw9 : w6.alloc (.cells #[.int .i64 c, .int .i64 s, .string l, .string k, .string v] 56) = w9 at *
  have hn9 : w6.heap.size < w9.heap.size := hn.lt
  clear hw9
  cases hd : r6.done
  · go_wp2_with ((with_reducible apply wl_storeW (ty := 56) hz); rfl; rfl; rfl; kernel_rfl; rfl; rfl; intro w10 hs10 hg10 hz10)
    refine bodyPost_ret (res_cell_tmp rfl _ _ _ _ _ _ rfl hs10 Try.underlying56 rfl (by kernel_rfl)) rfl ?_
    go_light
    have hq := Hq.out
    rw [Hs1.out, HX.out] at hq
    simp [hd] at hq
    subst hq
    exact ⟨rfl, below_only' hB' hg10 (Nat.le_refl _)⟩
  · go_wp2_with (first | ((with_reducible apply wl_loadW (ty := 56) hn Try.underlying56); rfl; rfl; rfl; kernel_rfl) | ((with_reducible apply wl_storeW (ty := 56) hz); rfl; rfl; rfl; kernel_rfl; rfl; rfl; intro w10 hs10 hg10 hz10) | (go_at_call 38; refine (right_calls _ _ _ _ _ _).mono ?_; rintro e w8 ⟨rfl, hb8⟩; replace hz := (hz.below hb8 hz.lt); replace hn := (hn.below hb8 hn.lt)))
    all_goals refine bodyPost_ret (res_cell_tmp rfl _ _ _ _ _ _ rfl hs10 Try.underlying56 rfl (by kernel_rfl)) rfl ?_
    all_goals go_light
    all_goals have hq := Hq.out
    all_goals rw [Hs1.out, HX.out] at hq
    all_goals simp [hd] at hq
    all_goals simp_all only [Bool.not_eq_true', Bool.not_eq_false']
    all_goals subst hq
    all_goals exact ⟨by first | rfl | simp [*] <;> rfl, below_only' (below_next' hB' hb8) hg10 (Nat.le_refl _)⟩
end Go.Proofs.Ytdohmkanpdhmaaa
