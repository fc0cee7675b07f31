/- The walk of the law WireApart. No conditions. -/
import Derived.Test.YtdohmkanpdhmaaaWireAwake
import Derived.Test.YtdohmkanpdhmaaaWireReq
import Derived.WalkLawsBesides
namespace Go.Proofs.Ytdohmkanpdhmaaa
open Go.RowKit
set_option linter.unusedVariables false
set_option linter.unusedSimpArgs false
set_option maxHeartbeats 1000000 in
set_option maxRecDepth 100000 in
theorem wireApart_not (a b : Rq) (w : World) (h : (a.right && b.right) = false) : Calls Try.prog 8 #[.agg a.A, .agg b.A] w fun e w' => e = .returned (.bool true) ∧ Below w.heap.size w w' := by
  have A1 := fun W => refRight02_calls a.c a.s a.l a.k a.v W
  have A2 := fun W => refRight02_calls b.c b.s b.l b.k b.v W
  have ha := Whole.new w 56 a.A
  have hc := Whole.new1 w (.cells a.A 56) 56 b.A
  replace ha := ha.alloc (.cells b.A 56)
  have hB : Below w.heap.size w ((w.alloc (.cells a.A 56)).alloc (.cells b.A 56)) := by go_grown
  unfold Rq.A at *
  cases h1 : a.right
  · have e1 : Rq.right ⟨a.c, a.s, a.l, a.k, a.v⟩ = false := h1
    simp only [e1] at A1
    replace A1 := Lib.hid A1
    clear A2 h h1 e1
    go_enter Try.func8, Try.ntmps8
    go_wp2_with (first | (first | ((with_reducible apply wl_loadW (ty := 56) ha Try.underlying56); rfl; rfl; rfl; kernel_rfl) | ((with_reducible apply wl_loadW (ty := 56) (ha.alloc _) Try.underlying56); rfl; rfl; rfl; kernel_rfl) | ((with_reducible apply wl_loadW (ty := 56) ((ha.alloc _).alloc _) Try.underlying56); rfl; rfl; rfl; kernel_rfl)) | (first | ((with_reducible apply wl_loadW (ty := 56) hc Try.underlying56); rfl; rfl; rfl; kernel_rfl) | ((with_reducible apply wl_loadW (ty := 56) (hc.alloc _) Try.underlying56); rfl; rfl; rfl; kernel_rfl) | ((with_reducible apply wl_loadW (ty := 56) ((hc.alloc _).alloc _) Try.underlying56); rfl; rfl; rfl; kernel_rfl)) | ((with_reducible refine (A1.out _).mono ?_); rintro e w1 ⟨rfl, hb1⟩; replace ha := Whole.below (by first | (with_reducible exact ha) | (with_reducible exact ha.alloc _) | (with_reducible exact (ha.alloc _).alloc _) | (with_reducible exact ha.drewN _)) hb1 (by have := ha.lt; go_size); replace hc := Whole.below (by first | (with_reducible exact hc) | (with_reducible exact hc.alloc _) | (with_reducible exact (hc.alloc _).alloc _) | (with_reducible exact hc.drewN _)) hb1 (by have := hc.lt; go_size); replace hB := below_next' (by first | (with_reducible exact hB) | (with_reducible exact hB.alloc hB.size _) | (with_reducible exact (hB.alloc hB.size _).alloc (hB.alloc hB.size _).size _) | exact below_drewN' hB _) hb1) | ((with_reducible refine (awake02_calls _).mono ?_); rintro e w2 ⟨rfl, hb2⟩; replace ha := Whole.below (by first | (with_reducible exact ha) | (with_reducible exact ha.alloc _) | (with_reducible exact (ha.alloc _).alloc _) | (with_reducible exact ha.drewN _)) hb2 (by have := ha.lt; go_size); replace hc := Whole.below (by first | (with_reducible exact hc) | (with_reducible exact hc.alloc _) | (with_reducible exact (hc.alloc _).alloc _) | (with_reducible exact hc.drewN _)) hb2 (by have := hc.lt; go_size); replace hB := below_next' (by first | (with_reducible exact hB) | (with_reducible exact hB.alloc hB.size _) | (with_reducible exact (hB.alloc hB.size _).alloc (hB.alloc hB.size _).size _) | exact below_drewN' hB _) hb2))
    go_returns
    exact ⟨rfl, hB⟩
  · have h2 : b.right = false := by simpa [h1] using h
    have e1 : Rq.right ⟨a.c, a.s, a.l, a.k, a.v⟩ = true := h1
    have e2 : Rq.right ⟨b.c, b.s, b.l, b.k, b.v⟩ = false := h2
    simp only [e1] at A1
    simp only [e2] at A2
    replace A1 := Lib.hid A1
    replace A2 := Lib.hid A2
    clear h h1 h2 e1 e2
    go_enter Try.func8, Try.ntmps8
    go_wp2_with (first | (first | ((with_reducible apply wl_loadW (ty := 56) ha Try.underlying56); rfl; rfl; rfl; kernel_rfl) | ((with_reducible apply wl_loadW (ty := 56) (ha.alloc _) Try.underlying56); rfl; rfl; rfl; kernel_rfl) | ((with_reducible apply wl_loadW (ty := 56) ((ha.alloc _).alloc _) Try.underlying56); rfl; rfl; rfl; kernel_rfl)) | (first | ((with_reducible apply wl_loadW (ty := 56) hc Try.underlying56); rfl; rfl; rfl; kernel_rfl) | ((with_reducible apply wl_loadW (ty := 56) (hc.alloc _) Try.underlying56); rfl; rfl; rfl; kernel_rfl) | ((with_reducible apply wl_loadW (ty := 56) ((hc.alloc _).alloc _) Try.underlying56); rfl; rfl; rfl; kernel_rfl)) | ((with_reducible refine (A1.out _).mono ?_); rintro e w1 ⟨rfl, hb1⟩; replace ha := Whole.below (by first | (with_reducible exact ha) | (with_reducible exact ha.alloc _) | (with_reducible exact (ha.alloc _).alloc _) | (with_reducible exact ha.drewN _)) hb1 (by have := ha.lt; go_size); replace hc := Whole.below (by first | (with_reducible exact hc) | (with_reducible exact hc.alloc _) | (with_reducible exact (hc.alloc _).alloc _) | (with_reducible exact hc.drewN _)) hb1 (by have := hc.lt; go_size); replace hB := below_next' (by first | (with_reducible exact hB) | (with_reducible exact hB.alloc hB.size _) | (with_reducible exact (hB.alloc hB.size _).alloc (hB.alloc hB.size _).size _) | exact below_drewN' hB _) hb1) | ((with_reducible refine (A2.out _).mono ?_); rintro e w3 ⟨rfl, hb3⟩; replace ha := Whole.below (by first | (with_reducible exact ha) | (with_reducible exact ha.alloc _) | (with_reducible exact (ha.alloc _).alloc _) | (with_reducible exact ha.drewN _)) hb3 (by have := ha.lt; go_size); replace hc := Whole.below (by first | (with_reducible exact hc) | (with_reducible exact hc.alloc _) | (with_reducible exact (hc.alloc _).alloc _) | (with_reducible exact hc.drewN _)) hb3 (by have := hc.lt; go_size); replace hB := below_next' (by first | (with_reducible exact hB) | (with_reducible exact hB.alloc hB.size _) | (with_reducible exact (hB.alloc hB.size _).alloc (hB.alloc hB.size _).size _) | exact below_drewN' hB _) hb3) | ((with_reducible refine (awake02_calls _).mono ?_); rintro e w2 ⟨rfl, hb2⟩; replace ha := Whole.below (by first | (with_reducible exact ha) | (with_reducible exact ha.alloc _) | (with_reducible exact (ha.alloc _).alloc _) | (with_reducible exact ha.drewN _)) hb2 (by have := ha.lt; go_size); replace hc := Whole.below (by first | (with_reducible exact hc) | (with_reducible exact hc.alloc _) | (with_reducible exact (hc.alloc _).alloc _) | (with_reducible exact hc.drewN _)) hb2 (by have := hc.lt; go_size); replace hB := below_next' (by first | (with_reducible exact hB) | (with_reducible exact hB.alloc hB.size _) | (with_reducible exact (hB.alloc hB.size _).alloc (hB.alloc hB.size _).size _) | exact below_drewN' hB _) hb2))
    all_goals go_returns
    all_goals exact ⟨rfl, hB⟩

set_option maxHeartbeats 4000000 in
set_option maxRecDepth 100000 in
theorem wireApart_yes (a b : Rq) (w : World) (h1 : a.right = true) (h2 : b.right = true) : Calls Try.prog 8 #[.agg a.A, .agg b.A] w fun e w' => e = .returned (.bool true) ∧ Below w.heap.size w w' := by
  obtain ⟨_, _, _, _, _, l1, l2, l3⟩ := right_bounds h1
  obtain ⟨_, _, _, _, _, m1, m2, m3⟩ := right_bounds h2
  have A1 := fun W => refRight02_calls a.c a.s a.l a.k a.v W
  have A2 := fun W => refRight02_calls b.c b.s b.l b.k b.v W
  have B1 := fun W => request_calls a W (by omega) (by omega) (by omega)
  have B2 := fun W => request_calls b W (by omega) (by omega) (by omega)
  have ha := Whole.new w 56 a.A
  have hc := Whole.new1 w (.cells a.A 56) 56 b.A
  replace ha := ha.alloc (.cells b.A 56)
  have hB : Below w.heap.size w ((w.alloc (.cells a.A 56)).alloc (.cells b.A 56)) := by go_grown
  obtain ⟨x, hx⟩ : ∃ x, a.B = x := ⟨_, rfl⟩
  obtain ⟨y, hy⟩ : ∃ x, b.B = x := ⟨_, rfl⟩
  simp only [hx] at B1
  simp only [hy] at B2
  have e1 : Rq.right ⟨a.c, a.s, a.l, a.k, a.v⟩ = true := h1
  have e2 : Rq.right ⟨b.c, b.s, b.l, b.k, b.v⟩ = true := h2
  simp only [e1] at A1
  simp only [e2] at A2
  unfold Rq.A at *
  replace A1 := Lib.hid A1
  replace A2 := Lib.hid A2
  replace B1 := Lib.hid B1
  replace B2 := Lib.hid B2
  replace h1 := Lib.hid h1
  replace h2 := Lib.hid h2
  replace hx := Lib.hid hx
  replace hy := Lib.hid hy
  clear e1 e2
  go_enter Try.func8, Try.ntmps8
  go_upto_region 3 with (first | (first | ((with_reducible apply wl_loadW (ty := 56) ha Try.underlying56); rfl; rfl; rfl; kernel_rfl) | ((with_reducible apply wl_loadW (ty := 56) (ha.alloc _) Try.underlying56); rfl; rfl; rfl; kernel_rfl) | ((with_reducible apply wl_loadW (ty := 56) ((ha.alloc _).alloc _) Try.underlying56); rfl; rfl; rfl; kernel_rfl)) | (first | ((with_reducible apply wl_loadW (ty := 56) hc Try.underlying56); rfl; rfl; rfl; kernel_rfl) | ((with_reducible apply wl_loadW (ty := 56) (hc.alloc _) Try.underlying56); rfl; rfl; rfl; kernel_rfl) | ((with_reducible apply wl_loadW (ty := 56) ((hc.alloc _).alloc _) Try.underlying56); rfl; rfl; rfl; kernel_rfl)) | ((with_reducible refine (A1.out _).mono ?_); rintro e w1 ⟨rfl, hb1⟩; replace ha := Whole.below (by first | (with_reducible exact ha) | (with_reducible exact ha.alloc _) | (with_reducible exact (ha.alloc _).alloc _) | (with_reducible exact ha.drewN _)) hb1 (by have := ha.lt; go_size); replace hc := Whole.below (by first | (with_reducible exact hc) | (with_reducible exact hc.alloc _) | (with_reducible exact (hc.alloc _).alloc _) | (with_reducible exact hc.drewN _)) hb1 (by have := hc.lt; go_size); replace hB := below_next' (by first | (with_reducible exact hB) | (with_reducible exact hB.alloc hB.size _) | (with_reducible exact (hB.alloc hB.size _).alloc (hB.alloc hB.size _).size _) | exact below_drewN' hB _) hb1) | ((with_reducible refine (A2.out _).mono ?_); rintro e w3 ⟨rfl, hb3⟩; replace ha := Whole.below (by first | (with_reducible exact ha) | (with_reducible exact ha.alloc _) | (with_reducible exact (ha.alloc _).alloc _) | (with_reducible exact ha.drewN _)) hb3 (by have := ha.lt; go_size); replace hc := Whole.below (by first | (with_reducible exact hc) | (with_reducible exact hc.alloc _) | (with_reducible exact (hc.alloc _).alloc _) | (with_reducible exact hc.drewN _)) hb3 (by have := hc.lt; go_size); replace hB := below_next' (by first | (with_reducible exact hB) | (with_reducible exact hB.alloc hB.size _) | (with_reducible exact (hB.alloc hB.size _).alloc (hB.alloc hB.size _).size _) | exact below_drewN' hB _) hb3) | ((with_reducible refine (awake02_calls _).mono ?_); rintro e w2 ⟨rfl, hb2⟩; replace ha := Whole.below (by first | (with_reducible exact ha) | (with_reducible exact ha.alloc _) | (with_reducible exact (ha.alloc _).alloc _) | (with_reducible exact ha.drewN _)) hb2 (by have := ha.lt; go_size); replace hc := Whole.below (by first | (with_reducible exact hc) | (with_reducible exact hc.alloc _) | (with_reducible exact (hc.alloc _).alloc _) | (with_reducible exact hc.drewN _)) hb2 (by have := hc.lt; go_size); replace hB := below_next' (by first | (with_reducible exact hB) | (with_reducible exact hB.alloc hB.size _) | (with_reducible exact (hB.alloc hB.size _).alloc (hB.alloc hB.size _).size _) | exact below_drewN' hB _) hb2))
  have ca := ha.cell
  have cb := hc.cell
  have a0 : w3.cell? ⟨w.heap.size, 0, none⟩ = some (.int .i64 a.c) := ca 0
  have a1 : w3.cell? ⟨w.heap.size, 1, none⟩ = some (.int .i64 a.s) := ca 1
  have a2 : w3.cell? ⟨w.heap.size, 2, none⟩ = some (.string a.l) := ca 2
  have a3 : w3.cell? ⟨w.heap.size, 3, none⟩ = some (.string a.k) := ca 3
  have a4 : w3.cell? ⟨w.heap.size, 4, none⟩ = some (.string a.v) := ca 4
  have b0 : w3.cell? ⟨w.heap.size + 1, 0, none⟩ = some (.int .i64 b.c) := cb 0
  have b1 : w3.cell? ⟨w.heap.size + 1, 1, none⟩ = some (.int .i64 b.s) := cb 1
  have b2 : w3.cell? ⟨w.heap.size + 1, 2, none⟩ = some (.string b.l) := cb 2
  have b3 : w3.cell? ⟨w.heap.size + 1, 3, none⟩ = some (.string b.k) := cb 3
  have b4 : w3.cell? ⟨w.heap.size + 1, 4, none⟩ = some (.string b.v) := cb 4
  clear ca cb
  go_cut [5, 6] (fun p q wc => p = .string x ∧ q = .string y ∧ Below w3.heap.size w3 wc)
  case first =>
    have hD := (Below.refl w3.heap.size w3).drew
    go_region_held3 (fun W : World => (W.cell? ⟨w.heap.size, 0, none⟩ = some (.int .i64 a.c) ∧ W.cell? ⟨w.heap.size, 1, none⟩ = some (.int .i64 a.s) ∧ W.cell? ⟨w.heap.size, 2, none⟩ = some (.string a.l) ∧ W.cell? ⟨w.heap.size, 3, none⟩ = some (.string a.k) ∧ W.cell? ⟨w.heap.size, 4, none⟩ = some (.string a.v)) ∧ (W.cell? ⟨w.heap.size + 1, 0, none⟩ = some (.int .i64 b.c) ∧ W.cell? ⟨w.heap.size + 1, 1, none⟩ = some (.int .i64 b.s) ∧ W.cell? ⟨w.heap.size + 1, 2, none⟩ = some (.string b.l) ∧ W.cell? ⟨w.heap.size + 1, 3, none⟩ = some (.string b.k) ∧ W.cell? ⟨w.heap.size + 1, 4, none⟩ = some (.string b.v))) (first | exact ⟨⟨a0, a1, a2, a3, a4⟩, ⟨b0, b1, b2, b3, b4⟩⟩ | exact ⟨⟨cell_keep a0 hD, cell_keep a1 hD, cell_keep a2 hD, cell_keep a3 hD, cell_keep a4 hD⟩, ⟨cell_keep b0 hD, cell_keep b1 hD, cell_keep b2 hD, cell_keep b3 hD, cell_keep b4 hD⟩⟩ | go_keep) (first | (go_simp; (with_reducible refine (B1.out _).mono ?_); rintro e w4 ⟨rfl, hb4⟩; replace hD := below_next' hD hb4) | (go_simp; (with_reducible refine (B2.out _).mono ?_); rintro e w5 ⟨rfl, hb5⟩; replace hD := below_next' hD hb5))
    all_goals (go_wp2_with (fail); go_meet)
    all_goals exact ⟨rfl, rfl, hD⟩
  case rest =>
    obtain ⟨rfl, rfl, hb6⟩ := hcut
    replace ha := ha.below hb6 ha.lt
    replace hc := hc.below hb6 hc.lt
    replace hB := below_next' hB hb6
    by_cases hab : a = b
    · subst hab
      have hxy : x = y := by rw [← hx.out, ← hy.out]
      subst hxy
      go_wp2_with (first | (first | ((with_reducible apply wl_loadW (ty := 56) ha Try.underlying56); rfl; rfl; rfl; kernel_rfl) | ((with_reducible apply wl_loadW (ty := 56) (ha.alloc _) Try.underlying56); rfl; rfl; rfl; kernel_rfl) | ((with_reducible apply wl_loadW (ty := 56) ((ha.alloc _).alloc _) Try.underlying56); rfl; rfl; rfl; kernel_rfl)) | (first | ((with_reducible apply wl_loadW (ty := 56) hc Try.underlying56); rfl; rfl; rfl; kernel_rfl) | ((with_reducible apply wl_loadW (ty := 56) (hc.alloc _) Try.underlying56); rfl; rfl; rfl; kernel_rfl) | ((with_reducible apply wl_loadW (ty := 56) ((hc.alloc _).alloc _) Try.underlying56); rfl; rfl; rfl; kernel_rfl)))
      all_goals go_returns
      all_goals go_light
      all_goals exact ⟨ret_bool (by simp), hB⟩
    · have hne : x ≠ y := fun e => hab (req_prefix (t := ByteArray.empty) (u := ByteArray.empty) h1.out h2.out (by rw [hx.out, hy.out, e]))
      have nba : ∀ (_ : a.c = b.c) (_ : a.s = b.s) (_ : a.l.toList = b.l.toList) (_ : a.k.toList = b.k.toList) (_ : a.v.toList = b.v.toList), False := by
        intro e1 e2 e3 e4 e5
        apply hab
        rw [toL_inj] at e3 e4 e5
        cases a; cases b
        simp only at e1 e2 e3 e4 e5
        subst e1; subst e2; subst e3; subst e4; subst e5
        rfl
      obtain ⟨n, hn⟩ : ∃ n, min x.size y.size = n := ⟨_, rfl⟩
      have hx1 : 1 ≤ x.size := req_size hx.out
      have hy1 : 1 ≤ y.size := req_size hy.out
      have hex : x.extract 0 n ≠ y.extract 0 n := by
        intro e
        refine hab (req_pre h1.out h2.out hx.out hy.out (n := n) (by omega) e)
      have hmin : min (x.size : Int) (y.size : Int) = (n : Int) := by omega
      have hnx : n ≤ x.size := by omega
      have hny : n ≤ y.size := by omega
      have hn0 : ((n : Int) == 0) = false := by rw [beq_eq_false_iff_ne]; omega
      have hl1 : (x.toList == y.toList) = false := by rw [beqL, decide_eq_false_iff_not]; exact hne
      have hl2 : ((x.extract 0 n).toList == (y.extract 0 n).toList) = false := by rw [beqL, decide_eq_false_iff_not]; exact hex
      replace nba := Lib.hid nba
      clear hne hex hn hab
      go_upto_region 7 with (first | (first | ((with_reducible apply wl_loadW (ty := 56) ha Try.underlying56); rfl; rfl; rfl; kernel_rfl) | ((with_reducible apply wl_loadW (ty := 56) (ha.alloc _) Try.underlying56); rfl; rfl; rfl; kernel_rfl) | ((with_reducible apply wl_loadW (ty := 56) ((ha.alloc _).alloc _) Try.underlying56); rfl; rfl; rfl; kernel_rfl)) | (first | ((with_reducible apply wl_loadW (ty := 56) hc Try.underlying56); rfl; rfl; rfl; kernel_rfl) | ((with_reducible apply wl_loadW (ty := 56) (hc.alloc _) Try.underlying56); rfl; rfl; rfl; kernel_rfl) | ((with_reducible apply wl_loadW (ty := 56) ((hc.alloc _).alloc _) Try.underlying56); rfl; rfl; rfl; kernel_rfl)))
      all_goals (try (exfalso; refine nba.out ?_ ?_ ?_ ?_ ?_ <;> assumption))
      all_goals (try simp only [hmin, hl1, hl2])
      all_goals (go_quiet (fail))
      all_goals (go_wp2_with (first | (first | ((with_reducible apply wl_loadW (ty := 56) ha Try.underlying56); rfl; rfl; rfl; kernel_rfl) | ((with_reducible apply wl_loadW (ty := 56) (ha.alloc _) Try.underlying56); rfl; rfl; rfl; kernel_rfl) | ((with_reducible apply wl_loadW (ty := 56) ((ha.alloc _).alloc _) Try.underlying56); rfl; rfl; rfl; kernel_rfl)) | (first | ((with_reducible apply wl_loadW (ty := 56) hc Try.underlying56); rfl; rfl; rfl; kernel_rfl) | ((with_reducible apply wl_loadW (ty := 56) (hc.alloc _) Try.underlying56); rfl; rfl; rfl; kernel_rfl) | ((with_reducible apply wl_loadW (ty := 56) ((hc.alloc _).alloc _) Try.underlying56); rfl; rfl; rfl; kernel_rfl))))
      all_goals go_returns
      all_goals go_light
      all_goals exact ⟨ret_bool (by simp), below_drewN' hB _⟩
theorem wireApart_calls (a b : Rq) (w : World) : Calls Try.prog 8 #[.agg a.A, .agg b.A] w fun e w' => e = .returned (.bool true) ∧ Below w.heap.size w w' := by
  cases h1 : a.right
  · exact wireApart_not a b w (by simp [h1])
  · cases h2 : b.right
    · exact wireApart_not a b w (by simp [h2])
    · exact wireApart_yes a b w h1 h2
end Go.Proofs.Ytdohmkanpdhmaaa
