/- The reference's history: History.Now. Condition: at most 2^40 calls so far. -/
import Derived.Test.YtdohmkanpdhmaaaHist2
import Derived.StillTailTactics
namespace Go.Proofs.Ytdohmkanpdhmaaa
open Go.RowKit
set_option linter.unusedVariables false
set_option linter.unusedSimpArgs false
theorem HistAt.below {W W' : World} {g base : Nat} {h : HS} {v0 v1 v2 : Value} (H : HistAt W g base h v0 v1 v2) (hb : Below W.heap.size W W') : HistAt W' g base h v0 v1 v2 := by
  have hg : W.grownBy W' none := only_below hb none
  have hn : ∀ v : Value, v.ownBlock = none ∨ v.ownBlock ≠ none := fun v => by cases v.ownBlock <;> simp
  exact ⟨H.blk.below hb H.blk.lt, H.r0.kept hg (hn _), H.r1.kept hg (hn _), H.r2.kept hg (hn _), H.ne, H.lt, Nat.le_trans H.bs hb.size⟩
set_option maxHeartbeats 400000 in
set_option maxRecDepth 100000 in
theorem now_none (W : World) (g base : Nat) (h : HS) (v0 v1 v2 : Value) (hH : HistAt W g base h v0 v1 v2)
    (hn : h.pl.length ≤ 1099511627776) (ha : h.al = []) (hv : h.vl = []) :
    Calls Try.prog 20 #[.pointer (some ⟨g, 0, none⟩)] W fun e w' => e = .returned (.agg h.now.A) ∧ Below W.heap.size W w' := by
  obtain ⟨hb, h0, h1, h2, hne, hlt, hbs⟩ := hH
  have hnow : h.now.A = #[.int .i64 (most h.pl), .int .i64 0, .string ByteArray.empty] := by simp [HS.now, SL.A, ha, hv]
  rw [hnow]
  obtain ⟨A0, c0, rfl, hc0, hr0⟩ : ∃ A c, v0 = .slice A h.pl.length c ∧ h.pl.length ≤ c ∧ (Kn.int .i64).Rows W A h.pl := own_rowsE h0 (by omega)
  obtain ⟨A1, c1, rfl, hc1, hr1⟩ := own_rowsE (f := Value.int .i64) (hf := fun _ => rfl) h1 (by rw [ha]; simp)
  rw [ha] at hb
  simp only [List.length_nil] at hb
  have hz := Whole.new W 23 #[.int .i64 0, .int .i64 0, .string ⟨#[]⟩]
  have hB : Below W.heap.size W (W.alloc (.cells #[.int .i64 0, .int .i64 0, .string ⟨#[]⟩] 23)) := by go_grown
  have hM := most_calls A0 h.pl c0 (W.alloc (.cells #[.int .i64 0, .int .i64 0, .string ⟨#[]⟩] 23)) (hr0.below hB)
  generalize most h.pl = m at *
  have hb' := hb.alloc (.cells #[.int .i64 0, .int .i64 0, .string ⟨#[]⟩] 23)
  have k0 : (W.alloc (.cells #[.int .i64 0, .int .i64 0, .string ⟨#[]⟩] 23)).cell? ⟨g, 0, none⟩ = some (.slice A0 h.pl.length c0) := hb'.cell 0
  have k1 : (W.alloc (.cells #[.int .i64 0, .int .i64 0, .string ⟨#[]⟩] 23)).cell? ⟨g, 1, none⟩ = some (.slice A1 0 c1) := hb'.cell 1
  have hgo : g < W.heap.size := hb.lt
  replace hM := Lib.hid hM
  clear hnow
  go_enter Try.func20, Try.ntmps20
  go_upto_region 2 with (go_at_call 43; refine hM.out.mono ?_; rintro e w1 ⟨rfl, rfl⟩)
  have k1' := cell_alloc k1 (.cells #[.int .i64 m, .int .i64 0, .string ⟨#[]⟩] 23)
  go_wp2
  go_returns
  go_light
  exact ⟨rfl, by go_grown⟩
set_option maxHeartbeats 400000 in
set_option maxRecDepth 100000 in
theorem now_some (W : World) (g base : Nat) (h : HS) (v0 v1 v2 : Value) (hH : HistAt W g base h v0 v1 v2)
    (hn : h.pl.length ≤ 1099511627776) (hn1 : h.al.length ≤ 1099511627776) (hn2 : h.vl.length ≤ 1099511627776) (qa qv : Nat) (ha : h.al.length = qa + 1) (hv : h.vl.length = qv + 1) :
    Calls Try.prog 20 #[.pointer (some ⟨g, 0, none⟩)] W fun e w' => e = .returned (.agg h.now.A) ∧ Below W.heap.size W w' := by
  obtain ⟨hb, h0, h1, h2, hne, hlt, hbs⟩ := hH
  obtain ⟨x, hx⟩ : ∃ x, h.al[qa]'(by omega) = x := ⟨_, rfl⟩
  obtain ⟨y, hy⟩ : ∃ y, h.vl[qv]'(by omega) = y := ⟨_, rfl⟩
  have hnow : h.now.A = #[.int .i64 (most h.pl), .int .i64 x, .string y] := by
    have e1 : h.al.getLast? = some x := by rw [List.getLast?_eq_getElem?, ha, Nat.add_sub_cancel, List.getElem?_eq_getElem (by omega), hx]
    have e2 : h.vl.getLast? = some y := by rw [List.getLast?_eq_getElem?, hv, Nat.add_sub_cancel, List.getElem?_eq_getElem (by omega), hy]
    simp [HS.now, SL.A, e1, e2]
  rw [hnow]
  obtain ⟨A0, c0, rfl, hc0, hr0⟩ : ∃ A c, v0 = .slice A h.pl.length c ∧ h.pl.length ≤ c ∧ (Kn.int .i64).Rows W A h.pl := own_rowsE h0 (by omega)
  obtain ⟨A1, c1, rfl, hc1, hr1⟩ := own_rowsE (f := Value.int .i64) (hf := fun _ => rfl) h1 (by omega)
  obtain ⟨A2, c2, rfl, hc2, hr2⟩ := own_rowsE (f := Value.string) (hf := fun _ => rfl) h2 (by omega)
  obtain ⟨ad, rfl, hadlt, e1⟩ := hr1.one_ (k := qa) (by omega)
  obtain ⟨bd, rfl, hbdlt, e2⟩ := hr2.one_ (k := qv) (by omega)
  rw [hx] at e1
  rw [hy] at e2
  rw [ha, hv] at hb
  have hz := Whole.new W 23 #[.int .i64 0, .int .i64 0, .string ⟨#[]⟩]
  have hB : Below W.heap.size W (W.alloc (.cells #[.int .i64 0, .int .i64 0, .string ⟨#[]⟩] 23)) := by go_grown
  have hM := most_calls A0 h.pl c0 (W.alloc (.cells #[.int .i64 0, .int .i64 0, .string ⟨#[]⟩] 23)) (hr0.below hB)
  generalize most h.pl = m at *
  have hb' := hb.alloc (.cells #[.int .i64 0, .int .i64 0, .string ⟨#[]⟩] 23)
  have k0 : (W.alloc (.cells #[.int .i64 0, .int .i64 0, .string ⟨#[]⟩] 23)).cell? ⟨g, 0, none⟩ = some (.slice A0 h.pl.length c0) := hb'.cell 0
  have hgo : g < W.heap.size := hb.lt
  have K1 := (hb'.alloc (.cells #[.int .i64 m, .int .i64 0, .string ⟨#[]⟩] 23)).cell 1
  have K2 := (hb'.alloc (.cells #[.int .i64 m, .int .i64 0, .string ⟨#[]⟩] 23)).cell 2
  have K3 := cell_alloc (cell_alloc e1 (.cells #[.int .i64 0, .int .i64 0, .string ⟨#[]⟩] 23)) (.cells #[.int .i64 m, .int .i64 0, .string ⟨#[]⟩] 23)
  have K4 := cell_alloc (cell_alloc e2 (.cells #[.int .i64 0, .int .i64 0, .string ⟨#[]⟩] 23)) (.cells #[.int .i64 m, .int .i64 0, .string ⟨#[]⟩] 23)
  have hw1 := Whole.new1 W (.cells #[.int .i64 0, .int .i64 0, .string ⟨#[]⟩] 23) 23 #[.int .i64 m, .int .i64 0, .string ⟨#[]⟩]
  have hz1 := hz.alloc (.cells #[.int .i64 m, .int .i64 0, .string ⟨#[]⟩] 23)
  have hB1 : Below W.heap.size W ((W.alloc (.cells #[.int .i64 0, .int .i64 0, .string ⟨#[]⟩] 23)).alloc (.cells #[.int .i64 m, .int .i64 0, .string ⟨#[]⟩] 23)) := by go_grown
  replace hM := Lib.hid hM
  replace ha := Lib.hid ha
  replace hv := Lib.hid hv
  clear hnow hx hy
  go_enter Try.func20, Try.ntmps20
  go_upto_region 2 with (go_at_call 43; refine hM.out.mono ?_; rintro e w1 ⟨rfl, rfl⟩)
  generalize (W.alloc (.cells #[.int .i64 0, .int .i64 0, .string ⟨#[]⟩] 23)).alloc (.cells #[.int .i64 m, .int .i64 0, .string ⟨#[]⟩] 23) = W2 at *
  replace K1 : W2.cell? ⟨g, 1, none⟩ = some (.slice (some ad) (qa + 1) c1) := K1
  replace K2 : W2.cell? ⟨g, 2, none⟩ = some (.slice (some bd) (qv + 1) c2) := K2
  have x0 : W2.cell? ⟨W.heap.size + 1, 0, none⟩ = some (.int .i64 m) := hw1.cell 0
  have x1 : W2.cell? ⟨W.heap.size + 1, 1, none⟩ = some (.int .i64 0) := hw1.cell 1
  have x2 : W2.cell? ⟨W.heap.size + 1, 2, none⟩ = some (.string ⟨#[]⟩) := hw1.cell 2
  have y0 := hw1.frozen 0
  have y1 := hw1.frozen 1
  have y2 := hw1.frozen 2
  have wa : IntKind.i64.wrap (qa : Int) = qa := by have := ha.out; simp [IntKind.wrap, IntKind.signed, IntKind.bits]; omega
  have wv : IntKind.i64.wrap (qv : Int) = qv := by have := hv.out; simp [IntKind.wrap, IntKind.signed, IntKind.bits]; omega
  have la : ((qa : Int) < (qa : Int) + 1) = True := eq_true (by omega)
  have lv : ((qv : Int) < (qv : Int) + 1) = True := eq_true (by omega)
  go_upto_region 3 with (fail)
  go_cut [] (fun wc => ∃ n, wc = (((W2.drewN n).setCell ⟨W.heap.size + 1, 0, none⟩ (.int .i64 m)).setCell ⟨W.heap.size + 1, 1, none⟩ (.int .i64 x)).setCell ⟨W.heap.size + 1, 2, none⟩ (.string y))
  case first =>
    have X0 : W2.drew.cell? ⟨W.heap.size + 1, 0, none⟩ = some (.int .i64 m) := x0
    have X1 : W2.drew.cell? ⟨W.heap.size + 1, 1, none⟩ = some (.int .i64 0) := x1
    have X2 : W2.drew.cell? ⟨W.heap.size + 1, 2, none⟩ = some (.string ⟨#[]⟩) := x2
    have Y0 : W2.drew.frozen? ⟨W.heap.size + 1, 0, none⟩ = false := y0
    have Y1 : W2.drew.frozen? ⟨W.heap.size + 1, 1, none⟩ = false := y1
    have Y2 : W2.drew.frozen? ⟨W.heap.size + 1, 2, none⟩ = false := y2
    go_still_tail 27, (by kernel_rfl)
    change wpList _ _ _ _ _ W2.drew
    go_wp2
    go_meet
    exact ⟨1, rfl⟩
  case rest =>
    obtain ⟨k, rfl⟩ := hcut
    have hw9 : Whole ((((W2.drewN k).setCell ⟨W.heap.size + 1, 0, none⟩ (.int .i64 m)).setCell ⟨W.heap.size + 1, 1, none⟩ (.int .i64 x)).setCell ⟨W.heap.size + 1, 2, none⟩ (.string y)) (W.heap.size + 1) 23 #[.int .i64 m, .int .i64 x, .string y] := (((show Whole (W2.drewN k) _ _ _ from hw1).put 0 _).put 1 _).put' 2 _ rfl
    have hz9 : Whole ((((W2.drewN k).setCell ⟨W.heap.size + 1, 0, none⟩ (.int .i64 m)).setCell ⟨W.heap.size + 1, 1, none⟩ (.int .i64 x)).setCell ⟨W.heap.size + 1, 2, none⟩ (.string y)) W.heap.size 23 #[.int .i64 0, .int .i64 0, .string ⟨#[]⟩] := (((show Whole (W2.drewN k) _ _ _ from hz1).far (p := ⟨W.heap.size + 1, 0, none⟩) (show W.heap.size ≠ W.heap.size + 1 by omega) _).far (p := ⟨W.heap.size + 1, 1, none⟩) (show W.heap.size ≠ W.heap.size + 1 by omega) _).far (p := ⟨W.heap.size + 1, 2, none⟩) (show W.heap.size ≠ W.heap.size + 1 by omega) _
    have hB9 := (((below_drewN' hB1 k).setCell (p := ⟨W.heap.size + 1, 0, none⟩) (Nat.le_succ _) (.int .i64 m)).setCell (p := ⟨W.heap.size + 1, 1, none⟩) (Nat.le_succ _) (.int .i64 x)).setCell (p := ⟨W.heap.size + 1, 2, none⟩) (Nat.le_succ _) (.string y)
    generalize (((W2.drewN k).setCell ⟨W.heap.size + 1, 0, none⟩ (.int .i64 m)).setCell ⟨W.heap.size + 1, 1, none⟩ (.int .i64 x)).setCell ⟨W.heap.size + 1, 2, none⟩ (.string y) = W9 at *
    clear x0 x1 x2 y0 y1 y2 K1 K2 K3 K4 hw1 hz1 hB1
    have x0 : W9.cell? ⟨W.heap.size + 1, 0, none⟩ = some (.int .i64 m) := hw9.cell 0
    have x1 : W9.cell? ⟨W.heap.size + 1, 1, none⟩ = some (.int .i64 x) := hw9.cell 1
    have x2 : W9.cell? ⟨W.heap.size + 1, 2, none⟩ = some (.string y) := hw9.cell 2
    go_wp2_with (first | ((with_reducible apply wl_storeW (ty := 23) hz9); rfl; rfl; rfl; kernel_rfl; rfl; rfl; intro w10 hs10 hg10 hz10))
    refine bodyPost_ret (results_cell_row rfl _ _ _ _ _ _ _ (by rfl) hs10 Try.underlying23 rfl (by kernel_rfl)) rfl ?_
    go_light
    exact ⟨rfl, below_only' hB9 hg10 (Nat.le_refl _)⟩
end Go.Proofs.Ytdohmkanpdhmaaa
