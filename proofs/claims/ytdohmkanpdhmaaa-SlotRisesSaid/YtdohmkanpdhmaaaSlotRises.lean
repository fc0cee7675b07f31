/- The walk of the law SlotRises. No conditions. -/
import Derived.Test.YtdohmkanpdhmaaaSlot1
import Derived.Test.YtdohmkanpdhmaaaSlotKinds
namespace Go.Proofs.Ytdohmkanpdhmaaa
open Go.RowKit
set_option linter.unusedVariables false
set_option linter.unusedSimpArgs false
set_option maxHeartbeats 1000000 in
set_option maxRecDepth 100000 in
theorem slotRises_round (p q : Int) (u : ByteArray) (A : Option Addr) (l : List SO) (cap : Nat) (w : World) (hr : SO.K.Rows w A l) (hl : l.length ≤ 60) (h0 : SL.right ⟨p, q, u⟩ = true) :
    Calls Try.prog 5 #[.agg #[.int .i64 p, .int .i64 q, .string u], .slice A l.length cap] w fun e w' => e = .returned (.bool true) ∧ Below w.heap.size w w' := by
  have A0 := fun W => refRight_calls ⟨p, q, u⟩ W
  simp only [h0, SL.A] at A0
  replace A0 := Lib.hid A0
  replace hr := Lib.hid hr
  have hd : decide ((60 : Int) < (l.length : Int)) = false := by simp; omega
  go_enter Try.func5, Try.ntmps5
  have hs := Whole.new w 23 #[.int .i64 p, .int .i64 q, .string u]
  have hB : Below w.heap.size w (w.alloc (.cells #[.int .i64 p, .int .i64 q, .string u] 23)) := by go_grown
  go_wp2_with fail
  refine (awake17_calls _).mono ?_
  rintro e w1 ⟨rfl, hb1⟩
  replace hs := Whole.below (by first | (with_reducible exact hs) | (with_reducible exact hs.alloc _) | (with_reducible exact (hs.alloc _).alloc _) | (with_reducible exact hs.drewN _)) hb1 (by have := hs.lt; go_size)
  replace hB := below_next' (by first | (with_reducible exact hB) | (with_reducible exact hB.alloc hB.size _) | (with_reducible exact (hB.alloc hB.size _).alloc (hB.alloc hB.size _).size _) | exact below_drewN' hB _) hb1
  go_wp2_with (first | (first | ((with_reducible apply wl_loadW (ty := 23) hs Try.underlying23); rfl; rfl; rfl; kernel_rfl) | ((with_reducible apply wl_loadW (ty := 23) (hs.alloc _) Try.underlying23); rfl; rfl; rfl; kernel_rfl) | ((with_reducible apply wl_loadW (ty := 23) ((hs.alloc _).alloc _) Try.underlying23); rfl; rfl; rfl; kernel_rfl)) | ((with_reducible refine (A0.out _).mono ?_); rintro e w2 ⟨rfl, hb2⟩; replace hs := Whole.below (by first | (with_reducible exact hs) | (with_reducible exact hs.alloc _) | (with_reducible exact (hs.alloc _).alloc _) | (with_reducible exact hs.drewN _)) hb2 (by have := hs.lt; go_size); replace hB := below_next' (by first | (with_reducible exact hB) | (with_reducible exact hB.alloc hB.size _) | (with_reducible exact (hB.alloc hB.size _).alloc (hB.alloc hB.size _).size _) | exact below_drewN' hB _) hb2))
  go_loopg [5] (l.length + 1) (fun kg i wr => ∃ (k : Nat) (s : SL), k ≤ l.length ∧ kg = l.length + 1 - k ∧ i = .int .i64 k ∧ Whole wr w.heap.size 23 s.A ∧ 0 ≤ s.p ∧ s.b ≤ s.p ∧ Below w.heap.size w wr)
  case atStart => exact ⟨0, ⟨p, q, u⟩, Nat.zero_le _, rfl, rfl, hs, by simp [SL.right] at h0; simp; omega, by simp [SL.right] at h0; simp; omega, hB⟩
  case round =>
    clear hs hB hb1 hb2 h0
    obtain ⟨k, ⟨p, q, u⟩, hk, hkg, rfl, hs, hp, hq, hB⟩ := hrel
    replace hkg := Lib.hid hkg
    by_cases hlt : k < l.length
    · obtain ⟨ad, hA, hadlt, e0, e1, e2⟩ := SO.at_ (hr.out.below hB) hlt
      subst hA
      generalize l[k] = x at e0 e1 e2
      obtain ⟨a, n, v⟩ := x
      simp only at e0 e1 e2
      obtain ⟨⟨⟨p1, q1, u1⟩, ok1⟩, h1⟩ : ∃ r, SL.promise ⟨p, q, u⟩ n = r := ⟨_, rfl⟩
      obtain ⟨⟨⟨p2, q2, u2⟩, ok2⟩, h2⟩ : ∃ r, SL.accept ⟨p, q, u⟩ n v = r := ⟨_, rfl⟩
      have P1 := fun W => promise_calls ⟨p, q, u⟩ n W
      have P2 := fun W => accept_calls ⟨p, q, u⟩ n v W
      simp only [h1, SLB, SL.A] at P1
      simp only [h2, SLB, SL.A] at P2
      replace P1 := Lib.hid P1
      replace P2 := Lib.hid P2
      replace h1 := Lib.hid h1
      replace h2 := Lib.hid h2
      have c0 : wr.cell? ⟨w.heap.size, 0, none⟩ = some (.int .i64 p) := hs.cell 0
      have c1 : wr.cell? ⟨w.heap.size, 1, none⟩ = some (.int .i64 q) := hs.cell 1
      have c2 : wr.cell? ⟨w.heap.size, 2, none⟩ = some (.string u) := hs.cell 2
      have hne : w.heap.size ≠ wr.heap.size := Nat.ne_of_lt hs.lt
      have hne2 : (ad.add (k * 3)).block ≠ wr.heap.size := by rw [block_add]; exact Nat.ne_of_lt hadlt
      go_upto_region 6 with (fail)
      go_cut [6, 7] (fun x y wc => ∃ (g : Nat), x = .pointer (some ⟨g, 0, none⟩) ∧ y = .bool ok1 ∧ Whole wc g 23 #[.int .i64 p1, .int .i64 q1, .string u1] ∧ Below wr.heap.size wr wc ∧ wr.heap.size ≤ g)
      case first =>
        go_region_held3 (fun W : World => W.cell? ⟨w.heap.size, 0, none⟩ = some (.int .i64 p) ∧ W.cell? ⟨w.heap.size, 1, none⟩ = some (.int .i64 q) ∧ W.cell? ⟨w.heap.size, 2, none⟩ = some (.string u) ∧ W.cell? ⟨(ad.add (k * 3)).block, (ad.add (k * 3)).off + 1, none⟩ = some (.int .i64 n)) (first | exact ⟨c0, c1, c2, e1⟩ | go_keep | exact ⟨cell_set3 j0 hne _ _ _ _ _ _, cell_set3 j1 hne _ _ _ _ _ _, cell_set3 j2 hne _ _ _ _ _ _, cell_set3 j3 hne2 _ _ _ _ _ _⟩) (first | (go_simp; (with_reducible refine (P1.out (World.drew wr)).mono ?_); rintro e w3 ⟨rfl, hb3⟩; have js := hs.drew.below hb3 hs.drew.lt; have jB := below_next' (Below.refl wr.heap.size wr).drew hb3; have j0 : w3.cell? ⟨w.heap.size, 0, none⟩ = some (.int .i64 p) := js.cell 0; have j1 : w3.cell? ⟨w.heap.size, 1, none⟩ = some (.int .i64 q) := js.cell 1; have j2 : w3.cell? ⟨w.heap.size, 2, none⟩ = some (.string u) := js.cell 2; have j3 := cell_keep (W := wr.drew) e1 hb3) | (go_simp; (with_reducible refine (P1.out (World.drew (World.alloc wr (Obj.cells #[Value.int .i64 0, Value.int .i64 0, Value.string ⟨#[]⟩] 23)))).mono ?_); rintro e w3 ⟨rfl, hb3⟩; have js := (hs.alloc (Obj.cells #[Value.int .i64 0, Value.int .i64 0, Value.string ⟨#[]⟩] 23)).drew.below hb3 (hs.alloc (Obj.cells #[Value.int .i64 0, Value.int .i64 0, Value.string ⟨#[]⟩] 23)).drew.lt; have jm := (Whole.new wr 23 #[.int .i64 0, .int .i64 0, .string ⟨#[]⟩]).drew.below hb3 (Whole.new wr 23 #[.int .i64 0, .int .i64 0, .string ⟨#[]⟩]).drew.lt; have jB := below_next' ((Below.refl wr.heap.size wr).alloc (Nat.le_refl _) (Obj.cells #[Value.int .i64 0, Value.int .i64 0, Value.string ⟨#[]⟩] 23)).drew hb3; have j0 : w3.cell? ⟨w.heap.size, 0, none⟩ = some (.int .i64 p) := js.cell 0; have j1 : w3.cell? ⟨w.heap.size, 1, none⟩ = some (.int .i64 q) := js.cell 1; have j2 : w3.cell? ⟨w.heap.size, 2, none⟩ = some (.string u) := js.cell 2; have mc := jm.cell; have mf := jm.frozen; have j3 := cell_keep (W := World.drew (World.alloc wr (Obj.cells #[Value.int .i64 0, Value.int .i64 0, Value.string ⟨#[]⟩] 23))) (cell_alloc e1 (Obj.cells #[Value.int .i64 0, Value.int .i64 0, Value.string ⟨#[]⟩] 23)) hb3))
        all_goals (go_wp2_with (fail); go_meet)
        · exact ⟨_, rfl, rfl, Whole.new _ _ _, jB.alloc jB.size _, jB.size⟩
        · exact ⟨_, rfl, rfl, ((jm.put 0 _).put 1 _).put' 2 _ rfl, ((jB.setCell (p := ⟨wr.heap.size, 0, none⟩) (Nat.le_refl _) _).setCell (p := ⟨wr.heap.size, 1, none⟩) (Nat.le_refl _) _).setCell (p := ⟨wr.heap.size, 2, none⟩) (Nat.le_refl _) _, Nat.le_refl _⟩
      case rest =>
        obtain ⟨g, rfl, rfl, hx, hBc, hg⟩ := hcut
        replace hs := hs.below hBc hs.lt
        replace e0 := cell_keep e0 hBc
        replace e1 := cell_keep e1 hBc
        replace e2 := cell_keep e2 hBc
        have hadg : (ad.add (k * 3)).block ≠ g := by rw [block_add]; omega
        have hgw : w.heap.size < g := Nat.lt_of_lt_of_le (by have := hB.size; omega) hg
        obtain ⟨wb, hwb⟩ : ∃ x, x = wc := ⟨_, rfl⟩
        subst hwb
        replace hadlt := Nat.lt_of_lt_of_le hadlt hBc.size
        replace hB := below_next' hB hBc
        clear hBc c0 c1 c2 hne hne2
        go_upto_if 43 with (fail)
        go_cut [7] (fun y wc => ∃ (ok : Bool) (x z : Int) (t : ByteArray), y = .bool ok ∧ Whole wc g 23 #[.int .i64 x, .int .i64 z, .string t] ∧ Whole wc w.heap.size 23 #[.int .i64 p, .int .i64 q, .string u] ∧ RiseR p q u n ok x z t ∧ wb.grownBy wc (some g))
        case first =>
          cases a
          · go_wp2_with (fail)
            go_meet
            case rel => exact ⟨ok1, p1, q1, u1, rfl, hx, hs, rise_promise hq h1.out, only_same _ _⟩
          · have c0 : wb.cell? ⟨w.heap.size, 0, none⟩ = some (.int .i64 p) := hs.cell 0
            have c1 : wb.cell? ⟨w.heap.size, 1, none⟩ = some (.int .i64 q) := hs.cell 1
            have c2 : wb.cell? ⟨w.heap.size, 2, none⟩ = some (.string u) := hs.cell 2
            have hne : w.heap.size ≠ wb.heap.size := Nat.ne_of_lt hs.lt
            have hne2 : (ad.add (k * 3)).block ≠ wb.heap.size := by rw [block_add]; exact Nat.ne_of_lt hadlt
            go_upto_region 8 with (fail)
            go_cut [8, 9] (fun x y wc => ∃ (g2 : Nat), x = .pointer (some ⟨g2, 0, none⟩) ∧ y = .bool ok2 ∧ Whole wc g2 23 #[.int .i64 p2, .int .i64 q2, .string u2] ∧ Below wb.heap.size wb wc ∧ wb.heap.size ≤ g2)
            case first =>
              go_region_held3 (fun W : World => W.cell? ⟨w.heap.size, 0, none⟩ = some (.int .i64 p) ∧ W.cell? ⟨w.heap.size, 1, none⟩ = some (.int .i64 q) ∧ W.cell? ⟨w.heap.size, 2, none⟩ = some (.string u) ∧ W.cell? ⟨(ad.add (k * 3)).block, (ad.add (k * 3)).off + 1, none⟩ = some (.int .i64 n) ∧ W.cell? ⟨(ad.add (k * 3)).block, (ad.add (k * 3)).off + 2, none⟩ = some (.string v)) (first | exact ⟨c0, c1, c2, e1, e2⟩ | go_keep | exact ⟨cell_set3 j0 hne _ _ _ _ _ _, cell_set3 j1 hne _ _ _ _ _ _, cell_set3 j2 hne _ _ _ _ _ _, cell_set3 j3 hne2 _ _ _ _ _ _, cell_set3 j4 hne2 _ _ _ _ _ _⟩) (first | (go_simp; (with_reducible refine (P2.out (World.drew wb)).mono ?_); rintro e w3 ⟨rfl, hb3⟩; have js := hs.drew.below hb3 hs.drew.lt; have jB := below_next' (Below.refl wb.heap.size wb).drew hb3; have j0 : w3.cell? ⟨w.heap.size, 0, none⟩ = some (.int .i64 p) := js.cell 0; have j1 : w3.cell? ⟨w.heap.size, 1, none⟩ = some (.int .i64 q) := js.cell 1; have j2 : w3.cell? ⟨w.heap.size, 2, none⟩ = some (.string u) := js.cell 2; have j3 := cell_keep (W := wb.drew) e1 hb3; have j4 := cell_keep (W := wb.drew) e2 hb3) | (go_simp; (with_reducible refine (P2.out (World.drew (World.alloc wb (Obj.cells #[Value.int .i64 0, Value.int .i64 0, Value.string ⟨#[]⟩] 23)))).mono ?_); rintro e w3 ⟨rfl, hb3⟩; have js := (hs.alloc (Obj.cells #[Value.int .i64 0, Value.int .i64 0, Value.string ⟨#[]⟩] 23)).drew.below hb3 (hs.alloc (Obj.cells #[Value.int .i64 0, Value.int .i64 0, Value.string ⟨#[]⟩] 23)).drew.lt; have jm := (Whole.new wb 23 #[.int .i64 0, .int .i64 0, .string ⟨#[]⟩]).drew.below hb3 (Whole.new wb 23 #[.int .i64 0, .int .i64 0, .string ⟨#[]⟩]).drew.lt; have jB := below_next' ((Below.refl wb.heap.size wb).alloc (Nat.le_refl _) (Obj.cells #[Value.int .i64 0, Value.int .i64 0, Value.string ⟨#[]⟩] 23)).drew hb3; have j0 : w3.cell? ⟨w.heap.size, 0, none⟩ = some (.int .i64 p) := js.cell 0; have j1 : w3.cell? ⟨w.heap.size, 1, none⟩ = some (.int .i64 q) := js.cell 1; have j2 : w3.cell? ⟨w.heap.size, 2, none⟩ = some (.string u) := js.cell 2; have mc := jm.cell; have mf := jm.frozen; have j3 := cell_keep (W := World.drew (World.alloc wb (Obj.cells #[Value.int .i64 0, Value.int .i64 0, Value.string ⟨#[]⟩] 23))) (cell_alloc e1 (Obj.cells #[Value.int .i64 0, Value.int .i64 0, Value.string ⟨#[]⟩] 23)) hb3; have j4 := cell_keep (W := World.drew (World.alloc wb (Obj.cells #[Value.int .i64 0, Value.int .i64 0, Value.string ⟨#[]⟩] 23))) (cell_alloc e2 (Obj.cells #[Value.int .i64 0, Value.int .i64 0, Value.string ⟨#[]⟩] 23)) hb3))

              all_goals (go_wp2_with (fail); go_meet)
              · exact ⟨_, rfl, rfl, Whole.new _ _ _, jB.alloc jB.size _, jB.size⟩
              · exact ⟨_, rfl, rfl, ((jm.put 0 _).put 1 _).put' 2 _ rfl, ((jB.setCell (p := ⟨wb.heap.size, 0, none⟩) (Nat.le_refl _) _).setCell (p := ⟨wb.heap.size, 1, none⟩) (Nat.le_refl _) _).setCell (p := ⟨wb.heap.size, 2, none⟩) (Nat.le_refl _) _, Nat.le_refl _⟩
            case rest =>
              obtain ⟨g2, rfl, rfl, hy, hBc, hg2⟩ := hcut
              have hx2 := hx.below hBc hx.lt
              have hs2 := hs.below hBc hs.lt
              have hggw : g2 ≠ g := by have := hx.lt; omega
              go_wp2_with (first | (first | ((with_reducible apply wl_loadW (ty := 23) hy Try.underlying23); rfl; rfl; rfl; kernel_rfl) | ((with_reducible apply wl_loadW (ty := 23) (hy.alloc _) Try.underlying23); rfl; rfl; rfl; kernel_rfl) | ((with_reducible apply wl_loadW (ty := 23) ((hy.alloc _).alloc _) Try.underlying23); rfl; rfl; rfl; kernel_rfl)) | ((with_reducible apply wl_storeW (ty := 23) hx2); rfl; rfl; rfl; kernel_rfl; rfl; rfl; intro w5 hs5 hg5 hz5))
              go_meet
              case rel => exact ⟨ok2, p2, q2, u2, rfl, hs5, hs2.only hg5 (by simp; omega), rise_accept hq h2.out, only_then (only_below hBc _) hg5⟩
        case rest =>
          obtain ⟨ok, x, z, t, rfl, hx3, hs3, hR, hgr⟩ := hcut
          replace e1 := cell_only e1 hgr hadg
          have x0 : wc.cell? ⟨g, 0, none⟩ = some (.int .i64 x) := hx3.cell 0
          have x1 : wc.cell? ⟨g, 1, none⟩ = some (.int .i64 z) := hx3.cell 1
          have x2 : wc.cell? ⟨g, 2, none⟩ = some (.string t) := hx3.cell 2
          have s0 : wc.cell? ⟨w.heap.size, 0, none⟩ = some (.int .i64 p) := hs3.cell 0
          have s1 : wc.cell? ⟨w.heap.size, 1, none⟩ = some (.int .i64 q) := hs3.cell 1
          have s2 : wc.cell? ⟨w.heap.size, 2, none⟩ = some (.string u) := hs3.cell 2
          have hBc := below_only' hB hgr (by omega)
          rcases hR with ⟨rfl, rfl, r1, r2, r3⟩ | ⟨rfl, rfl, rfl, rfl⟩
          · have d1 : decide (x < p) = false := by simp; omega
            have d2 : decide (z < q) = false := by simp; omega
            have d3 : decide (x < z) = false := by simp; omega
            go_wp2_with (fail)
            go_quiet (fail)
            go_wp2_with (first | (first | ((with_reducible apply wl_loadW (ty := 23) (hx3.drewN nq) Try.underlying23); rfl; rfl; rfl; kernel_rfl) | ((with_reducible apply wl_loadW (ty := 23) ((hx3.drewN nq).alloc _) Try.underlying23); rfl; rfl; rfl; kernel_rfl) | ((with_reducible apply wl_loadW (ty := 23) (((hx3.drewN nq).alloc _).alloc _) Try.underlying23); rfl; rfl; rfl; kernel_rfl)) | ((with_reducible apply wl_storeW (ty := 23) (hs3.drewN nq)); rfl; rfl; rfl; kernel_rfl; rfl; rfl; intro w6 hs6 hg6 hz6))
            go_roundg (l.length - k)
            case measure => go_light; rw [hkg.out]; omega
            case rel => go_light; exact ⟨k + 1, ⟨x, z, t⟩, by omega, by omega, by go_num, hs6, by simp; omega, by simp; omega, below_only' (below_drewN' hBc nq) hg6 (Nat.le_refl _)⟩
          · have d1 : decide (x < x) = false := by simp
            have d2 : decide (z < z) = false := by simp
            have d3 : decide (x < z) = false := by simp; omega
            go_wp2_with (fail)
            go_quiet (fail)
            go_wp2_with (first | (first | ((with_reducible apply wl_loadW (ty := 23) (hx3.drewN nq) Try.underlying23); rfl; rfl; rfl; kernel_rfl) | ((with_reducible apply wl_loadW (ty := 23) ((hx3.drewN nq).alloc _) Try.underlying23); rfl; rfl; rfl; kernel_rfl) | ((with_reducible apply wl_loadW (ty := 23) (((hx3.drewN nq).alloc _).alloc _) Try.underlying23); rfl; rfl; rfl; kernel_rfl)) | ((with_reducible apply wl_storeW (ty := 23) (hs3.drewN nq)); rfl; rfl; rfl; kernel_rfl; rfl; rfl; intro w6 hs6 hg6 hz6))
            go_roundg (l.length - k)
            case measure => go_light; rw [hkg.out]; omega
            case rel => go_light; exact ⟨k + 1, ⟨x, z, t⟩, by omega, by omega, by go_num, hs6, by simp; omega, by simp; omega, below_only' (below_drewN' hBc nq) hg6 (Nat.le_refl _)⟩
    · go_wp2
      go_returns
      exact ⟨rfl, hB⟩

set_option maxHeartbeats 1000000 in
set_option maxRecDepth 100000 in
theorem slotRises_not (p q : Int) (u : ByteArray) (A : Option Addr) (n cap : Nat) (w : World) (h0 : 60 < n ∨ SL.right ⟨p, q, u⟩ = false) :
    Calls Try.prog 5 #[.agg #[.int .i64 p, .int .i64 q, .string u], .slice A n cap] w fun e w' => e = .returned (.bool true) ∧ Below w.heap.size w w' := by
  have A0 := fun W => refRight_calls ⟨p, q, u⟩ W
  simp only [SL.A] at A0
  replace A0 := Lib.hid A0
  have hs := Whole.new w 23 #[.int .i64 p, .int .i64 q, .string u]
  have hB : Below w.heap.size w (w.alloc (.cells #[.int .i64 p, .int .i64 q, .string u] 23)) := by go_grown
  by_cases hn : 60 < n
  · have hd : decide ((60 : Int) < (n : Int)) = true := by simp; omega
    clear h0
    go_enter Try.func5, Try.ntmps5
    go_wp2_with fail
    refine (awake17_calls _).mono ?_
    rintro e w1 ⟨rfl, hb1⟩
    replace hs := Whole.below (by first | (with_reducible exact hs) | (with_reducible exact hs.alloc _) | (with_reducible exact (hs.alloc _).alloc _) | (with_reducible exact hs.drewN _)) hb1 (by have := hs.lt; go_size)
    replace hB := below_next' (by first | (with_reducible exact hB) | (with_reducible exact hB.alloc hB.size _) | (with_reducible exact (hB.alloc hB.size _).alloc (hB.alloc hB.size _).size _) | exact below_drewN' hB _) hb1
    go_wp2_with ((with_reducible refine (awake17_calls _).mono ?_); rintro e w2 ⟨rfl, hb2⟩; replace hB := below_next' (by first | (with_reducible exact hB) | (with_reducible exact hB.alloc hB.size _) | (with_reducible exact (hB.alloc hB.size _).alloc (hB.alloc hB.size _).size _) | exact below_drewN' hB _) hb2)
    go_returns
    exact ⟨rfl, hB⟩
  · have hd : decide ((60 : Int) < (n : Int)) = false := by simp; omega
    have h1 : SL.right ⟨p, q, u⟩ = false := by rcases h0 with h | h; · omega
                                               · exact h
    rw [h1] at A0
    clear h0 h1
    go_enter Try.func5, Try.ntmps5
    go_wp2_with fail
    refine (awake17_calls _).mono ?_
    rintro e w1 ⟨rfl, hb1⟩
    replace hs := Whole.below (by first | (with_reducible exact hs) | (with_reducible exact hs.alloc _) | (with_reducible exact (hs.alloc _).alloc _) | (with_reducible exact hs.drewN _)) hb1 (by have := hs.lt; go_size)
    replace hB := below_next' (by first | (with_reducible exact hB) | (with_reducible exact hB.alloc hB.size _) | (with_reducible exact (hB.alloc hB.size _).alloc (hB.alloc hB.size _).size _) | exact below_drewN' hB _) hb1
    go_wp2_with (first | (first | ((with_reducible apply wl_loadW (ty := 23) hs Try.underlying23); rfl; rfl; rfl; kernel_rfl) | ((with_reducible apply wl_loadW (ty := 23) (hs.alloc _) Try.underlying23); rfl; rfl; rfl; kernel_rfl) | ((with_reducible apply wl_loadW (ty := 23) ((hs.alloc _).alloc _) Try.underlying23); rfl; rfl; rfl; kernel_rfl)) | ((with_reducible refine (A0.out _).mono ?_); rintro e w2 ⟨rfl, hb2⟩; replace hB := below_next' (by first | (with_reducible exact hB) | (with_reducible exact hB.alloc hB.size _) | (with_reducible exact (hB.alloc hB.size _).alloc (hB.alloc hB.size _).size _) | exact below_drewN' hB _) hb2) | ((with_reducible refine (awake17_calls _).mono ?_); rintro e w3 ⟨rfl, hb3⟩; replace hB := below_next' (by first | (with_reducible exact hB) | (with_reducible exact hB.alloc hB.size _) | (with_reducible exact (hB.alloc hB.size _).alloc (hB.alloc hB.size _).size _) | exact below_drewN' hB _) hb3))
    go_returns
    exact ⟨rfl, hB⟩
theorem slotRises_calls (s : SL) (A : Option Addr) (l : List SO) (cap : Nat) (w : World) (hr : SO.K.Rows w A l) :
    Calls Try.prog 5 #[.agg s.A, .slice A l.length cap] w fun e w' => e = .returned (.bool true) ∧ Below w.heap.size w w' := by
  obtain ⟨p, q, u⟩ := s
  by_cases h : 60 < l.length ∨ SL.right ⟨p, q, u⟩ = false
  · exact slotRises_not p q u A _ cap w h
  · exact slotRises_round p q u A l cap w hr (by omega) (by simp at h; exact h.2)
end Go.Proofs.Ytdohmkanpdhmaaa
