/- The walk of the law WireReads. No conditions. -/
import Derived.Test.YtdohmkanpdhmaaaWireRequests
import Derived.Test.YtdohmkanpdhmaaaWireHeads
import Derived.Test.YtdohmkanpdhmaaaWireS
import Derived.Test.YtdohmkanpdhmaaaWireLPlain
namespace Go.Proofs.Ytdohmkanpdhmaaa
open Go.RowKit
set_option linter.unusedVariables false
set_option linter.unusedSimpArgs false
theorem wl_loadK {P : Program} {ops : Array Oper} {rest : List Oper} {d : Option Tmp} {ty ty' : TypeId} {x : Operand} {pos : String} {after : Array Edge} {gd : Option (Nat × Bool)} {a : Act} {w : World} {Q : Exit → Act → World → Prop}
    {g : Nat} {t : TypeId} {cs : Array Value} {u : TypeDesc} (hg : Whole w g t cs) (hu : P.underlying ty = some u)
    (hx : a.eval x = .pointer (some ⟨g, 0, none⟩))
    (hw : Region.wanted { dst := d, op := .load ty x, type := ty', pos := pos, after := after, guard := gd } (yielded ops a.tmps) = true)
    (hd : (match u with | .struct _ | .array _ _ => true | _ => false) = true) (hi : (P.info? ty).map (·.size) = some cs.size)
    (h : wpList P ops Q rest (a.put d (.agg cs)) w) :
    wpList P ops Q ({ dst := d, op := .load ty x, type := ty', pos := pos, after := after, guard := gd } :: rest) a w := wl_loadW hg hu hw hx hd hi h
set_option maxHeartbeats 400000 in
set_option maxRecDepth 100000 in
theorem wireReads_long (b : ByteArray) (w : World) (hl : 600 < (b.size : Int)) : Calls Try.prog 13 #[.string b] w fun e w' => e = .returned (.bool true) ∧ Below w.heap.size w w' := by
  have hB := Below.refl w.heap.size w
  go_enter Try.func13, Try.ntmps13
  go_upto_region 2 with (((with_reducible refine (awake02_calls _).mono ?_); rintro e w2 ⟨rfl, hb2⟩; replace hB := below_next' (by first | (with_reducible exact hB) | (with_reducible exact hB.alloc hB.size _) | (with_reducible exact (hB.alloc hB.size _).alloc (hB.alloc hB.size _).size _) | exact below_drewN' hB _) hb2))
  all_goals go_wp2_with (((with_reducible refine (awake02_calls _).mono ?_); rintro e w5 ⟨rfl, hb5⟩; replace hB := below_next' (by first | (with_reducible exact hB) | (with_reducible exact hB.alloc hB.size _) | (with_reducible exact (hB.alloc hB.size _).alloc (hB.alloc hB.size _).size _) | exact below_drewN' hB _) hb5))
  all_goals go_returns
  all_goals exact ⟨rfl, hB⟩
set_option maxHeartbeats 400000 in
set_option maxRecDepth 100000 in
theorem wireReads_none (b : ByteArray) (w : World) (l1 : b.size ≤ 600) (e1 : readReq b = (Rq.zero, 2)) (e2 : readHead b = (Hd.zero, 2)) (e3 : readList b = ([], 2)) : Calls Try.prog 13 #[.string b] w fun e w' => e = .returned (.bool true) ∧ Below w.heap.size w w' := by
  have R1 := fun W => readReq_calls b W
  have R2 := fun W => readHead_calls b W
  have R3 := fun W => readList_calls b W
  rw [e1] at R1
  rw [e2] at R2
  rw [e3] at R3
  simp only [Rq.A, Rq.zero] at R1
  simp only [Hd.A, Hd.zero] at R2
  clear e1 e2 e3
  replace R1 := Lib.hid R1
  replace R2 := Lib.hid R2
  replace R3 := Lib.hid R3
  have hB := Below.refl w.heap.size w
  go_enter Try.func13, Try.ntmps13
  go_upto_region 6 with (first | ((with_reducible refine (awake02_calls _).mono ?_); rintro e w2 ⟨rfl, hb2⟩; replace hB := below_next' (by first | (with_reducible exact hB) | (with_reducible exact hB.alloc hB.size _) | (with_reducible exact (hB.alloc hB.size _).alloc (hB.alloc hB.size _).size _) | exact below_drewN' hB _) hb2) | (((with_reducible refine (R1.out _).mono ?_); rintro e w3 ⟨rfl, hb3⟩; replace hB := below_next' (by first | (with_reducible exact hB) | (with_reducible exact hB.alloc hB.size _) | (with_reducible exact (hB.alloc hB.size _).alloc (hB.alloc hB.size _).size _) | exact below_drewN' hB _) hb3); have hx := Whole.new w3 56 #[.int .i64 0, .int .i64 0, .string ByteArray.empty, .string ByteArray.empty, .string ByteArray.empty]) | (((with_reducible refine (R2.out _).mono ?_); rintro e w4 ⟨rfl, hb4⟩; replace hx := Whole.below (by first | (with_reducible exact hx) | (with_reducible exact hx.alloc _) | (with_reducible exact (hx.alloc _).alloc _) | (with_reducible exact hx.drewN _)) hb4 (by have := hx.lt; go_size); replace hB := below_next' (by first | (with_reducible exact hB) | (with_reducible exact hB.alloc hB.size _) | (with_reducible exact (hB.alloc hB.size _).alloc (hB.alloc hB.size _).size _) | exact below_drewN' hB _) hb4); have hh := Whole.new w4 64 #[.int .i64 0, .int .i64 0, .int .i64 0, .string ByteArray.empty, .string ByteArray.empty]) | ((with_reducible refine (R3.out _).mono ?_); rintro e w5 ⟨⟨A, cap, rfl, hcap, hrows⟩, hb5⟩; replace hx := Whole.below (by first | (with_reducible exact hx) | (with_reducible exact hx.alloc _) | (with_reducible exact (hx.alloc _).alloc _) | (with_reducible exact hx.drewN _)) hb5 (by have := hx.lt; go_size); replace hh := Whole.below (by first | (with_reducible exact hh) | (with_reducible exact hh.alloc _) | (with_reducible exact (hh.alloc _).alloc _) | (with_reducible exact hh.drewN _)) hb5 (by have := hh.lt; go_size); replace hB := below_next' (by first | (with_reducible exact hB) | (with_reducible exact hB.alloc hB.size _) | (with_reducible exact (hB.alloc hB.size _).alloc (hB.alloc hB.size _).size _) | exact below_drewN' hB _) hb5))
  clear R1 R2 R3 l1
  have x0 : w5.cell? ⟨w3.heap.size, 0, none⟩ = some (.int .i64 0) := hx.cell 0
  have x1 : w5.cell? ⟨w3.heap.size, 1, none⟩ = some (.int .i64 0) := hx.cell 1
  have x2 : w5.cell? ⟨w3.heap.size, 2, none⟩ = some (.string ByteArray.empty) := hx.cell 2
  have x3 : w5.cell? ⟨w3.heap.size, 3, none⟩ = some (.string ByteArray.empty) := hx.cell 3
  have x4 : w5.cell? ⟨w3.heap.size, 4, none⟩ = some (.string ByteArray.empty) := hx.cell 4
  have y0 : w5.cell? ⟨w4.heap.size, 0, none⟩ = some (.int .i64 0) := hh.cell 0
  have y1 : w5.cell? ⟨w4.heap.size, 1, none⟩ = some (.int .i64 0) := hh.cell 1
  have y2 : w5.cell? ⟨w4.heap.size, 2, none⟩ = some (.int .i64 0) := hh.cell 2
  have y3 : w5.cell? ⟨w4.heap.size, 3, none⟩ = some (.string ByteArray.empty) := hh.cell 3
  have y4 : w5.cell? ⟨w4.heap.size, 4, none⟩ = some (.string ByteArray.empty) := hh.cell 4
  go_upto_region 8 with (fail)
  go_wp2
  go_returns
  go_light
  exact ⟨ret_bool rfl, hB⟩
set_option maxHeartbeats 400000 in
set_option maxRecDepth 100000 in
theorem wireReads_req (b : ByteArray) (x : Rq) (w : World) (l1 : b.size ≤ 600) (e1 : readReq b = (x, 0)) (hx1 : x.right = true) (hx2 : x.B = b) (e2 : readHead b = (Hd.zero, 2)) (e3 : readList b = ([], 2)) : Calls Try.prog 13 #[.string b] w fun e w' => e = .returned (.bool true) ∧ Below w.heap.size w w' := by
  obtain ⟨_, _, _, _, _, g1, g2, g3⟩ := right_bounds hx1
  have R1 := fun W => readReq_calls b W
  have R2 := fun W => readHead_calls b W
  have R3 := fun W => readList_calls b W
  have Q := fun W => refRight02_calls x.c x.s x.l x.k x.v W
  have P := fun W => refRequest_calls x W (by omega) (by omega) (by omega)
  have hxx : Rq.right ⟨x.c, x.s, x.l, x.k, x.v⟩ = x.right := rfl
  rw [e1] at R1
  rw [e2] at R2
  rw [e3] at R3
  simp only [hxx, hx1] at Q
  simp only [hx2] at P
  obtain ⟨c, s, l, k, v⟩ := x
  simp only [Rq.A] at R1 P
  simp only at Q
  simp only [Hd.A, Hd.zero] at R2
  replace Q := Lib.hid Q
  replace P := Lib.hid P
  clear e1 e2 e3 hx1 hx2 hxx g1 g2 g3
  replace R1 := Lib.hid R1
  replace R2 := Lib.hid R2
  replace R3 := Lib.hid R3
  have hB := Below.refl w.heap.size w
  go_enter Try.func13, Try.ntmps13
  go_upto_region 6 with (first | ((with_reducible refine (awake02_calls _).mono ?_); rintro e w2 ⟨rfl, hb2⟩; replace hB := below_next' (by first | (with_reducible exact hB) | (with_reducible exact hB.alloc hB.size _) | (with_reducible exact (hB.alloc hB.size _).alloc (hB.alloc hB.size _).size _) | exact below_drewN' hB _) hb2) | (((with_reducible refine (R1.out _).mono ?_); rintro e w3 ⟨rfl, hb3⟩; replace hB := below_next' (by first | (with_reducible exact hB) | (with_reducible exact hB.alloc hB.size _) | (with_reducible exact (hB.alloc hB.size _).alloc (hB.alloc hB.size _).size _) | exact below_drewN' hB _) hb3); have hx := Whole.new w3 56 #[.int .i64 c, .int .i64 s, .string l, .string k, .string v]) | (((with_reducible refine (R2.out _).mono ?_); rintro e w4 ⟨rfl, hb4⟩; replace hx := Whole.below (by first | (with_reducible exact hx) | (with_reducible exact hx.alloc _) | (with_reducible exact (hx.alloc _).alloc _) | (with_reducible exact hx.drewN _)) hb4 (by have := hx.lt; go_size); replace hB := below_next' (by first | (with_reducible exact hB) | (with_reducible exact hB.alloc hB.size _) | (with_reducible exact (hB.alloc hB.size _).alloc (hB.alloc hB.size _).size _) | exact below_drewN' hB _) hb4); have hh := Whole.new w4 64 #[.int .i64 0, .int .i64 0, .int .i64 0, .string ByteArray.empty, .string ByteArray.empty]) | ((with_reducible refine (R3.out _).mono ?_); rintro e w5 ⟨⟨A, cap, rfl, hcap, hrows⟩, hb5⟩; replace hx := Whole.below (by first | (with_reducible exact hx) | (with_reducible exact hx.alloc _) | (with_reducible exact (hx.alloc _).alloc _) | (with_reducible exact hx.drewN _)) hb5 (by have := hx.lt; go_size); replace hh := Whole.below (by first | (with_reducible exact hh) | (with_reducible exact hh.alloc _) | (with_reducible exact (hh.alloc _).alloc _) | (with_reducible exact hh.drewN _)) hb5 (by have := hh.lt; go_size); replace hB := below_next' (by first | (with_reducible exact hB) | (with_reducible exact hB.alloc hB.size _) | (with_reducible exact (hB.alloc hB.size _).alloc (hB.alloc hB.size _).size _) | exact below_drewN' hB _) hb5))
  clear R1 R2 R3 l1
  have x0 : w5.cell? ⟨w3.heap.size, 0, none⟩ = some (.int .i64 c) := hx.cell 0
  have x1 : w5.cell? ⟨w3.heap.size, 1, none⟩ = some (.int .i64 s) := hx.cell 1
  have x2 : w5.cell? ⟨w3.heap.size, 2, none⟩ = some (.string l) := hx.cell 2
  have x3 : w5.cell? ⟨w3.heap.size, 3, none⟩ = some (.string k) := hx.cell 3
  have x4 : w5.cell? ⟨w3.heap.size, 4, none⟩ = some (.string v) := hx.cell 4
  have y0 : w5.cell? ⟨w4.heap.size, 0, none⟩ = some (.int .i64 0) := hh.cell 0
  have y1 : w5.cell? ⟨w4.heap.size, 1, none⟩ = some (.int .i64 0) := hh.cell 1
  have y2 : w5.cell? ⟨w4.heap.size, 2, none⟩ = some (.int .i64 0) := hh.cell 2
  have y3 : w5.cell? ⟨w4.heap.size, 3, none⟩ = some (.string ByteArray.empty) := hh.cell 3
  have y4 : w5.cell? ⟨w4.heap.size, 4, none⟩ = some (.string ByteArray.empty) := hh.cell 4
  go_upto_region 8 with (fail)
  go_wp2_with (first | (go_at_call 25; ((with_reducible refine (Q.out _).mono ?_); rintro e w6 ⟨rfl, hb6⟩; replace hx := Whole.below (by first | (with_reducible exact hx) | (with_reducible exact hx.alloc _) | (with_reducible exact (hx.alloc _).alloc _) | (with_reducible exact hx.drewN _)) hb6 (by have := hx.lt; go_size); replace hh := Whole.below (by first | (with_reducible exact hh) | (with_reducible exact hh.alloc _) | (with_reducible exact (hh.alloc _).alloc _) | (with_reducible exact hh.drewN _)) hb6 (by have := hh.lt; go_size); replace hB := below_next' (by first | (with_reducible exact hB) | (with_reducible exact hB.alloc hB.size _) | (with_reducible exact (hB.alloc hB.size _).alloc (hB.alloc hB.size _).size _) | exact below_drewN' hB _) hb6); have z0 : w6.cell? ⟨w3.heap.size, 0, none⟩ = some (.int .i64 c) := hx.cell 0; have z1 : w6.cell? ⟨w3.heap.size, 1, none⟩ = some (.int .i64 s) := hx.cell 1; have z2 : w6.cell? ⟨w3.heap.size, 2, none⟩ = some (.string l) := hx.cell 2; have z3 : w6.cell? ⟨w3.heap.size, 3, none⟩ = some (.string k) := hx.cell 3; have z4 : w6.cell? ⟨w3.heap.size, 4, none⟩ = some (.string v) := hx.cell 4) | (go_at_call 39; ((with_reducible refine (P.out _).mono ?_); rintro e w7 ⟨rfl, hb7⟩; replace hx := Whole.below (by first | (with_reducible exact hx) | (with_reducible exact hx.alloc _) | (with_reducible exact (hx.alloc _).alloc _) | (with_reducible exact hx.drewN _)) hb7 (by have := hx.lt; go_size); replace hh := Whole.below (by first | (with_reducible exact hh) | (with_reducible exact hh.alloc _) | (with_reducible exact (hh.alloc _).alloc _) | (with_reducible exact hh.drewN _)) hb7 (by have := hh.lt; go_size); replace hB := below_next' (by first | (with_reducible exact hB) | (with_reducible exact hB.alloc hB.size _) | (with_reducible exact (hB.alloc hB.size _).alloc (hB.alloc hB.size _).size _) | exact below_drewN' hB _) hb7)))
  go_returns
  go_light
  exact ⟨ret_bool rfl, hB⟩
set_option maxHeartbeats 400000 in
set_option maxRecDepth 100000 in
theorem wireReads_head (b : ByteArray) (x : Hd) (w : World) (l1 : b.size ≤ 600) (e1 : readReq b = (Rq.zero, 2)) (e2 : readHead b = (x, 0)) (hx1 : x.right = true) (hx2 : x.B = b) (e3 : readList b = ([], 2)) : Calls Try.prog 13 #[.string b] w fun e w' => e = .returned (.bool true) ∧ Below w.heap.size w w' := by
  obtain ⟨_, _, _, _, _, _, g1, g2⟩ := hright_bounds hx1
  have R1 := fun W => readReq_calls b W
  have R2 := fun W => readHead_calls b W
  have R3 := fun W => readList_calls b W
  have P := fun W => refHead_calls x W (by omega) (by omega)
  rw [e1] at R1
  rw [e2] at R2
  rw [e3] at R3
  simp only [hx2] at P
  obtain ⟨c, s, l, k, v⟩ := x
  simp only [Hd.A] at R2 P
  simp only [Rq.A, Rq.zero] at R1
  replace P := Lib.hid P
  clear e1 e2 e3 hx1 hx2 g1 g2
  replace R1 := Lib.hid R1
  replace R2 := Lib.hid R2
  replace R3 := Lib.hid R3
  have hB := Below.refl w.heap.size w
  go_enter Try.func13, Try.ntmps13
  go_upto_region 6 with (first | ((with_reducible refine (awake02_calls _).mono ?_); rintro e w2 ⟨rfl, hb2⟩; replace hB := below_next' (by first | (with_reducible exact hB) | (with_reducible exact hB.alloc hB.size _) | (with_reducible exact (hB.alloc hB.size _).alloc (hB.alloc hB.size _).size _) | exact below_drewN' hB _) hb2) | (((with_reducible refine (R1.out _).mono ?_); rintro e w3 ⟨rfl, hb3⟩; replace hB := below_next' (by first | (with_reducible exact hB) | (with_reducible exact hB.alloc hB.size _) | (with_reducible exact (hB.alloc hB.size _).alloc (hB.alloc hB.size _).size _) | exact below_drewN' hB _) hb3); have hx := Whole.new w3 56 #[.int .i64 0, .int .i64 0, .string ByteArray.empty, .string ByteArray.empty, .string ByteArray.empty]) | (((with_reducible refine (R2.out _).mono ?_); rintro e w4 ⟨rfl, hb4⟩; replace hx := Whole.below (by first | (with_reducible exact hx) | (with_reducible exact hx.alloc _) | (with_reducible exact (hx.alloc _).alloc _) | (with_reducible exact hx.drewN _)) hb4 (by have := hx.lt; go_size); replace hB := below_next' (by first | (with_reducible exact hB) | (with_reducible exact hB.alloc hB.size _) | (with_reducible exact (hB.alloc hB.size _).alloc (hB.alloc hB.size _).size _) | exact below_drewN' hB _) hb4); have hh := Whole.new w4 64 #[.int .i64 c, .int .i64 s, .int .i64 l, .string k, .string v]) | ((with_reducible refine (R3.out _).mono ?_); rintro e w5 ⟨⟨A, cap, rfl, hcap, hrows⟩, hb5⟩; replace hx := Whole.below (by first | (with_reducible exact hx) | (with_reducible exact hx.alloc _) | (with_reducible exact (hx.alloc _).alloc _) | (with_reducible exact hx.drewN _)) hb5 (by have := hx.lt; go_size); replace hh := Whole.below (by first | (with_reducible exact hh) | (with_reducible exact hh.alloc _) | (with_reducible exact (hh.alloc _).alloc _) | (with_reducible exact hh.drewN _)) hb5 (by have := hh.lt; go_size); replace hB := below_next' (by first | (with_reducible exact hB) | (with_reducible exact hB.alloc hB.size _) | (with_reducible exact (hB.alloc hB.size _).alloc (hB.alloc hB.size _).size _) | exact below_drewN' hB _) hb5))
  clear R1 R2 R3 l1
  have x0 : w5.cell? ⟨w3.heap.size, 0, none⟩ = some (.int .i64 0) := hx.cell 0
  have x1 : w5.cell? ⟨w3.heap.size, 1, none⟩ = some (.int .i64 0) := hx.cell 1
  have x2 : w5.cell? ⟨w3.heap.size, 2, none⟩ = some (.string ByteArray.empty) := hx.cell 2
  have x3 : w5.cell? ⟨w3.heap.size, 3, none⟩ = some (.string ByteArray.empty) := hx.cell 3
  have x4 : w5.cell? ⟨w3.heap.size, 4, none⟩ = some (.string ByteArray.empty) := hx.cell 4
  have y0 : w5.cell? ⟨w4.heap.size, 0, none⟩ = some (.int .i64 c) := hh.cell 0
  have y1 : w5.cell? ⟨w4.heap.size, 1, none⟩ = some (.int .i64 s) := hh.cell 1
  have y2 : w5.cell? ⟨w4.heap.size, 2, none⟩ = some (.int .i64 l) := hh.cell 2
  have y3 : w5.cell? ⟨w4.heap.size, 3, none⟩ = some (.string k) := hh.cell 3
  have y4 : w5.cell? ⟨w4.heap.size, 4, none⟩ = some (.string v) := hh.cell 4
  go_upto_region 8 with (fail)
  go_wp2_with (go_at_call 29; ((with_reducible refine (P.out _).mono ?_); rintro e w7 ⟨rfl, hb7⟩; replace hx := Whole.below (by first | (with_reducible exact hx) | (with_reducible exact hx.alloc _) | (with_reducible exact (hx.alloc _).alloc _) | (with_reducible exact hx.drewN _)) hb7 (by have := hx.lt; go_size); replace hh := Whole.below (by first | (with_reducible exact hh) | (with_reducible exact hh.alloc _) | (with_reducible exact (hh.alloc _).alloc _) | (with_reducible exact hh.drewN _)) hb7 (by have := hh.lt; go_size); replace hB := below_next' (by first | (with_reducible exact hB) | (with_reducible exact hB.alloc hB.size _) | (with_reducible exact (hB.alloc hB.size _).alloc (hB.alloc hB.size _).size _) | exact below_drewN' hB _) hb7))
  go_returns
  go_light
  exact ⟨ret_bool rfl, hB⟩
set_option maxHeartbeats 400000 in
set_option maxRecDepth 100000 in
theorem wireReads_list (b : ByteArray) (l : List ByteArray) (w : World) (l1 : b.size ≤ 600) (e1 : readReq b = (Rq.zero, 2)) (e2 : readHead b = (Hd.zero, 2)) (e3 : readList b = (l, 0)) (hl : listB l = b) : Calls Try.prog 13 #[.string b] w fun e w' => e = .returned (.bool true) ∧ Below w.heap.size w w' := by
  have R1 := fun W => readReq_calls b W
  have R2 := fun W => readHead_calls b W
  have R3 := fun W => readList_calls b W
  have P := fun A c W h => refList_calls A l c W h (by rw [← listB_size, hl]; omega)
  rw [e1] at R1
  rw [e2] at R2
  rw [e3] at R3
  simp only [hl] at P
  simp only [Hd.A, Hd.zero] at R2
  simp only [Rq.A, Rq.zero] at R1
  replace P := Lib.hid P
  clear e1 e2 e3 hl
  replace R1 := Lib.hid R1
  replace R2 := Lib.hid R2
  replace R3 := Lib.hid R3
  have hB := Below.refl w.heap.size w
  go_enter Try.func13, Try.ntmps13
  go_upto_region 6 with (first | ((with_reducible refine (awake02_calls _).mono ?_); rintro e w2 ⟨rfl, hb2⟩; replace hB := below_next' (by first | (with_reducible exact hB) | (with_reducible exact hB.alloc hB.size _) | (with_reducible exact (hB.alloc hB.size _).alloc (hB.alloc hB.size _).size _) | exact below_drewN' hB _) hb2) | (((with_reducible refine (R1.out _).mono ?_); rintro e w3 ⟨rfl, hb3⟩; replace hB := below_next' (by first | (with_reducible exact hB) | (with_reducible exact hB.alloc hB.size _) | (with_reducible exact (hB.alloc hB.size _).alloc (hB.alloc hB.size _).size _) | exact below_drewN' hB _) hb3); have hx := Whole.new w3 56 #[.int .i64 0, .int .i64 0, .string ByteArray.empty, .string ByteArray.empty, .string ByteArray.empty]) | (((with_reducible refine (R2.out _).mono ?_); rintro e w4 ⟨rfl, hb4⟩; replace hx := Whole.below (by first | (with_reducible exact hx) | (with_reducible exact hx.alloc _) | (with_reducible exact (hx.alloc _).alloc _) | (with_reducible exact hx.drewN _)) hb4 (by have := hx.lt; go_size); replace hB := below_next' (by first | (with_reducible exact hB) | (with_reducible exact hB.alloc hB.size _) | (with_reducible exact (hB.alloc hB.size _).alloc (hB.alloc hB.size _).size _) | exact below_drewN' hB _) hb4); have hh := Whole.new w4 64 #[.int .i64 0, .int .i64 0, .int .i64 0, .string ByteArray.empty, .string ByteArray.empty]) | ((with_reducible refine (R3.out _).mono ?_); rintro e w5 ⟨⟨A, cap, rfl, hcap, hrows⟩, hb5⟩; replace hx := Whole.below (by first | (with_reducible exact hx) | (with_reducible exact hx.alloc _) | (with_reducible exact (hx.alloc _).alloc _) | (with_reducible exact hx.drewN _)) hb5 (by have := hx.lt; go_size); replace hh := Whole.below (by first | (with_reducible exact hh) | (with_reducible exact hh.alloc _) | (with_reducible exact (hh.alloc _).alloc _) | (with_reducible exact hh.drewN _)) hb5 (by have := hh.lt; go_size); replace hB := below_next' (by first | (with_reducible exact hB) | (with_reducible exact hB.alloc hB.size _) | (with_reducible exact (hB.alloc hB.size _).alloc (hB.alloc hB.size _).size _) | exact below_drewN' hB _) hb5))
  clear R1 R2 R3 l1
  have x0 : w5.cell? ⟨w3.heap.size, 0, none⟩ = some (.int .i64 0) := hx.cell 0
  have x1 : w5.cell? ⟨w3.heap.size, 1, none⟩ = some (.int .i64 0) := hx.cell 1
  have x2 : w5.cell? ⟨w3.heap.size, 2, none⟩ = some (.string ByteArray.empty) := hx.cell 2
  have x3 : w5.cell? ⟨w3.heap.size, 3, none⟩ = some (.string ByteArray.empty) := hx.cell 3
  have x4 : w5.cell? ⟨w3.heap.size, 4, none⟩ = some (.string ByteArray.empty) := hx.cell 4
  have y0 : w5.cell? ⟨w4.heap.size, 0, none⟩ = some (.int .i64 0) := hh.cell 0
  have y1 : w5.cell? ⟨w4.heap.size, 1, none⟩ = some (.int .i64 0) := hh.cell 1
  have y2 : w5.cell? ⟨w4.heap.size, 2, none⟩ = some (.int .i64 0) := hh.cell 2
  have y3 : w5.cell? ⟨w4.heap.size, 3, none⟩ = some (.string ByteArray.empty) := hh.cell 3
  have y4 : w5.cell? ⟨w4.heap.size, 4, none⟩ = some (.string ByteArray.empty) := hh.cell 4
  go_upto_region 8 with (fail)
  go_wp2_with (go_at_call 35; ((with_reducible refine (P.out _ _ _ hrows).mono ?_); rintro e w7 ⟨rfl, hb7⟩; replace hx := Whole.below (by first | (with_reducible exact hx) | (with_reducible exact hx.alloc _) | (with_reducible exact (hx.alloc _).alloc _) | (with_reducible exact hx.drewN _)) hb7 (by have := hx.lt; go_size); replace hh := Whole.below (by first | (with_reducible exact hh) | (with_reducible exact hh.alloc _) | (with_reducible exact (hh.alloc _).alloc _) | (with_reducible exact hh.drewN _)) hb7 (by have := hh.lt; go_size); replace hB := below_next' (by first | (with_reducible exact hB) | (with_reducible exact hB.alloc hB.size _) | (with_reducible exact (hB.alloc hB.size _).alloc (hB.alloc hB.size _).size _) | exact below_drewN' hB _) hb7))
  go_returns
  go_light
  exact ⟨ret_bool rfl, hB⟩
theorem wireReads_calls (b : ByteArray) (w : World) : Calls Try.prog 13 #[.string b] w fun e w' => e = .returned (.bool true) ∧ Below w.heap.size w w' := by
  by_cases h : b.size ≤ 600
  · rcases req_cases b with e1 | ⟨x, e1, x1, x2⟩
    · rcases head_cases b with e2 | ⟨y, e2, y1, y2⟩
      · rcases list_cases b with e3 | ⟨z, e3, z1⟩
        · exact wireReads_none b w h e1 e2 e3
        · exact wireReads_list b z w h e1 e2 e3 z1
      · rcases list_cases b with e3 | ⟨z, e3, z1⟩
        · exact wireReads_head b y w h e1 e2 y1 y2 e3
        · have := (head_first y2).symm.trans (list_first z1); simp at this
    · rcases head_cases b with e2 | ⟨y, e2, y1, y2⟩
      · rcases list_cases b with e3 | ⟨z, e3, z1⟩
        · exact wireReads_req b x w h e1 x1 x2 e2 e3
        · have := (req_first x2).symm.trans (list_first z1); simp at this
      · have := (req_first x2).symm.trans (head_first y2); simp at this
  · exact wireReads_long b w (by omega)
end Go.Proofs.Ytdohmkanpdhmaaa
