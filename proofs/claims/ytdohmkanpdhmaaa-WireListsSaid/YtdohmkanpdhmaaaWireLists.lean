/- The walk of the law WireLists. No conditions. -/
import Derived.Test.YtdohmkanpdhmaaaWireAwake
import Derived.Test.YtdohmkanpdhmaaaWireS
import Derived.Test.YtdohmkanpdhmaaaWireLPlain
import Derived.OwnWalk
namespace Go.Proofs.Ytdohmkanpdhmaaa
open Go.RowKit
set_option linter.unusedVariables false
set_option linter.unusedSimpArgs false
theorem made_empty (k : Nat) : (madeCells (Value.string ByteArray.empty).cells (k * 1)).toList = (List.replicate k ByteArray.empty).map Value.string := by
  refine List.ext_getElem (by simp [madeCells]) fun i h1 h2 => ?_
  simp [madeCells, Value.cells, Nat.mod_one]
theorem made_empty' (k : Nat) : (madeCells #[Value.string ByteArray.empty] k).toList = (List.replicate k ByteArray.empty).map Value.string := by
  have := made_empty k
  rw [Nat.mul_one] at this
  exact this
theorem listL_bound (n : Nat) (m : Nat) : ∀ (l : List ByteArray), (∀ s ∈ l, s.size ≤ m) → (listL n l).length ≤ 5 + l.length * (m + 4) := by
  have h5 : (numB n).data.toList.length = 4 := by rw [dataL, numB_size]
  have : ∀ l : List ByteArray, (∀ s ∈ l, s.size ≤ m) → (l.flatMap fun s => (textB s).data.toList).length ≤ l.length * (m + 4) := by
    intro l
    induction l with
    | nil => intro _; simp
    | cons s l ih =>
      intro h
      have h1 := ih (fun s' h' => h s' (by simp [h']))
      have h2 : (textB s).data.toList.length ≤ m + 4 := by rw [dataL, textB_size]; have := h s (by simp); omega
      rw [List.flatMap_cons, List.length_append, List.length_cons, Nat.add_mul]
      omega
  intro l h
  have := this l h
  unfold listL
  rw [List.length_append, List.length_cons]
  omega
set_option maxHeartbeats 400000 in
set_option maxRecDepth 100000 in
theorem wireLists_long (A : Option Addr) (l : List ByteArray) (cap : Nat) (n : Nat) (w : World) (hl : 40 < (l.length : Int)) :
    Calls Try.prog 11 #[.slice A l.length cap, .int .u16 n] w fun e w' => e = .returned (.bool true) ∧ Below w.heap.size w w' := by
  have hB := Below.refl w.heap.size w
  go_enter Try.func11, Try.ntmps11
  go_upto_region 2 with (((with_reducible refine (awake02_calls _).mono ?_); rintro e w2 ⟨rfl, hb2⟩; replace hB := below_next' (by first | (with_reducible exact hB) | (with_reducible exact hB.alloc hB.size _) | (with_reducible exact (hB.alloc hB.size _).alloc (hB.alloc hB.size _).size _) | exact below_drewN' hB _) hb2))
  all_goals go_wp2_with (((with_reducible refine (awake02_calls _).mono ?_); rintro e w5 ⟨rfl, hb5⟩; replace hB := below_next' (by first | (with_reducible exact hB) | (with_reducible exact hB.alloc hB.size _) | (with_reducible exact (hB.alloc hB.size _).alloc (hB.alloc hB.size _).size _) | exact below_drewN' hB _) hb5))
  all_goals go_returns
  all_goals exact ⟨rfl, hB⟩
set_option maxHeartbeats 1000000 in
set_option maxRecDepth 100000 in
theorem wireLists_short (A : Option Addr) (l : List ByteArray) (cap : Nat) (n : Nat) (w : World) (hr : Kn.str.Rows w A l) (hl : (l.length : Int) ≤ 40) (hn : (n : Int) ≤ 65535) :
    Calls Try.prog 11 #[.slice A l.length cap, .int .u16 n] w fun e w' => e = .returned (.bool true) ∧ Below w.heap.size w w' := by
  have hB := Below.refl w.heap.size w
  have hmax := hr.1
  replace hr := Lib.hid hr
  go_enter Try.func11, Try.ntmps11
  go_wp2_with (((with_reducible refine (awake02_calls _).mono ?_); rintro e w2 ⟨rfl, hb2⟩; replace hB := below_next' (by first | (with_reducible exact hB) | (with_reducible exact hB.alloc hB.size _) | (with_reducible exact (hB.alloc hB.size _).alloc (hB.alloc hB.size _).size _) | exact below_drewN' hB _) hb2))
  go_loopg [5] (l.length + 1) (fun kg i wr => ∃ (k : Nat), k ≤ l.length ∧ kg = l.length + 1 - k ∧ i = .int .i64 k ∧ (∀ s ∈ l.take k, s.size ≤ 100) ∧ Below w.heap.size w wr)
  case atStart => exact ⟨0, Nat.zero_le _, rfl, rfl, by simp, hB⟩
  case round =>
    clear hB hb2
    obtain ⟨k, hk, hkg, rfl, hall, hB⟩ := hrel
    replace hkg := Lib.hid hkg
    replace hall := Lib.hid hall
    by_cases hlt : k < l.length
    · obtain ⟨ad, rfl, hadlt, e0⟩ := (hr.out.below hB).one_ hlt
      have hstep : l.take (k + 1) = l.take k ++ [l[k]] := List.take_succ_eq_append_getElem hlt
      generalize l[k] = s at e0 hstep
      replace hstep := Lib.hid hstep
      by_cases hs : (s.size : Int) ≤ 100
      · go_wp2
        go_roundg (l.length - k)
        case measure => go_light; rw [hkg.out]; omega
        case rel =>
          go_light
          refine ⟨k + 1, by omega, by omega, by go_num, ?_, hB⟩
          rw [hstep.out]
          intro t ht
          rcases List.mem_append.1 ht with h | h
          · exact hall.out t h
          · rw [List.mem_singleton.1 h]; omega
      · have hs' : 100 < (s.size : Int) := by omega
        go_wp2
        go_returns
        exact ⟨rfl, hB⟩
    · have hkl : l.take k = l := List.take_of_length_le (by omega)
      have hall' := hall.out
      rw [hkl] at hall'
      have hbound := listL_bound l.length 100 l hall'
      have hlb : (listL l.length l).length ≤ 140737488355328 := by
        have : l.length * 104 ≤ 40 * 104 := Nat.mul_le_mul_right _ (by omega)
        omega
      have hrd : readList (listB l) = (l, 0) := readList_app l (by omega) (fun s h => by have := hall' s h; omega)
      have L1 := fun W (h : Below w.heap.size w W) => list_calls A l cap W (hr.out.below h) hlb
      have L2 := fun W (h : Below w.heap.size w W) => refList_calls A l cap W (hr.out.below h) hlb
      have R1 := fun W => readList_calls (listB l) W
      rw [hrd] at R1
      simp only at R1
      generalize listB l = y at L1 L2 R1
      replace L1 := Lib.hid L1
      replace L2 := Lib.hid L2
      replace R1 := Lib.hid R1
      clear hkl hall hall' hbound hlb hrd
      go_upto_region 10 with (first | (go_at_call 34; ((with_reducible refine (L1.out _ hB).mono ?_); rintro e w3 ⟨rfl, hb3⟩; replace hB := below_next' (by first | (with_reducible exact hB) | (with_reducible exact hB.alloc hB.size _) | (with_reducible exact (hB.alloc hB.size _).alloc (hB.alloc hB.size _).size _) | exact below_drewN' hB _) hb3)) | (go_at_call 33; (with_reducible refine (R1.out _).mono ?_); rintro e w4 ⟨⟨X, cx, rfl, hcx, hx⟩, hb4⟩; replace hB := below_next' (by first | (with_reducible exact hB) | (with_reducible exact hB.alloc hB.size _) | (with_reducible exact (hB.alloc hB.size _).alloc (hB.alloc hB.size _).size _) | exact below_drewN' hB _) hb4))
      have hx' := hx.below (Below.refl w4.heap.size w4)
      clear hx R1
      obtain ⟨K, hK, hK2⟩ : ∃ K : Nat, (n : Int) % 1200 = (K : Int) ∧ K < 1200 := ⟨n % 1200, by omega, by omega⟩
      rw [hK]
      replace hK := Lib.hid hK
      obtain ⟨si, hi, hz, hz1, hz2⟩ := info_parts (P := Try.prog) (e := 9) (z := .string ByteArray.empty) (size := 1) (bytes := 16) (by kernel_rfl)
      replace hi := Lib.hid hi
      replace hz := Lib.hid hz
      replace hz1 := Lib.hid hz1
      have hz2' : si.bytes * K ≤ 281474976710656 := by rw [hz2]; omega
      clear hz2
      go_wp2_with (at_make; refine wpList_make_full _ rfl _ _ 33 rfl w4.heap.size 9 si (.string ByteArray.empty) 1 Try.underlying33 hi.out hz.out hz1.out .i64 .i64 _ _ K rfl rfl rfl rfl hz2' ?b3 (Nat.le_refl _) ?_)
      case b3 => unfold maxLen; omega
      intro w5 ho5 hg5
      have hB5 : Below w.heap.size w w5 := hB.grown hg5 hB.size (fun q e => by cases e)
      have hx5 := hx'.below ((Below.refl w4.heap.size w4).grown hg5 (Nat.le_refl _) (fun q e => by cases e))
      obtain ⟨E, hE⟩ : ∃ E, List.replicate K ByteArray.empty = E := ⟨_, rfl⟩
      have hEl : E.length = K := by rw [← hE]; simp
      have hE0 : ∀ s ∈ E, s.size ≤ 0 := by rw [← hE]; intro s hs; rw [List.eq_of_mem_replicate hs]; exact Nat.le_refl _
      have ho6 : w5.ownsRow w4.heap.size 9 1 (.slice (some ⟨w4.heap.size, 0, none⟩) K K) E.length (E.map Value.string) := by
        rw [hEl, ← hE, ← made_empty']; exact ho5
      obtain ⟨X5, c5, hv5, _, hrows5⟩ := own_rows ho6 (by omega)
      injection hv5 with hv5 hv6 hv7
      subst hv5
      have hbE := listL_bound E.length 0 E hE0
      have L3 := list_calls _ E K w5 hrows5 (by omega)
      rw [hEl] at L3
      have hcase : readList (listB E) = (E, 0) ∧ K ≤ 1000 ∨ readList (listB E) = ([], 2) ∧ 1000 < K := by
        by_cases h : K ≤ 1000
        · exact .inl ⟨readList_app E (by omega) (fun s hs => by have := hE0 s hs; omega), h⟩
        · exact .inr ⟨readList_long E (by omega) (by omega), by omega⟩
      have R2 := fun W => readList_calls (listB E) W
      replace L3 := Lib.hid L3
      clear hE hE0 ho5 ho6 hrows5 hv6 hv7 hbE hg5 hB hx'
      have hB := hB5
      have hD := Below.refl w5.heap.size w5
      have SM := fun W h h' => same_calls X A l l cx cap W h h'
      simp only [decide_true] at SM
      replace SM := Lib.hid SM
      replace hEl := Lib.hid hEl
      rcases hcase with ⟨e, hK3⟩ | ⟨e, hK3⟩
      · rw [e] at R2
        simp only [hEl.out] at R2
        generalize listB E = z at L3 R2
        replace R2 := Lib.hid R2
        clear e
        go_upto_region 11 with (first | (go_at_call 34; ((with_reducible refine (L3.out).mono ?_); rintro e w6 ⟨rfl, hb6⟩; replace hB := below_next' (by first | (with_reducible exact hB) | (with_reducible exact hB.alloc hB.size _) | (with_reducible exact (hB.alloc hB.size _).alloc (hB.alloc hB.size _).size _) | exact below_drewN' hB _) hb6; replace hD := below_next' (by first | (with_reducible exact hD) | (with_reducible exact hD.alloc hD.size _) | (with_reducible exact (hD.alloc hD.size _).alloc (hD.alloc hD.size _).size _) | exact below_drewN' hD _) hb6)) | (go_at_call 33; (with_reducible refine (R2.out _).mono ?_); rintro e w7 ⟨⟨Y, cy, rfl, hcy, hy⟩, hb7⟩; replace hB := below_next' (by first | (with_reducible exact hB) | (with_reducible exact hB.alloc hB.size _) | (with_reducible exact (hB.alloc hB.size _).alloc (hB.alloc hB.size _).size _) | exact below_drewN' hB _) hb7; replace hD := below_next' (by first | (with_reducible exact hD) | (with_reducible exact hD.alloc hD.size _) | (with_reducible exact (hD.alloc hD.size _).alloc (hD.alloc hD.size _).size _) | exact below_drewN' hD _) hb7))
        rw [hEl.out]
        go_wp2_with (first | (go_at_call 34; ((with_reducible refine (L1.out _ hB).mono ?_); rintro e w8 ⟨rfl, hb8⟩; replace hB := below_next' (by first | (with_reducible exact hB) | (with_reducible exact hB.alloc hB.size _) | (with_reducible exact (hB.alloc hB.size _).alloc (hB.alloc hB.size _).size _) | exact below_drewN' hB _) hb8; replace hD := below_next' (by first | (with_reducible exact hD) | (with_reducible exact hD.alloc hD.size _) | (with_reducible exact (hD.alloc hD.size _).alloc (hD.alloc hD.size _).size _) | exact below_drewN' hD _) hb8)) | (go_at_call 35; ((with_reducible refine (L2.out _ hB).mono ?_); rintro e w9 ⟨rfl, hb9⟩; replace hB := below_next' (by first | (with_reducible exact hB) | (with_reducible exact hB.alloc hB.size _) | (with_reducible exact (hB.alloc hB.size _).alloc (hB.alloc hB.size _).size _) | exact below_drewN' hB _) hb9; replace hD := below_next' (by first | (with_reducible exact hD) | (with_reducible exact hD.alloc hD.size _) | (with_reducible exact (hD.alloc hD.size _).alloc (hD.alloc hD.size _).size _) | exact below_drewN' hD _) hb9)) | (go_at_call 36; ((with_reducible refine (SM.out _ (hx5.below hD) (hr.out.below hB)).mono ?_); rintro e w10 ⟨rfl, hb10⟩; replace hB := below_next' (by first | (with_reducible exact hB) | (with_reducible exact hB.alloc hB.size _) | (with_reducible exact (hB.alloc hB.size _).alloc (hB.alloc hB.size _).size _) | exact below_drewN' hB _) hb10; replace hD := below_next' (by first | (with_reducible exact hD) | (with_reducible exact hD.alloc hD.size _) | (with_reducible exact (hD.alloc hD.size _).alloc (hD.alloc hD.size _).size _) | exact below_drewN' hD _) hb10)))
        all_goals go_returns
        all_goals go_light
        all_goals exact ⟨ret_bool (by simp; try omega), hB⟩
      · rw [e] at R2
        simp only [List.length_nil] at R2
        generalize listB E = z at L3 R2
        replace R2 := Lib.hid R2
        clear e
        go_upto_region 11 with (first | (go_at_call 34; ((with_reducible refine (L3.out).mono ?_); rintro e w6 ⟨rfl, hb6⟩; replace hB := below_next' (by first | (with_reducible exact hB) | (with_reducible exact hB.alloc hB.size _) | (with_reducible exact (hB.alloc hB.size _).alloc (hB.alloc hB.size _).size _) | exact below_drewN' hB _) hb6; replace hD := below_next' (by first | (with_reducible exact hD) | (with_reducible exact hD.alloc hD.size _) | (with_reducible exact (hD.alloc hD.size _).alloc (hD.alloc hD.size _).size _) | exact below_drewN' hD _) hb6)) | (go_at_call 33; (with_reducible refine (R2.out _).mono ?_); rintro e w7 ⟨⟨Y, cy, rfl, hcy, hy⟩, hb7⟩; replace hB := below_next' (by first | (with_reducible exact hB) | (with_reducible exact hB.alloc hB.size _) | (with_reducible exact (hB.alloc hB.size _).alloc (hB.alloc hB.size _).size _) | exact below_drewN' hB _) hb7; replace hD := below_next' (by first | (with_reducible exact hD) | (with_reducible exact hD.alloc hD.size _) | (with_reducible exact (hD.alloc hD.size _).alloc (hD.alloc hD.size _).size _) | exact below_drewN' hD _) hb7))
        go_wp2_with (first | (go_at_call 34; ((with_reducible refine (L1.out _ hB).mono ?_); rintro e w8 ⟨rfl, hb8⟩; replace hB := below_next' (by first | (with_reducible exact hB) | (with_reducible exact hB.alloc hB.size _) | (with_reducible exact (hB.alloc hB.size _).alloc (hB.alloc hB.size _).size _) | exact below_drewN' hB _) hb8; replace hD := below_next' (by first | (with_reducible exact hD) | (with_reducible exact hD.alloc hD.size _) | (with_reducible exact (hD.alloc hD.size _).alloc (hD.alloc hD.size _).size _) | exact below_drewN' hD _) hb8)) | (go_at_call 35; ((with_reducible refine (L2.out _ hB).mono ?_); rintro e w9 ⟨rfl, hb9⟩; replace hB := below_next' (by first | (with_reducible exact hB) | (with_reducible exact hB.alloc hB.size _) | (with_reducible exact (hB.alloc hB.size _).alloc (hB.alloc hB.size _).size _) | exact below_drewN' hB _) hb9; replace hD := below_next' (by first | (with_reducible exact hD) | (with_reducible exact hD.alloc hD.size _) | (with_reducible exact (hD.alloc hD.size _).alloc (hD.alloc hD.size _).size _) | exact below_drewN' hD _) hb9)) | (go_at_call 36; ((with_reducible refine (SM.out _ (hx5.below hD) (hr.out.below hB)).mono ?_); rintro e w10 ⟨rfl, hb10⟩; replace hB := below_next' (by first | (with_reducible exact hB) | (with_reducible exact hB.alloc hB.size _) | (with_reducible exact (hB.alloc hB.size _).alloc (hB.alloc hB.size _).size _) | exact below_drewN' hB _) hb10; replace hD := below_next' (by first | (with_reducible exact hD) | (with_reducible exact hD.alloc hD.size _) | (with_reducible exact (hD.alloc hD.size _).alloc (hD.alloc hD.size _).size _) | exact below_drewN' hD _) hb10)))
        all_goals go_returns
        all_goals go_light
        all_goals exact ⟨ret_bool (by simp; try omega), hB⟩
end Go.Proofs.Ytdohmkanpdhmaaa
