/- The program's digest: New, Write. Conditions: what is written is at most 2^40 bytes. -/
import Derived.Test.YtknjbkbbhgjnlaaPStep
import Derived.Test.YtknjbkbbhgjnlaaPNum
import Derived.Lib.Strings
namespace Go.Proofs.Ytknjbkbbhgjnlaa
open Go.RowKit
set_option linter.unusedVariables false
set_option linter.unusedSimpArgs false
def tabV : List Value := (K64 ++ H8.L).map fun (n : Nat) => Value.int .u32 (n : Int)
theorem tabV_length : tabV.length = 72 := by unfold tabV; rw [List.length_map, List.length_append, K64_length]; rfl
theorem tabV_get {j : Nat} (hj : j < 64) : tabV[j]? = some (.int .u32 ((K64.getD j 0 : Nat) : Int)) := by
  unfold tabV
  have hl : j < K64.length := by rw [K64_length]; exact hj
  rw [List.getElem?_map, List.getElem?_append_left hl, List.getD_eq_getElem?_getD, List.getElem?_eq_getElem hl]
  rfl
def vV (v : V8) : List Value := v.L.map fun (n : Nat) => Value.int .u32 (n : Int)
theorem vV_length (v : V8) : (vV v).length = 8 := rfl
/-- A digest's cells: the table, the state, the rest, the size. -/
def digL (v : V8) (r : ByteArray) (n : Nat) : List Value := tabV ++ (vV v ++ [.string r, .int .u64 (n : Int)])
def digA (v : V8) (r : ByteArray) (n : Nat) : Array Value := (digL v r n).toArray
theorem digL_length (v : V8) (r : ByteArray) (n : Nat) : (digL v r n).length = 82 := by simp [digL, tabV_length, vV_length]
theorem digA_size (v : V8) (r : ByteArray) (n : Nat) : (digA v r n).size = 82 := by simp [digA, digL_length]
theorem digL_tab (v : V8) (r : ByteArray) (n : Nat) {j : Nat} (hj : j < 64) : (digL v r n)[j]? = some (.int .u32 ((K64.getD j 0 : Nat) : Int)) := by
  unfold digL
  rw [List.getElem?_append_left (by rw [tabV_length]; omega), tabV_get hj]
theorem digL_80 (v : V8) (r : ByteArray) (n : Nat) : (digL v r n)[80]? = some (.string r) := by
  unfold digL
  rw [List.getElem?_append_right (by rw [tabV_length]; omega), tabV_length, List.getElem?_append_right (by rw [vV_length]; omega), vV_length]
  rfl
theorem digL_81 (v : V8) (r : ByteArray) (n : Nat) : (digL v r n)[81]? = some (.int .u64 (n : Int)) := by
  unfold digL
  rw [List.getElem?_append_right (by rw [tabV_length]; omega), tabV_length, List.getElem?_append_right (by rw [vV_length]; omega), vV_length]
  rfl
theorem digL_set80 (v : V8) (r r' : ByteArray) (n : Nat) : (digL v r n).set 80 (.string r') = digL v r' n := by
  unfold digL
  rw [List.set_append_right _ _ (by rw [tabV_length]; omega), tabV_length, List.set_append_right _ _ (by rw [vV_length]; omega), vV_length]
  rfl
theorem digL_set81 (v : V8) (r : ByteArray) (n n' : Nat) : (digL v r n).set 81 (.int .u64 (n' : Int)) = digL v r n' := by
  unfold digL
  rw [List.set_append_right _ _ (by rw [tabV_length]; omega), tabV_length, List.set_append_right _ _ (by rw [vV_length]; omega), vV_length]
  rfl
theorem digL_v (v : V8) (r : ByteArray) (n : Nat) : ((digL v r n).drop 72).take 8 = vV v := by
  unfold digL
  rw [List.drop_append_of_le_length (by rw [tabV_length]; omega), List.drop_of_length_le (by rw [tabV_length]; omega), List.nil_append]
  rfl
theorem digL_put (v v' : V8) (r : ByteArray) (n : Nat) : (digL v r n).take 72 ++ vV v' ++ (digL v r n).drop 80 = digL v' r n := by
  unfold digL
  rw [List.take_append_of_le_length (by rw [tabV_length]; omega), List.take_of_length_le (by rw [tabV_length]; omega), List.drop_append, tabV_length, List.drop_of_length_le (by rw [tabV_length]; omega), List.nil_append, List.append_assoc]
  rfl
def DigAt (W : World) (g : Nat) (v : V8) (r : ByteArray) (n : Nat) : Prop := Whole W g 160 (digA v r n)
theorem DigAt.tab {W : World} {g : Nat} {v : V8} {r : ByteArray} {n : Nat} (h : DigAt W g v r n) : TabAt W g K64 :=
  ⟨Whole.lt h, fun j hj => by rw [Whole.cell h j]; simpa [digA] using digL_tab v r n hj⟩
theorem DigAt.c80 {W : World} {g : Nat} {v : V8} {r : ByteArray} {n : Nat} (h : DigAt W g v r n) : W.cell? ⟨g, 80, none⟩ = some (.string r) := by
  rw [Whole.cell h 80]; simpa [digA] using digL_80 v r n
theorem DigAt.c81 {W : World} {g : Nat} {v : V8} {r : ByteArray} {n : Nat} (h : DigAt W g v r n) : W.cell? ⟨g, 81, none⟩ = some (.int .u64 (n : Int)) := by
  rw [Whole.cell h 81]; simpa [digA] using digL_81 v r n
theorem DigAt.p80 {W : World} {g : Nat} {v : V8} {r : ByteArray} {n : Nat} (h : DigAt W g v r n) (r' : ByteArray) : DigAt (W.setCell ⟨g, 80, none⟩ (.string r')) g v r' n := by
  refine Whole.put' h 80 _ ?_
  unfold digA
  rw [List.setIfInBounds_toArray, digL_set80]
theorem DigAt.p81 {W : World} {g : Nat} {v : V8} {r : ByteArray} {n : Nat} (h : DigAt W g v r n) (n' : Nat) : DigAt (W.setCell ⟨g, 81, none⟩ (.int .u64 (n' : Int))) g v r n' := by
  refine Whole.put' h 81 _ ?_
  unfold digA
  rw [List.setIfInBounds_toArray, digL_set81]
theorem arr_vV (v : V8) : arr .u32 v.L = (vV v).toArray := rfl
/-- What has come of a message: its whole blocks, the rest. -/
def tailB (M : ByteArray) (t : Nat) : ByteArray := M.extract (64 * t) M.size
theorem tailB_size (M : ByteArray) (t : Nat) : (tailB M t).size = M.size - 64 * t := by unfold tailB; rw [ByteArray.size_extract]; omega
theorem tailB_data (M : ByteArray) (t : Nat) : (tailB M t).data.toList = M.data.toList.drop (64 * t) := by
  unfold tailB
  rw [Lib.extract_data, List.take_of_length_le]
  rw [List.length_drop]
  have : M.data.toList.length = M.size := by simp
  omega
theorem ba_ext {a b : ByteArray} (h : a.data.toList = b.data.toList) : a = b := ByteArray.ext (Array.toList_inj.1 h)
theorem ba_append (a b : ByteArray) : (a ++ b).data.toList = a.data.toList ++ b.data.toList := by simp
theorem tailB_append (m b : ByteArray) (t : Nat) (h : 64 * t ≤ m.size) : tailB m t ++ b = tailB (m ++ b) t := by
  apply ba_ext
  rw [ba_append, tailB_data, tailB_data, ba_append, List.drop_append_of_le_length (by simpa using h)]
theorem tailB_next (M : ByteArray) (t : Nat) (n : Nat) (hn : n = M.size - 64 * t) : (tailB M t).extract 64 n = tailB M (t + 1) := by
  apply ba_ext
  rw [Lib.extract_data, tailB_data, tailB_data, List.drop_drop, List.take_of_length_le]
  · rfl
  · rw [List.length_drop]
    have : M.data.toList.length = M.size := by simp
    omega
theorem tailB_block (M : ByteArray) (t : Nat) : bytesN ((tailB M t).extract 0 64) = ((bytesN M).drop (64 * t)).take 64 := by
  unfold bytesN
  rw [Lib.extract_data, tailB_data, List.drop_zero, Nat.sub_zero, List.map_take, List.map_drop]
theorem foldB_prefix (K F G : List Nat) : ∀ t, 64 * t ≤ F.length → foldB K (F ++ G) t = foldB K F t
  | 0, _ => rfl
  | t + 1, h => by
    have e : ((F ++ G).drop (64 * t)).take 64 = (F.drop (64 * t)).take 64 := by
      rw [List.drop_append_of_le_length (by omega), List.take_append_of_le_length (by rw [List.length_drop]; omega)]
    rw [foldB, foldB, e, foldB_prefix K F G t (by omega)]
theorem bytesN_append (a b : ByteArray) : bytesN (a ++ b) = bytesN a ++ bytesN b := by unfold bytesN; rw [ba_append, List.map_append]
/-- A digest that holds a message. -/
def MsgAt (W : World) (g : Nat) (m : ByteArray) : Prop := DigAt W g (foldB K64 (bytesN m) (m.size / 64)) (tailB m (m.size / 64)) m.size
theorem step2_calls (v : V8) (hv : v.ok) (s : ByteArray) (hs : s.size = 64) (D : Nat) (w : World) (ht : TabAt w D K64) :
    Calls Try.prog 100 #[.pointer (some ⟨D, 0, none⟩), .agg (vV v).toArray, .string s] w fun e w' => e = .returned (.agg (vV (blockN K64 (bytesN s) v)).toArray) ∧ Later w w' :=
  step_calls K64 v K64_length K64_lt hv s hs D w ht
theorem wl_loadIn {P : Program} {ops : Array Oper} {rest : List Oper} {d : Option Tmp} {ty ty' : TypeId} {x : Operand} {pos : String} {after : Array Edge} {gd : Option (Nat × Bool)} {a : Act} {w : World} {Q : Exit → Act → World → Prop}
    {g off : Nat} {t : TypeId} {cs : Array Value} {u : TypeDesc} (part : Array Value) (hg : Whole w g t cs) (hp : (cs.toList.drop off).take part.toList.length = part.toList) (hu : P.underlying ty = some u)
    (hw : Region.wanted { dst := d, op := .load ty x, type := ty', pos := pos, after := after, guard := gd } (yielded ops a.tmps) = true) (hx : a.eval x = .pointer (some ⟨g, off, none⟩))
    (hd : (match u with | .struct _ | .array _ _ => true | _ => false) = true) (hi : (P.info? ty).map (·.size) = some part.size)
    (h : wpList P ops Q rest (a.put d (.agg part)) w) :
    wpList P ops Q ({ dst := d, op := .load ty x, type := ty', pos := pos, after := after, guard := gd } :: rest) a w :=
  wl_of_wp hw (wp_loadIn part hg hp hu hx hd hi h)
theorem wl_build2 {P : Program} {ops : Array Oper} {rest : List Oper} {d : Option Tmp} {t ty' : TypeId} {x y : Operand} {i j : Nat} {pos : String} {after : Array Edge} {a : Act} {w : World} {Q : Exit → Act → World → Prop} {v1 v2 : Value} {cs : Array Value}
    (hb : P.built t [(i, v1), (j, v2)] = some cs) (hx : a.eval x = v1) (hy : a.eval y = v2) (h : wpList P ops Q rest (a.put d (.agg cs)) w) :
    wpList P ops Q ({ dst := d, op := .build t #[(i, x), (j, y)], type := ty', pos := pos, after := after, guard := none } :: rest) a w := by
  have e : ((#[(i, x), (j, y)] : Array (Nat × Operand)).map fun (i, x) => (i, a.eval x)).toList = [(i, v1), (j, v2)] := by simp [hx, hy]
  refine wpList_build rfl t #[(i, x), (j, y)] rfl ?_ ?_
  · rw [e, hb]; rfl
  · rw [e, hb]; exact h
set_option maxHeartbeats 1000000 in
set_option maxRecDepth 100000 in
theorem new_calls (w : World) : Calls Try.prog 71 #[.agg (arr .u32 (K64 ++ H8.L))] w fun e w' => (∃ g, e = .returned (.pointer (some ⟨g, 0, none⟩)) ∧ w.heap.size ≤ g ∧ MsgAt w' g ⟨#[]⟩) ∧ Below w.heap.size w w' := by
  have hbuilt : (Try.prog.built 160 [(0, .agg (arr .u32 (K64 ++ H8.L))), (1, .agg (vV H8).toArray)]) = some (digA H8 ⟨#[]⟩ 0) := by kernel_rfl
  have hpart : ((arr .u32 (K64 ++ H8.L)).toList.drop 64).take (vV H8).toArray.toList.length = (vV H8).toArray.toList := by kernel_rfl
  have hsz : (Try.prog.info? 29).map (·.size) = some (arr .u32 (K64 ++ H8.L)).size := by kernel_rfl
  generalize arr .u32 (K64 ++ H8.L) = tb at *
  have h1 := Whole.new w 29 tb
  have hB1 : Below w.heap.size w (w.alloc (.cells tb 29)) := by go_grown
  go_enter Try.func71, Try.ntmps71
  go_upto_region 1 with (fail)
  generalize hG : w.heap.size = G at *
  generalize w.alloc (.cells tb 29) = W1 at *
  go_wp2_with (first | ((with_reducible apply wl_loadW (ty := 29) h1 Try.underlying29); rfl; rfl; rfl; exact hsz) | ((with_reducible apply wl_loadIn (ty := 27) (vV H8).toArray h1 hpart Try.underlying27); rfl; rfl; rfl; kernel_rfl) | ((with_reducible apply wl_build2 hbuilt); rfl; rfl))
  have hd := Whole.new W1 160 (digA H8 ⟨#[]⟩ 0)
  have hm : MsgAt (W1.alloc (.cells (digA H8 ⟨#[]⟩ 0) 160)) W1.heap.size ⟨#[]⟩ := hd
  go_returns
  go_light
  exact ⟨⟨_, rfl, by have := h1.lt; omega, hm⟩, hB1.alloc (by have := h1.lt; omega) _⟩
theorem V8.L_dig (v : V8) (r : ByteArray) (n : Nat) : ((digA v r n).toList.drop 72).take (vV v).toArray.toList.length = (vV v).toArray.toList := by
  show ((digL v r n).drop 72).take 8 = vV v
  exact digL_v v r n
theorem foldB_next (K F : List Nat) (t : Nat) : blockN K ((F.drop (64 * t)).take 64) (foldB K F t) = foldB K F (t + 1) := rfl
set_option maxHeartbeats 2000000 in
set_option maxRecDepth 100000 in
theorem write_calls (m b : ByteArray) (g : Nat) (w : World) (h : MsgAt w g m) (hs : m.size + b.size ≤ 1099511627776) :
    Calls Try.prog 72 #[.pointer (some ⟨g, 0, none⟩), .string b] w fun e w' => e = .returned (.tuple #[]) ∧ MsgAt w' g (m ++ b) ∧ w.grownBy w' (some g) := by
  have hMs : (m ++ b).size = m.size + b.size := ByteArray.size_append
  have hfold : foldB K64 (bytesN m) (m.size / 64) = foldB K64 (bytesN (m ++ b)) (m.size / 64) := by
    rw [bytesN_append, foldB_prefix _ _ _ _ (by rw [bytesN_length]; omega)]
  have htail := tailB_append m b (m.size / 64) (by omega)
  unfold MsgAt at h ⊢
  rw [hfold] at h
  generalize hM : m ++ b = M at *
  obtain ⟨t0, ht0⟩ : ∃ t0, m.size / 64 = t0 := ⟨_, rfl⟩
  rw [ht0] at h htail
  obtain ⟨T, hT⟩ : ∃ T, M.size / 64 = T := ⟨_, rfl⟩
  rw [hT]
  have hr0 := tailB_size m t0
  generalize tailB m t0 = r0 at *
  have nolen : (9223372036854775807 < r0.size + b.size) = False := eq_false (by omega)
  clear hr0
  obtain ⟨F, hF⟩ : ∃ F, bytesN M = F := ⟨_, rfl⟩
  rw [hF] at h ⊢
  have c81 := h.c81
  have f81 := Whole.frozen h 81
  have eM : ((M.size : Nat) : Int) = (m.size : Int) + b.size := by omega
  have p81 := h.p81 M.size
  have g81 := only_put (only_same w (some g)) (p := ⟨g, 81, none⟩) (.inl rfl) (.int .u64 (M.size : Int))
  have c80 := h.c80
  have hw1 : IntKind.u64.wrap (b.size : Int) = b.size := by simp [IntKind.wrap, IntKind.signed, IntKind.bits]; omega
  have hw2 : IntKind.u64.wrap ((m.size : Int) + b.size) = M.size := by simp [IntKind.wrap, IntKind.signed, IntKind.bits]; omega
  have ht0M : 64 * t0 ≤ M.size := by omega
  have ht0T : t0 ≤ T := by omega
  replace hF := Lib.hid hF
  replace hM := Lib.hid hM
  replace eM := Lib.hid eM
  replace hMs := Lib.hid hMs
  go_enter Try.func72, Try.ntmps72
  go_wp2_with (fail)
  generalize w.setCell ⟨g, 81, none⟩ (.int .u64 (M.size : Int)) = W1 at *
  clear c81 f81 c80 hw1 hw2 h htail nolen
  go_loopg [4] (T + 1 - t0) (fun kg al wr => ∃ (t : Nat), t0 ≤ t ∧ t ≤ T ∧ kg = T + 1 - t ∧ al = .string (tailB M t) ∧ DigAt wr g (foldB K64 F t) r0 M.size ∧ w.grownBy wr (some g))
  case atStart => exact ⟨t0, Nat.le_refl _, ht0T, rfl, rfl, p81, g81⟩
  case round =>
    clear p81 g81
    obtain ⟨t, ht, htT, hkg, rfl, hd, hg⟩ := hrel
    have hsz := tailB_size M t
    replace hkg := Lib.hid hkg
    by_cases hlt : t < T
    · have hnext := tailB_next M t (M.size - 64 * t) rfl
      replace hnext := Lib.hid hnext
      have hblk := tailB_block M t
      rw [hF.out] at hblk
      have hbs : ((tailB M t).extract 0 64).size = 64 := by rw [ByteArray.size_extract, hsz]; omega
      have hok := foldB_ok K64 F t
      have hfn := foldB_next K64 F t
      rw [← hblk] at hfn
      have q1 : ((64 : Int) ≤ (tailB M t).size) = True := eq_true (by omega)
      have htab := hd.tab
      have SC : ∀ W, Later wr W → Calls Try.prog 100 #[.pointer (some ⟨g, 0, none⟩), .agg (vV (foldB K64 F t)).toArray, .string ((tailB M t).extract 0 64)] W fun e w' => e = .returned (.agg (vV (foldB K64 F (t + 1))).toArray) ∧ Later W w' := fun W hl => by
        rw [← hfn]
        exact step2_calls _ hok _ hbs g W (htab.below hl)
      have hpart := V8.L_dig (foldB K64 F t) r0 M.size
      have hput := digL_put (foldB K64 F t) (foldB K64 F (t + 1)) r0 M.size
      have hvl := vV_length (foldB K64 F t)
      have hvl2 := vV_length (foldB K64 F (t + 1))
      have hvo : (vV (foldB K64 F (t + 1))).toArray.toList.all (·.oneCell') = true := by simp [vV, Value.oneCell']
      generalize foldB K64 F t = v at *
      generalize hv' : foldB K64 F (t + 1) = v' at *
      generalize tailB M t = al at *
      generalize hal' : tailB M (t + 1) = al' at *
      replace hv' := Lib.hid hv'
      replace hal' := Lib.hid hal'
      clear hblk hfn hok
      replace hpart := Lib.hid hpart
      replace hput := Lib.hid hput
      go_upto_region 3 with (fail)
      refine wp_region_grow 13 43 (by kernel_rfl) (by kernel_rfl) rfl (fun w4 hl4 => ?_)
      simp only [List.take_succ_cons, List.take_zero, List.drop_succ_cons, List.drop_zero]
      generalize ha : Act.mk _ _ = a0
      have k0 : a0.eval (.tmp 0) = .pointer (some ⟨g, 0, none⟩) := by subst ha; rfl
      have k4 : a0.eval (.tmp 4) = .string al := by subst ha; rfl
      have ks : a0.tmps.size = 43 := by subst ha; rfl
      have ha0 := ha.symm
      clear ha
      refine wpG_move (fun a w hk => (hk 0 rfl : a.eval (.tmp 0) = a0.eval (.tmp 0)).trans k0) ?_
      refine wpG_move (fun a w hk => (hk 0 rfl : a.eval (.tmp 0) = a0.eval (.tmp 0)).trans k0) ?_
      apply wpG_value'
      · rfl
      · (intro a wx hlx hk K hK; have e25 : a.eval (.tmp 25) = _ := hk 25 rfl; simp only [execOp, e25]; clear e25 hk; go_simp; exact hK)
      apply wpG_value'
      · rfl
      · (intro a wx hlx hk K hK; have e26 : a.eval (.tmp 26) = _ := hk 26 rfl; simp only [execOp, e26]; clear e26 hk; go_simp; exact hK)
      refine wpG_move (fun a w hk => (hk 0 rfl : a.eval (.tmp 0) = a0.eval (.tmp 0)).trans k0) ?_
      apply wpG_value'
      · rfl
      · (intro a wx hlx hk K hK; have e28 : a.eval (.tmp 28) = _ := hk 28 rfl; simp only [execOp, e28]; clear e28 hk; go_simp; exact hK)
      apply wpG_value'
      · rfl
      · (intro a wx hlx hk K hK; have e29 : a.eval (.tmp 29) = _ := hk 29 rfl; simp only [execOp, e29]; clear e29 hk; go_simp; exact hK)
      refine wpG_loadIn ((vV v).toArray) (hl4.whole hd) rfl Try.underlying27 rfl (by kernel_rfl) (fun a w hk => hk 30 rfl) ?_
      refine wpG_move (fun a w hk => (hk 4 rfl : a.eval (.tmp 4) = a0.eval (.tmp 4)).trans k4) ?_
      apply wpG_value'
      · rfl
      · (intro a wx hlx hk K hK; have e32 : a.eval (.tmp 32) = _ := hk 32 rfl; simp only [execOp, resolve, List.map_toArray, List.map_cons, List.map_nil, Option.map_some, Option.map_none, e32]; clear e32 hk; go_simp; exact hK)
      refine wpG_call _ _ Try.func100 (by kernel_rfl) (by kernel_rfl) (fun W hW => SC W (hl4.trans hW)) (fun a w hk => by have e27 : a.eval (.tmp 27) = _ := hk 27 rfl; have e31 : a.eval (.tmp 31) = _ := hk 31 rfl; have e33 : a.eval (.tmp 33) = _ := hk 33 rfl; simp [e27, e31, e33]) ?_
      apply wpG_value'
      · rfl
      · (intro a wx hlx hk K hK; have e24 : a.eval (.tmp 24) = _ := hk 24 rfl; simp only [execOp, e24]; clear e24 hk; go_simp; exact hK)
      apply wpG_value'
      · rfl
      · (intro a wx hlx hk K hK; have e35 : a.eval (.tmp 35) = _ := hk 35 rfl; simp only [execOp, e35]; clear e35 hk; go_simp; exact hK)
      refine wpG_nil (fun w4' hl4' => ?_)
      refine fin_is ?_
      refine fin_is ?_
      refine fin_is ?_
      refine fin_is ?_
      refine fin_is ?_
      refine fin_is ?_
      refine fin_is ?_
      refine fin_is ?_
      refine fin_is ?_
      refine fin_is ?_
      refine fin_is ?_
      refine fin_is ?_
      refine fin_is ?_
      refine fin_nil ?_
      have hd4 := (hl4.trans hl4').whole hd
      refine wl_storeIn (off := 72) (part := (vV v').toArray) (digA v' r0 M.size) hd4 rfl (by simp [eval_put, put_size, ks]) (by simp [eval_put, put_size, ks]) (by rw [show ((vV v').toArray).size = 8 from hvl2]; kernel_rfl) (by rw [digA_size]; show 72 + (vV v').length ≤ 82; omega) hvo (by show ((digL v r0 M.size).take 72 ++ vV v' ++ (digL v r0 M.size).drop (72 + (vV v').length)).toArray = _; rw [hvl2, hput.out]; rfl) (fun w5 hs5 hg5 hz5 => ?_)
      subst ha0
      clear k0 k4 ks
      have hg5' : w.grownBy w5 (some g) := only_then (only_then hg (only_below (hl4.trans hl4') _)) hg5
      clear hd4 hd hg hl4 hl4' SC htab
      go_wp2_with (fail)
      go_roundg (T - t)
      case measure => go_light; rw [hkg.out]; omega
      case rel => go_light; exact ⟨t + 1, by omega, by omega, by omega, by rw [hal'.out, hnext.out], by rw [hv'.out]; exact hs5, hg5'⟩
    · obtain rfl : t = T := by omega
      have q1 : ((64 : Int) ≤ (tailB M t).size) = False := eq_false (by omega)
      have q2 : ((tailB M t).size < 64) = True := eq_true (by omega)
      have c80 := hd.c80
      have f80 := Whole.frozen hd 80
      have p80 := hd.p80 (tailB M t)
      have g80 := only_put hg (p := ⟨g, 80, none⟩) (.inl rfl) (.string (tailB M t))
      generalize hv : foldB K64 F t = v at *
      generalize hal : tailB M t = al at *
      replace hv := Lib.hid hv
      replace hal := Lib.hid hal
      go_wp2_with (fail)
      go_end0
      rw [hv.out, hal.out]
      exact ⟨rfl, p80, g80⟩
end Go.Proofs.Ytknjbkbbhgjnlaa
