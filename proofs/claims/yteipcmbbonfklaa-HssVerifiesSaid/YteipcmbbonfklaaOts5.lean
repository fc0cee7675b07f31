/- Rows going together, public keys: the program's. Conditions: seeds of at most 2^20 bytes. -/
import Derived.Test.YteipcmbbonfklaaOts4
import Derived.Test.YteipcmbbonfklaaKinds
namespace Go.Proofs.Yteipcmbbonfklaa
open Go.RowKit
set_option linter.unusedVariables false
set_option linter.unusedSimpArgs false
/-- A row of texts of the call's own is read as a row. -/
theorem textRow_read {w : World} {base : Nat} {e : TypeId} {v : Value} {l : List ByteArray} (h : TextRow e base l v w) (hl : l.length ≤ 9223372036854775807) :
    ∃ A c, v = .slice A l.length c ∧ l.length ≤ c ∧ Kn.str.Rows w A l := by
  rcases h.2 with ⟨rfl, hn⟩ | ⟨g, cap, cur, rfl, hb, hgg, hc, _⟩
  · refine ⟨none, 0, by rw [hn], by omega, hl, fun h => absurd h (by omega)⟩
  · refine ⟨some ⟨g, 0, none⟩, cap, rfl, hc, hl, fun _ => ⟨_, rfl, (Array.getElem?_eq_some_iff.1 hgg).1, fun j x hj => ⟨[.string x], rfl, fun i u hu => ?_⟩⟩⟩
    match i, hu with
    | 0, hu =>
      simp at hu
      subst hu
      refine h.cells rfl _ _ ?_
      show (l.map Value.string)[j * 1 + 0]? = _
      simp [hj]
theorem rows_at {w : World} {A : Option Addr} {f : Nat → ByteArray} {n : Nat} (h : Kn.str.Rows w A ((List.range n).map f)) {i : Nat} (hi : i < n) : ∃ ad, A = some ad ∧ ad.block < w.heap.size ∧ w.cell? (ad.add i) = some (.string (f i)) := by
  obtain ⟨ad, h1, h2, h3⟩ := Kn.Rows.one_ h (k := i) (by simpa using hi)
  exact ⟨ad, h1, h2, by simpa using h3⟩
set_option maxHeartbeats 4000000 in
set_option maxRecDepth 100000 in
theorem up_calls (f : Nat → ByteArray) (hf : ∀ i, (f i).size ≤ 1000) (m : Nat) (hm : m ≤ 8) (A : Option Addr) (cap : Nat) (w : World) (hcap : 2 * m ≤ cap) (hr : Kn.str.Rows w A ((List.range (2 * m)).map f)) :
    Calls Try.prog 83 #[.agg (arr .u32 (K64 ++ H8.L)), .slice A (2 * m : Nat) cap] w fun e w' => (∃ v, e = .returned v ∧ TextRow 9 w.heap.size ((List.range m).map fun i => pairO (f (2 * i)) (f (2 * i + 1))) v w') ∧ Below w.heap.size w w' := by
  have hsz : (Try.prog.info? 31).map (·.size) = some (arr .u32 (K64 ++ H8.L)).size := by kernel_rfl
  have PC := fun (i j : Nat) w => pairO_calls (f i) (f j) (by have := hf i; omega) (by have := hf j; omega) w
  have hrange : ∀ q, (List.range (q + 1)).map (fun i => pairO (f (2 * i)) (f (2 * i + 1))) = (List.range q).map (fun i => pairO (f (2 * i)) (f (2 * i + 1))) ++ [pairO (f (2 * q)) (f (2 * q + 1))] := fun q => by rw [List.range_succ, List.map_append]; rfl
  have hrlen : ∀ q, ((List.range q).map (fun i => pairO (f (2 * i)) (f (2 * i + 1)))).length = q := fun q => by simp
  have hR0 : (List.range 0).map (fun i => pairO (f (2 * i)) (f (2 * i + 1))) = [] := rfl
  obtain ⟨RR, hRR⟩ : ∃ RR : Nat → List ByteArray, ∀ q, (List.range q).map (fun i => pairO (f (2 * i)) (f (2 * i + 1))) = RR q := ⟨_, fun q => rfl⟩
  simp only [hRR] at hrange hrlen hR0 ⊢
  clear hRR
  generalize arr .u32 (K64 ++ H8.L) = tb at *
  have h1 := Whole.new w 31 tb
  have hB1 : Below w.heap.size w (w.alloc (.cells tb 31)) := by go_grown
  replace PC := Lib.hid PC
  replace hrange := Lib.hid hrange
  replace hrlen := Lib.hid hrlen
  replace hr := Lib.hid (hr.below hB1)
  generalize hn : 2 * m = n at *
  go_enter Try.func83, Try.ntmps83
  go_upto_region 1 with (fail)
  generalize hG : w.heap.size = G at *
  generalize w.alloc (.cells tb 31) = W1 at *
  have hl0 : Later W1 W1 := Later.refl W1
  have ho0 : TextRow 9 W1.heap.size (RR 0) (.slice none 0 0) W1 := by rw [hR0]; exact World.ownsRow_nil _ _ _ _
  replace hR0 := Lib.hid hR0
  go_wp2_with (fail)
  go_loopg [5, 6] (m + 1) (fun kg o x wr => ∃ k : Nat, x = .int .i64 ((2 * k : Nat) : Int) ∧ k ≤ m ∧ kg = m + 1 - k ∧ TextRow 9 W1.heap.size (RR k) o wr ∧ Later W1 wr)
  case atStart => exact ⟨0, rfl, by omega, rfl, ho0, hl0⟩
  case round =>
    clear hl0 ho0
    obtain ⟨k, rfl, hk, hkg, ho, hl⟩ := hrel
    replace hkg := Lib.hid hkg
    by_cases hlt : k < m
    · obtain ⟨ad, rfl, hadl, c0⟩ := rows_at hr.out (i := 2 * k) (by omega)
      obtain ⟨ad', e', -, c1⟩ := rows_at hr.out (i := 2 * k + 1) (by omega)
      obtain rfl := Option.some.inj e'
      have hrq := hrange.out k
      have hrl := hrlen.out k
      have PP := fun w => PC.out (2 * k) (2 * k + 1) w
      have qlt : (((2 * k : Nat) : Int) < (n : Int)) = True := eq_true (by omega)
      have qlt1 : (((2 * k + 1 : Nat) : Int) < (n : Int)) = True := eq_true (by omega)
      have x1 : IntKind.i64.wrap (((2 * k : Nat) : Int) + 1) = ((2 * k + 1 : Nat) : Int) := by simp [IntKind.wrap, IntKind.signed, IntKind.bits]; omega
      have x2 : IntKind.i64.wrap (((2 * k : Nat) : Int) + 2) = ((2 * k + 2 : Nat) : Int) := by simp [IntKind.wrap, IntKind.signed, IntKind.bits]; omega
      have x3 : IntKind.i64.wrap ((2 * k : Nat) : Int) = ((2 * k : Nat) : Int) := by simp [IntKind.wrap, IntKind.signed, IntKind.bits]; omega
      have x4 : IntKind.i64.wrap ((2 * k + 1 : Nat) : Int) = ((2 * k + 1 : Nat) : Int) := by simp [IntKind.wrap, IntKind.signed, IntKind.bits]; omega
      have e3 : 2 * (k + 1) = 2 * k + 2 := by omega
      generalize pairO (f (2 * k)) (f (2 * k + 1)) = PX at *
      generalize f (2 * k) = fa at *
      generalize f (2 * k + 1) = fb at *
      generalize 2 * k + 1 = k1 at *
      generalize hk2 : 2 * k + 2 = k2 at *
      generalize hk0 : 2 * k = k0 at *
      replace PP := Lib.hid PP
      replace ho := Lib.hid ho
      replace hk2 := Lib.hid hk2
      replace hk0 := Lib.hid hk0
      replace e3 := Lib.hid e3
      go_upto_region 5 with (fail)
      refine wp_region_grow 13 28 (by kernel_rfl) (by kernel_rfl) rfl (fun w5 hl5 => ?_)
      simp only [List.take_succ_cons, List.take_zero, List.drop_succ_cons, List.drop_zero]
      generalize ha : Act.mk _ _ = a0
      have k1 : a0.eval (.tmp 1) = .slice (some ad) n cap := by subst ha; rfl
      have k2 : a0.eval (.tmp 2) = .pointer (some ⟨G, 0, none⟩) := by subst ha; rfl
      have k5 : a0.eval (.tmp 5) = u5 := by subst ha; rfl
      have k6 : a0.eval (.tmp 6) = .int .i64 k0 := by subst ha; rfl
      have ks : a0.tmps.size = 28 := by subst ha; rfl
      have ha0 := ha.symm
      clear ha
      refine wpG_move (fun a w hk => (hk 5 rfl : a.eval (.tmp 5) = a0.eval (.tmp 5)).trans k5) ?_
      refine wpG_loadW ((hl.trans hl5).whole h1) Try.underlying31 rfl (hsz) (fun a w hk => (hk 2 rfl : a.eval (.tmp 2) = a0.eval (.tmp 2)).trans k2) ?_
      refine wpG_move (fun a w hk => (hk 1 rfl : a.eval (.tmp 1) = a0.eval (.tmp 1)).trans k1) ?_
      refine wpG_move (fun a w hk => (hk 6 rfl : a.eval (.tmp 6) = a0.eval (.tmp 6)).trans k6) ?_
      apply wpG_value'
      · rfl
      · (intro a wx hlx hk K hK; have e15 : a.eval (.tmp 15) = _ := hk 15 rfl; have e16 : a.eval (.tmp 16) = _ := hk 16 rfl; simp only [execOp, e15, e16]; clear e15 e16 hk; go_simp; exact hK)
      refine wpG_load1 ((hl.trans hl5).cell c0) Try.underlying9 rfl (fun a w hk => hk 17 rfl) ?_
      refine wpG_move (fun a w hk => (hk 1 rfl : a.eval (.tmp 1) = a0.eval (.tmp 1)).trans k1) ?_
      refine wpG_move (fun a w hk => (hk 6 rfl : a.eval (.tmp 6) = a0.eval (.tmp 6)).trans k6) ?_
      apply wpG_value'
      · rfl
      · (intro a wx hlx hk K hK; have e20 : a.eval (.tmp 20) = _ := hk 20 rfl; simp only [execOp, e20]; clear e20 hk; go_simp; exact hK)
      apply wpG_value'
      · rfl
      · (intro a wx hlx hk K hK; have e19 : a.eval (.tmp 19) = _ := hk 19 rfl; have e21 : a.eval (.tmp 21) = _ := hk 21 rfl; simp only [execOp, e19, e21]; clear e19 e21 hk; go_simp; exact hK)
      refine wpG_load1 ((hl.trans hl5).cell c1) Try.underlying9 rfl (fun a w hk => hk 22 rfl) ?_
      refine wpG_call _ _ Try.func119 (by kernel_rfl) (by kernel_rfl) (fun W _ => PP.out W) (fun a w hk => by have e14 : a.eval (.tmp 14) = _ := hk 14 rfl; have e18 : a.eval (.tmp 18) = _ := hk 18 rfl; have e23 : a.eval (.tmp 23) = _ := hk 23 rfl; simp [e14, e18, e23]) ?_
      refine wpG_buildS Try.underlying43 (by unfold StrT; kernel_rfl) (fun a w hk => hk 24 rfl) ?_
      refine wpG_nil (fun w5' hl5' => ?_)
      refine fin_is ?_
      refine fin_is ?_
      refine fin_is ?_
      refine fin_is ?_
      refine fin_is ?_
      refine fin_is ?_
      refine fin_is ?_
      refine fin_is ?_
      refine fin_is ?_
      refine fin_is ?_
      refine fin_is ?_
      refine fin_is ?_
      refine fin_some (fun v25 hv25 => ?_)
      refine fin_nil ?_
      obtain ⟨g28, rfl, hw28⟩ := hv25
      have hl55 := hl5.trans hl5'
      have ho5 := TextRow.later _ _ _ hl55 ho.out
      have hB5 := hl.trans hl55
      refine wl_appendS Try.underlying43 (by unfold StrT; kernel_rfl) ho5 hw28 (by omega) (by have := hB5.size; omega) (by simp [eval_put, put_size, ks]) (by simp [eval_put, put_size, ks]) (fun v' w6 ho6 hg6 => ?_)
      have hB6 := below_own hB5 ho5 (Nat.le_refl _) hg6
      rw [← hrq] at ho6
      replace ho6 := Lib.hid ho6
      subst ha0
      clear k5 k2 k1 k6 ks hl5 hl5' hl55 ho5 hg6 hB5 PP ho
      simp only [Act.put, List.setIfInBounds_toArray, List.set_cons_succ, List.set_cons_zero]
      go_wp2_with (fail)
      go_roundg (m - k)
      case measure => go_light; rw [hkg.out]; omega
      case rel => go_light; exact ⟨k + 1, by first | rfl | rw [e3.out, hk2.out] | rw [e3.out], by omega, by omega, ho6.out, hB6⟩
    · obtain rfl : k = m := by omega
      have qlt : (((2 * k : Nat) : Int) < (n : Int)) = False := eq_false (by omega)
      go_wp2_with (fail)
      go_returns
      go_light
      exact ⟨⟨_, rfl, ho.base (by have := hB1.size; omega)⟩, below_next' (hG ▸ hB1) hl⟩
theorem nodeN_size (seed : ByteArray) : ∀ h k, (nodeN seed h k).size = 32
  | 0, k => shaN_size _
  | h + 1, k => shaN_size _
set_option maxHeartbeats 4000000 in
set_option maxRecDepth 100000 in
theorem public_calls (seed : ByteArray) (hs : seed.size ≤ 1048576) (w : World) :
    Calls Try.prog 39 #[.agg (arr .u32 (K64 ++ H8.L)), .string seed] w fun e w' => e = .returned (.string (nodeN seed 3 0)) ∧ Below w.heap.size w w' := by
  have hsz : (Try.prog.info? 31).map (·.size) = some (arr .u32 (K64 ++ H8.L)).size := by kernel_rfl
  have LC := fun w => leaves3_calls seed hs w
  have UC := fun (h m : Nat) (hm : m ≤ 8) (A : Option Addr) (cap : Nat) (w : World) h2 h3 => up_calls (nodeN seed h) (fun i => by rw [nodeN_size]; decide) m hm A cap w h2 h3
  have hnode : ∀ h, (fun i => pairO (nodeN seed h (2 * i)) (nodeN seed h (2 * i + 1))) = nodeN seed (h + 1) := fun h => rfl
  simp only [hnode] at UC
  generalize nodeN seed = ND at *
  generalize arr .u32 (K64 ++ H8.L) = tb at *
  have h1 := Whole.new w 31 tb
  have hB1 : Below w.heap.size w (w.alloc (.cells tb 31)) := by go_grown
  replace LC := Lib.hid LC
  replace UC := Lib.hid UC
  clear hnode
  go_enter Try.func39, Try.ntmps39
  go_upto_region 1 with (fail)
  generalize hG : w.heap.size = G at *
  generalize w.alloc (.cells tb 31) = W1 at *
  go_wp2_with (first | ((with_reducible apply wl_loadW (ty := 31) h1 Try.underlying31); rfl; rfl; rfl; exact hsz) | ((with_reducible refine (LC.out _).mono ?_); rintro e w2 ⟨⟨v, rfl, hv⟩, hb2⟩))
  obtain ⟨A0, c0, rfl, hc0, hR0⟩ := textRow_read hv (by simp)
  simp only [List.length_map, List.length_range] at hc0
  clear hv
  try simp only [List.length_map, List.length_range]
  go_wp2_with (fail)
  go_loopg [5] 9 (fun kg x wr => ∃ (h n : Nat) (A : Option Addr) (c : Nat), x = .slice A n c ∧ n ≤ c ∧ n * 2 ^ h = 8 ∧ h ≤ 3 ∧ kg = n + 1 ∧ Kn.str.Rows wr A ((List.range n).map (ND h)) ∧ Later W1 wr)
  case atStart => exact ⟨0, 8, A0, c0, rfl, hc0, rfl, by omega, rfl, hR0, hb2⟩
  case round =>
    clear hR0 hc0 hb2
    obtain ⟨h, n, A, c, rfl, hc, hn, hh, hkg, hr, hl⟩ := hrel
    replace hkg := Lib.hid hkg
    by_cases hlt : 1 < n
    · obtain ⟨m, rfl, hm⟩ : ∃ m, n = 2 * m ∧ m * 2 ^ (h + 1) = 8 := by
        match h, hh with
        | 0, _ => exact ⟨4, by omega, by decide⟩
        | 1, _ => exact ⟨2, by omega, by decide⟩
        | 2, _ => exact ⟨1, by omega, by decide⟩
        | 3, _ => omega
      have hh2 : h + 1 ≤ 3 := by
        rcases Nat.lt_or_ge h 3 with h' | h'
        · omega
        · obtain rfl : h = 3 := by omega
          omega
      have hm8 : m ≤ 8 := by
        have : m * 1 ≤ m * 2 ^ (h + 1) := Nat.mul_le_mul_left m (Nat.one_le_two_pow)
        omega
      have UU := fun w (hW : Later wr w) => UC.out h m hm8 A c w hc (hr.below hW)
      generalize h + 1 = h' at *
      replace UU := Lib.hid UU
      replace hn := Lib.hid hn
      replace hm := Lib.hid hm
      replace hr := Lib.hid hr
      have hT := Later.whole hl h1
      have q1 : ((1 : Int) < ((2 * m : Nat) : Int)) = True := eq_true (by omega)
      have q1' : (1 < 2 * m) = True := eq_true hlt
      generalize hn2 : 2 * m = n2 at *
      replace hn2 := Lib.hid hn2
      go_wp2_with (first | ((with_reducible apply wl_loadW (ty := 31) hT Try.underlying31); rfl; rfl; rfl; exact hsz) | ((with_reducible refine (UU.out _ (Later.refl _)).mono ?_); rintro e w3 ⟨⟨v, rfl, hv⟩, hb3⟩))
      obtain ⟨A3, c3, hv3, hc3, hR3⟩ := textRow_read hv (by simp; omega)
      simp only [List.length_map, List.length_range] at hc3 hv3
      subst hv3
      clear hv
      have hln := Later.trans hl hb3
      go_roundg (m + 1)
      case measure => go_light; rw [hkg.out]; have := hn2.out; omega
      case rel => go_light; exact ⟨h', m, A3, c3, rfl, hc3, hm.out, hh2, rfl, hR3, hln⟩
    · obtain rfl : n = 1 := by
        rcases Nat.eq_zero_or_pos n with h0 | h0
        · subst h0; omega
        · omega
      obtain rfl : h = 3 := by
        match h, hh with
        | 0, _ => omega
        | 1, _ => omega
        | 2, _ => omega
        | 3, _ => rfl
      obtain ⟨ad, rfl, hadl, cc⟩ := rows_at hr (i := 0) (by omega)
      have ha : ad.add 0 = ad := by unfold Addr.add; split <;> simp_all
      rw [ha] at cc
      clear ha hr
      go_wp2_with (fail)
      go_returns
      go_light
      exact ⟨rfl, by first | exact below_next' (hG ▸ hB1) hl | (subst hG; exact below_next' hB1 hl)⟩
end Go.Proofs.Yteipcmbbonfklaa
