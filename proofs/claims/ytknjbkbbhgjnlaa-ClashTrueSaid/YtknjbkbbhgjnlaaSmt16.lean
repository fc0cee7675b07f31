/- Package smt: items of a map. Conditions: at most 2^20 entries, keys of at most 2^30 bytes. -/
import Derived.Test.YtknjbkbbhgjnlaaSmtMap
import Derived.Test.YtknjbkbbhgjnlaaSmt2
import Derived.Test.YtknjbkbbhgjnlaaSmtPart
namespace Go.Proofs.Ytknjbkbbhgjnlaa
open Go.RowKit
set_option linter.unusedVariables false
set_option linter.unusedSimpArgs false
def ItemsAt (w w' : World) (e : Ending) (f : ByteArray → Option ByteArray) (n : Nat) : Prop := ∃ (A : Option Addr) (q : List KV) (c : Nat), e = .returned (.slice A q.length c) ∧ q.length ≤ c ∧ q.length ≤ n ∧ Listed f q ∧ IK.Rows w' A q ∧ Later w w'
set_option maxHeartbeats 2000000 in
set_option maxRecDepth 100000 in
theorem items_calls (b n : Nat) (f : ByteArray → Option ByteArray) (w : World) (hm : MapW w b n f) (hn : n ≤ 1048576) (hsm : ∀ k v, f k = some v → k.size ≤ 1073741824) :
    Calls Try.prog 57 #[.agg (arr .u32 (K64 ++ H8.L)), .map (some b)] w fun e w' => ItemsAt w w' e f n := by
  have hsz := tb_size
  have CP0 := fun x h W => spath_calls x h W
  have KS := Maps.string_keyed (P := Try.prog) (k := 9) Try.underlying9
  generalize arr .u32 (K64 ++ H8.L) = tb at *
  have hB : Later w (w.alloc (.cells tb 29)) := (Later.refl w).alloc _
  have h1 := Whole.new w 29 tb
  replace hm := hm.later hB
  obtain ⟨D, hown, hf⟩ := hm
  have hfit : Maps.size D ≤ n := hown.size_le
  have hbr := hown.lt
  replace CP0 := Lib.hid CP0
  replace hsm := Lib.hid hsm
  replace hf := Lib.hid hf
  go_enter Try.func57, Try.ntmps57
  go_upto_region 1 with (fail)
  generalize w.alloc (.cells tb 29) = W1 at *
  go_wp2_with (at_range; refine wpList_range_own _ rfl _ 36 rfl 9 9 KS Try.underlying36 _ b n D rfl hown ?_; intro w2 hrg hg hs2)
  go_frame
  have hl2 : Later W1 w2 := ⟨hg.os, hg.tape, hg.output, hg.size, fun i hi => hg.block i hi (by simp)⟩
  have hwr : w.heap.size ≤ W1.heap.size := hB.size
  have hwr' : w.heap.size < W1.heap.size := h1.lt
  replace hB := hB.trans hl2
  replace h1 := Later.whole hl2 h1
  generalize W1.heap.size = r at *
  have s0 : SRow 147 3 (r + 1) ItemV ([] : List KV) (.slice none 0 0) w2 := SRow.nil _ _ _ _ _
  clear hl2 hg hs2
  go_loopg [5, 6, 7] (Maps.size D + 1) (fun kg o kv vv wr => ∃ (left : Lit → Bool) (cnt : Nat) (q : List KV), kg = cnt + 1 ∧ wr.ranges Try.prog 9 (plainElem Try.prog 9) b r n D left cnt ∧ Come D left q ∧ q.length + cnt ≤ n ∧ SRow 147 3 (r + 1) ItemV q o wr ∧ Whole wr w.heap.size 29 tb ∧ Later w wr)
  case atStart => exact ⟨_, _, [], rfl, hrg, Come.start D, by simpa using hfit, s0, h1, hB⟩
  case round =>
    clear s0 hrg h1 hB
    obtain ⟨left, cnt, q, hkg, hrg, hcome, hqn, ho, h1, hB⟩ := hrel
    replace hkg := Lib.hid hkg
    replace hcome := Lib.hid hcome
    go_wp2_with (at_next; refine wl_nextSS _ rfl _ rfl 9 9 KS Try.underlying9 Try.underlying9 b r n _ _ _ rfl hrg ?_ ?_)
    · intro hc0 hl0
      have hls := hcome.out.done hl0 hf.out
      obtain ⟨A, c, rfl, hc, hR⟩ := ho.rows IK rfl (fun _ => rfl) IK.K_mk (by omega)
      replace hls := Lib.hid hls
      go_wp2_with (fail)
      go_returns
      go_light
      exact ⟨A, q, c, rfl, hc, by omega, hls.out, hR, hB⟩
    · intro x c w3 cnt3 hxs hcs hlx hat hrg3 hlt3 hg3 hs3 hen
      have hcome' := hcome.out.step hlx hat
      have hx := hsm.out x c (hf.out.at_ hat)
      have CP := fun W => CP0.out x hx W
      replace h1 := Whole.only h1 hg3 (fun q => by have := Option.some.inj q; omega)
      replace hB := below_only' hB hg3 (by omega)
      have hon : ∀ g, (r + 1 ≤ g) → g ≠ r := fun g h => by omega
      replace ho : SRow 147 3 (r + 1) ItemV q _ w3 := World.ownsRow.kept ho hg3 (by
        cases hv : Value.ownBlock _ with
        | none => exact .inl rfl
        | some g => exact .inr (fun e => by have := (World.ownsRow.lt ho g hv).1; have := Option.some.inj e; omega))
      have hql : q.length ≤ 1048576 := by omega
      replace hcome' := Lib.hid hcome'
      replace CP := Lib.hid CP
      clear hcome hat hlx hrg
      go_wp2_with (first | ((with_reducible apply wl_loadW (ty := 29) h1 Try.underlying29); rfl; rfl; rfl; exact hsz) | ((with_reducible refine (CP.out _).mono ?_); rintro e w4 ⟨rfl, hl4⟩; replace h1 := Later.whole hl4 h1; replace hB := Later.trans hB hl4; replace ho := SRow.later _ _ _ hl4 ho; replace hrg3 := ranges_later hrg3 hl4) | (at_builtin; refine wl_appendR (f := ItemV) (s := (x, c)) Try.underlying110 (z := .agg #[.string ⟨#[]⟩, .string ⟨#[]⟩, .string ⟨#[]⟩]) (by_ := 48) (by kernel_rfl) rfl (by decide) (by decide) (SRow.later _ _ _ ((Later.refl _).alloc _) ho) (Whole.new _ _ _) rfl (ItemV_one (x, c)) hql (by have := hrg3.lt; go_size) rfl rfl (fun v5 w5 ho5 hg5 => ?_)))
      have A4 := SRow.later _ _ _ ((Later.refl w4).alloc (.cells (ItemV (x, c)).toArray 147)) ho
      have hB5 := below_own (Below.alloc hB hB.size (.cells (ItemV (x, c)).toArray 147)) A4 (by omega) hg5
      have h15 := Whole.only (h1.alloc (.cells (ItemV (x, c)).toArray 147)) hg5 (fun q => by have := (World.ownsRow.lt A4 _ q.symm).1; omega)
      have hrg5 := (hrg3.alloc (.cells (ItemV (x, c)).toArray 147)).kept hg5 (fun q => by have := (World.ownsRow.lt A4 _ q.symm).1; omega) (fun q => by have := (World.ownsRow.lt A4 _ q.symm).1; omega)
      go_wp2_with (fail)
      go_roundg (cnt3 + 1)
      case measure => go_light; rw [hkg.out]; omega
      case rel => go_light; exact ⟨_, cnt3, q ++ [(x, c)], rfl, hrg5, hcome'.out, by simp; omega, ho5, h15, hB5⟩
end Go.Proofs.Ytknjbkbbhgjnlaa
