/- The program's tree: the root of hashes. Conditions: texts of at most 1000 bytes, at most 2^20 of them. -/
import Derived.Test.YtfkafejoacpclaaMerk1
namespace Go.Proofs.Ytfkafejoacpclaa
open Go.RowKit
set_option linter.unusedVariables false
set_option linter.unusedSimpArgs false
theorem rows_take {w : World} {A : Option Addr} {l : List ByteArray} (h : Kn.str.Rows w A l) (k : Nat) : Kn.str.Rows w A (l.take k) := by
  refine ⟨by have := h.1; rw [List.length_take]; omega, fun hp => ?_⟩
  obtain ⟨ad, e, hlt, hc⟩ := h.2 (by rw [List.length_take] at hp; omega)
  refine ⟨ad, e, hlt, fun j x hx => hc j x ?_⟩
  rw [List.getElem?_take] at hx
  split at hx
  · exact hx
  · cases hx
theorem rows_drop {w : World} {ad : Addr} {l : List ByteArray} (h : Kn.str.Rows w (some ad) l) {k : Nat} (hk : k < l.length) : Kn.str.Rows w (some (ad.add k)) (l.drop k) := by
  refine ⟨by have := h.1; rw [List.length_drop]; omega, fun hp => ?_⟩
  obtain ⟨ad', e, hlt, hc⟩ := h.2 (by omega)
  obtain rfl := Option.some.inj e
  refine ⟨ad.add k, rfl, by rw [Go.Proofs.Ytfkafejoacpclaa.block_add]; exact hlt, fun j x hx => ?_⟩
  rw [List.getElem?_drop] at hx
  obtain ⟨c, hK, hcell⟩ := hc (k + j) x hx
  refine ⟨c, hK, fun i u hu => ?_⟩
  rw [Go.Deep.add_add]
  have := hcell i u hu
  have e1 : Kn.str.sz = 1 := rfl
  rw [e1, Nat.mul_one] at this ⊢
  rw [← Nat.add_assoc]
  exact this
theorem shaN_32 (s : ByteArray) : (shaN s).size = 32 := by simp only [shaN, outB_size, flat_size]; rfl
theorem rootN_size {l : List ByteArray} (h : ∀ x ∈ l, x.size ≤ 1000) : (rootN l).size ≤ 1000 := by
  rw [rootN]
  split
  · split
    · rw [shaN_32]; decide
    · rename_i h1 h2
      cases l with
      | nil => simp at h2
      | cons x r => exact h x (by simp)
  · unfold pairN
    rw [shaN_32]
    decide
set_option maxHeartbeats 2000000 in
set_option maxRecDepth 100000 in
theorem root_calls : ∀ (n : Nat) (l : List ByteArray) (A : Option Addr) (cap : Nat) (w : World), l.length = n → n ≤ 1048576 → n ≤ cap → (∀ x ∈ l, x.size ≤ 1000) → Kn.str.Rows w A l →
    Calls Try.prog 19 #[.agg (arr .u32 (K64 ++ H8.L)), .slice A n cap] w fun e w' => e = .returned (.string (rootN l)) ∧ Below w.heap.size w w' := by
  intro n
  induction n using Nat.strongRecOn with
  | _ n ih =>
    intro l A cap w hn hn20 hcap h1000 hr
    have SS := fun w => shaSum_calls ⟨#[]⟩ (by decide) w
    have hsz : (Try.prog.info? 29).map (·.size) = some (arr .u32 (K64 ++ H8.L)).size := by kernel_rfl
    have PC := fun (a b : ByteArray) (ha : a.size ≤ 1000) (hb : b.size ≤ 1000) w => pair_calls a b (by omega) (by omega) w
    generalize arr .u32 (K64 ++ H8.L) = tb at *
    have h1 := Whole.new w 29 tb
    have hB1 : Below w.heap.size w (w.alloc (.cells tb 29)) := by go_grown
    replace SS := Lib.hid SS
    replace PC := Lib.hid PC
    replace ih := Lib.hid ih
    by_cases h0 : n = 0
    · subst h0
      obtain rfl : l = [] := List.length_eq_zero_iff.1 hn
      rw [rootN_nil]
      clear ih hr
      go_enter Try.func19, Try.ntmps19
      go_wp2_with (first | ((with_reducible apply wl_loadW (ty := 29) h1 Try.underlying29); rfl; rfl; rfl; exact hsz) | ((with_reducible refine (SS.out _).mono ?_); rintro e w2 ⟨rfl, hb2⟩; replace hB1 := below_next' hB1 hb2))
      go_returns
      go_light
      exact ⟨rfl, hB1⟩
    · have q0 : ((n : Int) == 0) = false := by rw [beq_eq_false_iff_ne]; omega
      by_cases h1' : n = 1
      · subst h1'
        obtain ⟨x, rfl⟩ : ∃ x, l = [x] := List.length_eq_one_iff.1 hn
        obtain ⟨ad, rfl, hadlt, e0⟩ := Kn.Rows.one_ hr (k := 0) (by simp)
        have ha : ad.add 0 = ad := by unfold Addr.add; split <;> simp_all
        have e1 : (w.alloc (.cells tb 29)).cell? ad = some (.string x) := by rw [← ha]; exact cell_keep e0 hB1
        have hx : rootN [x] = x := rootN_one rfl
        rw [hx]
        clear ih hr hx
        go_enter Try.func19, Try.ntmps19
        clear ha e0
        go_wp2_with (fail)
        go_returns
        go_light
        exact ⟨rfl, hB1⟩
      · have q1 : ((n : Int) == 1) = false := by rw [beq_eq_false_iff_ne]; omega
        obtain ⟨k1, k2⟩ := sp_lt (n := n) (by omega)
        have SP := fun w => split_calls n (by omega) w
        have hroot := rootN_two (l := l) (by omega)
        rw [hn] at hroot
        obtain ⟨ad, rfl, -, -⟩ := Kn.Rows.one_ hr (k := 0) (by omega)
        generalize sp n = k at *
        have hr1 := rows_take hr k
        have hr2 := rows_drop hr (k := k) (by omega)
        have z1 : ∀ x ∈ l.take k, x.size ≤ 1000 := fun x hx => h1000 x (List.mem_of_mem_take hx)
        have z2 : ∀ x ∈ l.drop k, x.size ≤ 1000 := fun x hx => h1000 x (List.mem_of_mem_drop hx)
        have I1 := fun W hW => ih.out k k2 (l.take k) (some ad) cap W (by rw [List.length_take]; omega) (by omega) (by omega) z1 hW
        have I2 := fun W hW => ih.out (n - k) (by omega) (l.drop k) (some (ad.add k)) (cap - k) W (by rw [List.length_drop]; omega) (by omega) (by omega) z2 hW
        have PP := fun W => PC.out (rootN (l.take k)) (rootN (l.drop k)) (rootN_size z1) (rootN_size z2) W
        rw [← hroot] at PP
        generalize rootN (l.take k) = x1 at *
        generalize rootN (l.drop k) = x2 at *
        generalize rootN l = X at *
        clear ih PC SS hroot z1 z2 h1000 hr
        replace SP := Lib.hid SP
        replace I1 := Lib.hid I1
        replace I2 := Lib.hid I2
        replace PP := Lib.hid PP
        replace hr1 := Lib.hid (hr1.below hB1)
        replace hr2 := Lib.hid (hr2.below hB1)
        have b1 : ((k : Int) ≤ cap) = True := eq_true (by omega)
        have b2 : ((k : Int) ≤ n) = True := eq_true (by omega)
        have b3 : ((n : Int) ≤ cap) = True := eq_true (by omega)
        have hck : ¬ cap = k := by omega
        have hck' : (cap = k) = False := eq_false hck
        have hck2 : ¬ ((cap : Int) = (k : Int)) := by omega
        go_enter Try.func19, Try.ntmps19
        go_upto_region 7 with ((with_reducible refine (SP.out _).mono ?_); rintro e w4 ⟨rfl, rfl⟩)
        generalize hG : w.heap.size = G at *
        generalize w.alloc (.cells tb 29) = W1 at *
        refine wp_region_grow 12 32 (by kernel_rfl) (by kernel_rfl) rfl (fun w4 hl4 => ?_)
        simp only [List.take_succ_cons, List.take_zero, List.drop_succ_cons, List.drop_zero]
        generalize ha : Act.mk _ _ = a0
        have k1 : a0.eval (.tmp 1) = .slice (some ad) n cap := by subst ha; rfl
        have k2 : a0.eval (.tmp 2) = .pointer (some ⟨G, 0, none⟩) := by subst ha; rfl
        have k5 : a0.eval (.tmp 5) = .int .i64 (k : Int) := by subst ha; rfl
        have ks : a0.tmps.size = 32 := by subst ha; rfl
        have ha0 := ha.symm
        clear ha
        refine wpG_loadW (hl4.whole h1) Try.underlying29 rfl (hsz) (fun a w hk => (hk 2 rfl : a.eval (.tmp 2) = a0.eval (.tmp 2)).trans k2) ?_
        refine wpG_loadW (hl4.whole h1) Try.underlying29 rfl (hsz) (fun a w hk => (hk 2 rfl : a.eval (.tmp 2) = a0.eval (.tmp 2)).trans k2) ?_
        refine wpG_move (fun a w hk => (hk 1 rfl : a.eval (.tmp 1) = a0.eval (.tmp 1)).trans k1) ?_
        refine wpG_move (fun a w hk => (hk 5 rfl : a.eval (.tmp 5) = a0.eval (.tmp 5)).trans k5) ?_
        apply wpG_value'
        · rfl
        · (intro a wx hlx hk K hK; have e22 : a.eval (.tmp 22) = _ := hk 22 rfl; have e23 : a.eval (.tmp 23) = _ := hk 23 rfl; simp only [execOp, resolve, List.map_toArray, List.map_cons, List.map_nil, Option.map_some, Option.map_none, e22, e23]; clear e22 e23 hk; go_simp; exact hK)
        refine wpG_call _ _ Try.func19 (by kernel_rfl) (by kernel_rfl) (fun W hW => I1.out W (hr1.out.below (hl4.trans hW))) (fun a w hk => by have e21 : a.eval (.tmp 21) = _ := hk 21 rfl; have e24 : a.eval (.tmp 24) = _ := hk 24 rfl; simp [e21, e24]) ?_
        refine wpG_loadW (hl4.whole h1) Try.underlying29 rfl (hsz) (fun a w hk => (hk 2 rfl : a.eval (.tmp 2) = a0.eval (.tmp 2)).trans k2) ?_
        refine wpG_move (fun a w hk => (hk 1 rfl : a.eval (.tmp 1) = a0.eval (.tmp 1)).trans k1) ?_
        refine wpG_move (fun a w hk => (hk 5 rfl : a.eval (.tmp 5) = a0.eval (.tmp 5)).trans k5) ?_
        apply wpG_value'
        · rfl
        · (intro a wx hlx hk K hK; have e27 : a.eval (.tmp 27) = _ := hk 27 rfl; have e28 : a.eval (.tmp 28) = _ := hk 28 rfl; simp only [execOp, resolve, List.map_toArray, List.map_cons, List.map_nil, Option.map_some, Option.map_none, e27, e28]; clear e27 e28 hk; go_simp; exact hK)
        refine wpG_call _ _ Try.func19 (by kernel_rfl) (by kernel_rfl) (fun W hW => I2.out W (hr2.out.below (hl4.trans hW))) (fun a w hk => by have e26 : a.eval (.tmp 26) = _ := hk 26 rfl; have e29 : a.eval (.tmp 29) = _ := hk 29 rfl; simp [e26, e29]) ?_
        refine wpG_call _ _ Try.func61 (by kernel_rfl) (by kernel_rfl) (fun W _ => PP.out W) (fun a w hk => by have e20 : a.eval (.tmp 20) = _ := hk 20 rfl; have e25 : a.eval (.tmp 25) = _ := hk 25 rfl; have e30 : a.eval (.tmp 30) = _ := hk 30 rfl; simp [e20, e25, e30]) ?_
        refine wpG_nil (fun w4' hl4' => ?_)
        refine fin_is ?_
        refine fin_is ?_
        refine fin_is ?_
        refine fin_is ?_
        refine fin_is ?_
        refine fin_is ?_
        refine fin_is ?_
        refine fin_is ?_
        refine fin_is ?_
        refine fin_is ?_
        refine fin_is ?_
        refine fin_is ?_
        refine fin_nil ?_
        subst ha0
        clear k1 k2 k5 ks
        go_wp2_with (fail)
        go_returns
        go_light
        subst hG
        exact ⟨rfl, below_next' hB1 (hl4.trans hl4')⟩
end Go.Proofs.Ytfkafejoacpclaa
