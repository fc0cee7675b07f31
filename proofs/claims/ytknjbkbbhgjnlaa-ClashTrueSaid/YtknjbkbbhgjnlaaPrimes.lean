/- The program's primes: an iterator that never ends by itself. No conditions. -/
import Derived.Test.YtknjbkbbhgjnlaaRangeB
import Derived.RangeFuncBox
import Derived.RangeFuncLeaves
import Derived.Shelf.Abstract
import Derived.WalkKit
import Derived.OwnWalkIn
import Derived.TacticsInMore
import Derived.LoopNIn
import Derived.LoopIn
namespace Go.Proofs.Ytknjbkbbhgjnlaa
open Go.RowKit
set_option linter.unusedVariables false
set_option linter.unusedSimpArgs false
attribute [local go_sem] Oper.semAt_some
def PR : List Nat := [2, 3, 5, 7, 11, 13, 17, 19, 23, 29, 31, 37, 41, 43, 47, 53, 59, 61, 67, 71, 73, 79, 83, 89, 97, 101, 103, 107, 109, 113, 127, 131, 137, 139, 149, 151, 157, 163, 167, 173, 179, 181, 191, 193, 197, 199, 211, 223, 227, 229, 233, 239, 241, 251, 257, 263, 269, 271, 277, 281, 283, 293, 307, 311, 313]
def cntP (n : Nat) : Nat := (PR.filter fun p => Nat.blt p n).length
def noDiv (l : List Nat) (n : Nat) : Bool := l.all fun p => !(n % p == 0)
def prOK (m : Nat) : Bool :=
  Nat.ble (cntP m) 64 && ((noDiv (PR.take (cntP m)) m && (PR.getD (cntP m) 0 == m) && (cntP (m + 1) == cntP m + 1) && (Nat.blt m 313 || cntP m == 64)) || (!noDiv (PR.take (cntP m)) m && (cntP (m + 1) == cntP m) && Nat.blt m 313))
theorem prAll : ((List.range 312).all fun i => prOK (i + 2)) = true := by kernel_rfl
theorem pr_ok {m : Nat} (h2 : 2 ≤ m) (h3 : m ≤ 313) : cntP m ≤ 64 ∧ ((noDiv (PR.take (cntP m)) m = true ∧ PR.getD (cntP m) 0 = m ∧ cntP (m + 1) = cntP m + 1 ∧ (m < 313 ∨ cntP m = 64)) ∨ (noDiv (PR.take (cntP m)) m = false ∧ cntP (m + 1) = cntP m ∧ m < 313)) := by
  have := List.all_eq_true.1 prAll (m - 2) (by simp; omega)
  rw [show m - 2 + 2 = m by omega] at this
  unfold prOK at this
  rw [Bool.and_eq_true] at this
  obtain ⟨h1, h⟩ := this
  refine ⟨Nat.le_of_ble_eq_true h1, ?_⟩
  rcases Bool.or_eq_true_iff.1 h with h | h
  · simp only [Bool.and_eq_true, beq_iff_eq, Bool.or_eq_true] at h
    obtain ⟨⟨⟨a, b⟩, c⟩, d⟩ := h
    refine .inl ⟨a, b, c, ?_⟩
    rcases d with d | d
    · exact .inl (by rw [Nat.blt_eq] at d; exact d)
    · exact .inr d
  · simp only [Bool.and_eq_true, beq_iff_eq, Bool.not_eq_true'] at h
    obtain ⟨⟨a, b⟩, c⟩ := h
    exact .inr ⟨a, b, by rw [Nat.blt_eq] at c; exact c⟩
theorem PR_pos : ∀ p ∈ PR, 0 < p ∧ p < 314 := by decide
theorem PR_get (k : Nat) (hk : k < 65) : 0 < PR.getD k 0 ∧ PR.getD k 0 < 314 := by
  have hl : k < PR.length := hk
  rw [List.getD_eq_getElem?_getD, List.getElem?_eq_getElem hl]
  exact PR_pos _ (List.getElem_mem hl)
def prV (k : Nat) : List Value := (PR.take k).map fun (p : Nat) => Value.int .u64 (p : Int)
theorem prV_len {k : Nat} (hk : k ≤ 65) : (prV k).length = k := by
  have hl : PR.length = 65 := rfl
  simp [prV, hl]; omega
theorem prV_get {j k : Nat} (hj : j < k) (hk : k ≤ 65) : (prV k)[j]? = some (.int .u64 ((PR.getD j 0 : Nat) : Int)) := by
  have hl : j < PR.length := by show j < 65; omega
  unfold prV
  rw [List.getElem?_map, List.getElem?_take, if_pos hj, List.getD_eq_getElem?_getD, List.getElem?_eq_getElem hl]
  rfl
theorem prV_succ {k : Nat} (hk : k < 65) : prV k ++ [.int .u64 ((PR.getD k 0 : Nat) : Int)] = prV (k + 1) := by
  have hl : k < PR.length := hk
  unfold prV
  rw [List.take_add_one, List.map_append, List.getD_eq_getElem?_getD, List.getElem?_eq_getElem hl]
  rfl
theorem noDiv_iff {k n : Nat} (hk : k ≤ 65) : noDiv (PR.take k) n = true ↔ ∀ j, j < k → n % PR.getD j 0 ≠ 0 := by
  have hl : PR.length = 65 := rfl
  unfold noDiv
  rw [List.all_eq_true]
  constructor
  · intro h j hj
    have hjl : j < (PR.take k).length := by rw [List.length_take, hl]; omega
    have := h _ (List.getElem_mem hjl)
    rw [List.getElem_take] at this
    rw [List.getD_eq_getElem?_getD, List.getElem?_eq_getElem (by omega)]
    simpa using this
  · intro h p hp
    obtain ⟨j, hj, rfl⟩ := List.getElem_of_mem hp
    have hjk : j < k := by rw [List.length_take, hl] at hj; omega
    have := h j hjk
    rw [List.getD_eq_getElem?_getD, List.getElem?_eq_getElem (by omega)] at this
    rw [List.getElem_take]
    simpa using this
theorem own_above {base : Nat} {W W' : World} {T : TypeId} {size : Nat} {v : Value} {n : Nat} {xs : List Value} (h : W.ownsRow base T size v n xs) (ha : Above base W W') : W'.ownsRow base T size v n xs := by
  refine ⟨h.1, ?_⟩
  rcases h.2 with h | ⟨g, cap, cur, hv, hb, hg, rest⟩
  · exact .inl h
  · exact .inr ⟨g, cap, cur, hv, hb, (ha.2 g hb (Array.getElem?_eq_some_iff.1 hg).1).trans hg, rest⟩
theorem own_slice {base : Nat} {W : World} {T : TypeId} {size : Nat} {v : Value} {n : Nat} {xs : List Value} (h : W.ownsRow base T size v n xs) : ∃ A cap, v = .slice A n cap := by
  rcases h.2 with ⟨rfl, rfl⟩ | ⟨g, cap, cur, rfl, _⟩
  · exact ⟨_, _, rfl⟩
  · exact ⟨_, _, rfl⟩
theorem info64 : (Try.prog.info? 105).map (fun i => (i.zero, i.size, i.bytes)) = some (some (.int .u64 0), 1, 8) := by kernel_rfl
set_option maxRecDepth 100000 in
set_option maxHeartbeats 4000000 in
theorem primes_seq (n : Nat) : SeqB Fence.wide n Try.prog 86 #[] (fun k => #[.int .u64 ((PR.getD k 0 : Nat) : Int)]) 64 := by
  intro l J Jx W hJ hJx hY h0
  obtain ⟨i0, hi, hz0, hz1, hz2⟩ := info_parts info64
  have hro : Fence.wide.round = none := rfl
  obtain ⟨B, hB⟩ : ∃ B, W.heap.size = B := ⟨_, rfl⟩
  rw [hB] at hJ hJx hY
  refine callsIn_of_wp Try.func86 rfl trivial ?_ hro
  simp only [Try.ntmps86, List.size_toArray, List.length_cons, List.length_nil, Nat.reduceAdd, Nat.reduceSub, Array.replicate_succ, Array.replicate_zero, List.push_toArray, List.append_toArray, List.nil_append, List.cons_append]
  gi_wp2
  refine wpIn_scope_straight ?_
  gi_wp2
  refine wpIn_label ?_
  gi_wp2
  gi_loopw [2, 3] (fun v n wr => ∃ m : Nat, 2 ≤ m ∧ m ≤ 313 ∧ n = .int .u64 m ∧ wr.ownsRow B 105 1 v (cntP m) (prV (cntP m)) ∧ B ≤ wr.heap.size ∧ J (cntP m) wr)
    (fun _ n _ => 400 - (intOf n).toNat)
  case atStart => exact ⟨2, Nat.le_refl _, by decide, rfl, World.ownsRow_nil _ _ _ _, by omega, h0⟩
  case round =>
    obtain ⟨m, hm2, hm3, rfl, hrow, hsz, hJs⟩ := hrel
    obtain ⟨hk64, hstep⟩ := pr_ok hm2 hm3
    obtain ⟨A, cap, rfl⟩ := own_slice hrow
    generalize hk : cntP m = k at *
    replace hstep := Lib.hid hstep
    replace hY := Lib.hid hY
    gi_wp2
    gi_loopw [10] (fun i wr2 => ∃ j : Nat, j ≤ k ∧ i = .int .i64 j ∧ (∀ q, q < j → m % PR.getD q 0 ≠ 0) ∧ wr2 = wr) (fun i _ => k - (intOf i).toNat)
    case atStart => exact ⟨0, Nat.zero_le _, rfl, fun q h => absurd h (by omega), rfl⟩
    case round =>
      obtain ⟨j, hj, rfl, hz, rfl⟩ := hrel
      replace hz := Lib.hid hz
      by_cases hlt : j < k
      · obtain ⟨hp0, hp1⟩ := PR_get j (by omega)
        obtain ⟨g, cp, hv⟩ : ∃ g cp, (Value.slice A k cap) = .slice (some ⟨g, 0, none⟩) k cp := by
          rcases hrow.2 with ⟨_, h0⟩ | ⟨g, cp, _, hv, _⟩
          · omega
          · exact ⟨g, cp, hv⟩
        simp only [Value.slice.injEq] at hv
        obtain ⟨rfl, _, rfl⟩ := hv
        have e0 : wr.cell? ⟨g, j, none⟩ = some (.int .u64 ((PR.getD j 0 : Nat) : Int)) := by
          have h5 := hrow.cells rfl j _ (prV_get hlt (by omega))
          have ha : (⟨g, 0, none⟩ : Addr).add j = ⟨g, j, none⟩ := by unfold Addr.add; split <;> simp_all
          rw [← ha]
          exact h5
        by_cases hd : m % PR.getD j 0 = 0
        · have hstep' : cntP (m + 1) = k ∧ m < 313 := by
            rcases hstep.out with ⟨h, _⟩ | ⟨_, h1, h2⟩
            · exact absurd hd ((noDiv_iff (by omega)).1 h j hlt)
            · exact ⟨h1, h2⟩
          replace hstep' := Lib.hid hstep'
          generalize PR.getD j 0 = p at *
          have hp0' : ((p : Int) = 0) = False := eq_false (by omega)
          have hd' : ((m : Int) % p == 0) = true := by rw [beq_iff_eq]; omega
          clear hd
          gi_wp2
          go_roundw
          case rel => exact ⟨m + 1, by omega, by have := hstep'.out.2; omega, by go_num, by rw [hstep'.out.1]; exact hrow, hsz, by rw [hstep'.out.1]; exact hJs⟩
          case measure => simp [intOf]; omega
        · generalize hp : PR.getD j 0 = p at *
          have hp0' : ((p : Int) = 0) = False := eq_false (by omega)
          have hd' : ((m : Int) % p == 0) = false := by rw [beq_eq_false_iff_ne]; omega
          replace hp := Lib.hid hp
          replace hd := Lib.hid hd
          gi_wp2
          go_roundw
          case rel =>
            refine ⟨j + 1, by omega, by go_num, fun q hq => ?_, by trivial⟩
            by_cases hq' : q < j
            · exact hz.out q hq'
            · obtain rfl : q = j := by omega
              rw [hp.out]
              exact hd.out
          case measure => simp [intOf]; omega
      · obtain rfl : j = k := by omega
        obtain ⟨hm, hn1, hle⟩ : PR.getD j 0 = m ∧ cntP (m + 1) = j + 1 ∧ (m < 313 ∨ j = 64) := by
          rcases hstep.out with ⟨_, h1, h2, h3⟩ | ⟨h, _⟩
          · exact ⟨h1, h2, h3⟩
          · rw [(noDiv_iff (by omega)).2 hz.out] at h
            cases h
        replace hn1 := Lib.hid hn1
        have hmx : j + 1 ≤ maxLen := Nat.le_trans (Nat.succ_le_succ hk64) (by decide)
        have hsucc := prV_succ (k := j) (by omega)
        rw [hm] at hsucc
        replace hsucc := Lib.hid hsucc
        gi_wp2_with (gi_at_builtin; refine wpListIn_append_own _ rfl _ _ 141 rfl B 105 i0 (.int .u64 0) 1 8 Try.underlying141 hi hz0 hz1 hz2 rfl (by decide) _ _ _ rfl (hrow.alloc _) ⟨wr.heap.size, 0, none⟩ 1 1 [.int .u64 m] rfl rfl (cell_one_new _ _ _) (by simp [Value.oneCell']) hmx (by omega) (by simp; omega) ?_; intro v' w1 hown' hgrow _; rw [hsucc.out] at hown'; obtain ⟨g', cap', rfl⟩ := ownsRow_succ hown'; have hbw : Below B wr w1 := ((Below.refl B wr).alloc hsz _).grown hgrow (by simp; omega) (fun k e => (hrow.lt k e).1); obtain ⟨fn, tmps, assign, body, hy, hR⟩ := hY.out j w1 (by omega) (Nat.le_trans hsz hbw.size) (hJ _ _ _ hJs hbw); rw [hm] at hy)
        refine ⟨fun h => by simp [Fence.wide] at h, hR.mono ?_⟩
        rintro e W3 (⟨hk, rfl, hJ3, hab⟩ | ⟨rfl, hJx3⟩)
        · gi_wp2
          go_roundw
          case rel => exact ⟨m + 1, by omega, by omega, by go_num, by rw [hn1.out]; exact own_above hown' hab, Nat.le_trans (Nat.le_trans hsz hbw.size) hab.1, by rw [hn1.out]; exact hJ3⟩
          case measure => simp [intOf]; omega
        · gi_wp2
          rw [Exit.noGoto_ret]
          refine bodyPost_ret (results_none rfl _ _ _) rfl ?_
          exact ⟨⟨_, rfl⟩, hJx3⟩
end Go.Proofs.Ytknjbkbbhgjnlaa
