/- Layer 3's awake; the law OtsDigits, walked. No conditions. -/
import Derived.Test.YtfkafejoacpclaaOts2
import Derived.Laws.StructEq
namespace Go.Proofs.Ytfkafejoacpclaa
open Go.RowKit
set_option linter.unusedVariables false
set_option linter.unusedSimpArgs false
theorem run_equalIn_arr {P : Program} (w : World) (d : Nat) (t e : TypeId) (n : Nat) (k : IntKind) (ht : P.underlying t = some (.array n e)) (he : P.underlying e = some (.int k)) (hsz : ∀ w, (sizeOf e).run P w = .ok 1 w)
    (xs : List Nat) (hx : xs.length = n) : (Op.equalIn (d + 2) t (.agg (arr k xs)) (.agg (arr k xs))).run P w = .ok true w := by
  rw [Op.equalIn]
  simp only [Sem.run_bind, run_underlying ht, Result.andThen_ok, hsz, Std.Legacy.Range.forIn_eq_forIn_range', Std.Legacy.Range.size, Nat.sub_zero, Nat.add_sub_cancel, Nat.div_one]
  have hl : ∀ i ∈ List.range' 0 n 1, i < n := fun i hi => by simpa using (List.mem_range'_1.1 hi).2
  generalize List.range' 0 n 1 = l at hl ⊢
  induction l with
  | nil => simp
  | cons i l ih =>
    have hi : i < n := hl i (by simp)
    have px : (part e (arr k xs) (i * 1)).run P w = .ok (.int k ((xs.getD i 0 : Nat) : Int)) w := by
      simp [part, isAgg, run_underlying he, List.getD, arr, List.getElem?_eq_getElem (show i < xs.length by omega)]
    have pe : (Op.equalIn (d + 1) e (.int k ((xs.getD i 0 : Nat) : Int)) (.int k ((xs.getD i 0 : Nat) : Int))).run P w = .ok true w := by
      rw [run_equalIn_int w d e k k _ _ he]
      simp
    simp only [List.forIn_cons, Sem.run_bind, px, pe, Result.andThen_ok, Bool.not_true, Bool.false_eq_true, if_false, Sem.run_pure]
    exact ih fun j hj => hl j (by simp [hj])
set_option maxHeartbeats 1000000 in
set_option maxRecDepth 100000 in
theorem sign_bad (q : Int) (h : q < 0 ∨ 8 ≤ q) (seed msg : ByteArray) (w : World) :
    Calls Try.prog 37 #[.agg (arr .u32 (K64 ++ H8.L)), .string seed, .int .i64 q, .string msg] w fun e w' => e = .returned (.tuple #[.string ⟨#[]⟩, .int .i64 4]) ∧ Below w.heap.size w w' := by
  generalize arr .u32 (K64 ++ H8.L) = tb at *
  have hB1 : Below w.heap.size w (w.alloc (.cells tb 29)) := by go_grown
  by_cases h1 : q < 0
  · have q1 : (q < 0) = True := eq_true h1
    go_enter Try.func37, Try.ntmps37
    go_wp2_with (fail)
    go_returns
    go_light
    exact ⟨rfl, hB1⟩
  · have q1 : (q < 0) = False := eq_false h1
    have q2 : (8 ≤ q) = True := eq_true (by omega)
    go_enter Try.func37, Try.ntmps37
    go_wp2_with (fail)
    go_returns
    go_light
    exact ⟨rfl, hB1⟩
set_option maxHeartbeats 1000000 in
set_option maxRecDepth 100000 in
theorem awake03_calls (w : World) : Calls Try.prog 33 #[] w fun e w' => e = .returned (.bool true) ∧ Below w.heap.size w w' := by
  have M := fun w => make_calls w
  have IB := fun w => sign_bad 8 (.inr (by decide)) ⟨#[]⟩ ⟨#[]⟩ w
  generalize arr .u32 (K64 ++ H8.L) = tb at *
  replace M := Lib.hid M
  replace IB := Lib.hid IB
  go_enter Try.func33, Try.ntmps33
  go_wp2_with (first | ((with_reducible refine (M.out _).mono ?_); rintro e w2 ⟨rfl, hb2⟩) | ((with_reducible refine (IB.out _).mono ?_); rintro e w3 ⟨rfl, hb3⟩; replace hb2 := below_next' hb2 hb3))
  go_returns
  go_light
  exact ⟨rfl, hb2⟩
set_option maxHeartbeats 1000000 in
set_option maxRecDepth 100000 in
theorem otsDigits_calls (q : Nat) (hq : q < 256) (msg : ByteArray) (w : World) : Calls Try.prog 8 #[.int .u8 q, .string msg] w fun e w' => e = .returned (.bool true) ∧ Below w.heap.size w w' := by
  have AW := fun w => awake03_calls w
  replace AW := Lib.hid AW
  by_cases hs : msg.size ≤ 1000
  · have qs : ((1000 : Int) < msg.size) = False := eq_false (by omega)
    have M := fun w => make_calls w
    have DC := fun w => digits_calls q (by omega) msg (by omega) w
    have RC := fun w => refDigits_calls q (by omega) msg (by omega) w
    have wq : IntKind.i64.wrap (q : Int) = q := by simp [IntKind.wrap, IntKind.signed, IntKind.bits]; omega
    have hl : (dgsN q msg).length = 67 := dgsL_length _
    have heq : ∀ w, (Op.equalIn 10000 54 (.agg (arr .i64 (dgsN q msg))) (.agg (arr .i64 (dgsN q msg)))).run Try.prog w = .ok true w := fun w => run_equalIn_arr w 9998 54 3 67 .i64 Try.underlying54 Try.underlying3 (fun w => by kernel_rfl) _ hl
    generalize dgsN q msg = D at *
    generalize arr .u32 (K64 ++ H8.L) = tb at *
    replace M := Lib.hid M
    replace DC := Lib.hid DC
    replace RC := Lib.hid RC
    clear hl
    go_enter Try.func8, Try.ntmps8
    go_wp2_with (first | ((with_reducible refine (AW.out _).mono ?_); rintro e w1 ⟨rfl, hB1⟩) | ((with_reducible refine (M.out _).mono ?_); rintro e w2 ⟨rfl, hb2⟩; replace hB1 := below_next' hB1 hb2) | ((with_reducible refine (DC.out _).mono ?_); rintro e w3 ⟨rfl, hb3⟩; replace hB1 := below_next' hB1 hb3) | ((with_reducible refine (RC.out _).mono ?_); rintro e w4 ⟨rfl, hb4⟩; replace hB1 := below_next' hB1 hb4))
    go_returns
    go_light
    exact ⟨rfl, hB1⟩
  · have qs : ((1000 : Int) < msg.size) = True := eq_true (by omega)
    go_enter Try.func8, Try.ntmps8
    go_upto_region 2 with ((with_reducible refine (AW.out _).mono ?_); rintro e w1 ⟨rfl, hB1⟩)
    go_wp2_with ((with_reducible refine (AW.out _).mono ?_); rintro e w2 ⟨rfl, hb2⟩; replace hB1 := below_next' hB1 hb2)
    go_returns
    go_light
    exact ⟨rfl, hB1⟩
end Go.Proofs.Ytfkafejoacpclaa
