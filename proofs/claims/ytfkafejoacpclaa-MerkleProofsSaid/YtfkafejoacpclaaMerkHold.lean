/- The program's tree: does a proof hold? Conditions: texts of at most 1000 bytes. -/
import Derived.Test.YtfkafejoacpclaaMerkBoth
namespace Go.Proofs.Ytfkafejoacpclaa
open Go.RowKit
set_option linter.unusedVariables false
set_option linter.unusedSimpArgs false
def inclT (leaf : ByteArray) (i n : Nat) (l : List ByteArray) (root : ByteArray) : Bool :=
  !(rootT leaf i n ⟨l, false⟩).2.bad && decide ((rootT leaf i n ⟨l, false⟩).2.l.length = 0) && decide ((rootT leaf i n ⟨l, false⟩).1 = root)
def consT (m n : Nat) (first second : ByteArray) (l : List ByteArray) : Bool :=
  !(bothT m n first true ⟨l, false⟩).2.bad && decide ((bothT m n first true ⟨l, false⟩).2.l.length = 0) && decide ((bothT m n first true ⟨l, false⟩).1.1 = first) && decide ((bothT m n first true ⟨l, false⟩).1.2 = second)
set_option maxHeartbeats 2000000 in
set_option maxRecDepth 100000 in
theorem included_bad (leaf root : ByteArray) (i n : Int) (v : Value) (w : World) (h : i < 0 ∨ n ≤ i ∨ 64 < n) :
    Calls Try.prog 21 #[.agg (arr .u32 (K64 ++ H8.L)), .string leaf, .int .i64 i, .int .i64 n, v, .string root] w fun e w' => e = .returned (.bool false) ∧ Below w.heap.size w w' := by
  generalize arr .u32 (K64 ++ H8.L) = tb at *
  have hB1 : Below w.heap.size w (w.alloc (.cells tb 29)) := by go_grown
  by_cases h1 : i < 0
  · have q : (i < 0) = True := eq_true h1
    go_enter Try.func21, Try.ntmps21
    go_wp2_with (fail)
    go_returns
    go_light
    exact ⟨rfl, hB1⟩
  · have q : (i < 0) = False := eq_false h1
    by_cases h2 : n ≤ i
    · have q2 : (n ≤ i) = True := eq_true h2
      go_enter Try.func21, Try.ntmps21
      go_wp2_with (fail)
      go_returns
      go_light
      exact ⟨rfl, hB1⟩
    · have q2 : (n ≤ i) = False := eq_false h2
      have q3 : (64 < n) = True := eq_true (by omega)
      go_enter Try.func21, Try.ntmps21
      go_wp2_with (fail)
      go_returns
      go_light
      exact ⟨rfl, hB1⟩
set_option maxHeartbeats 2000000 in
set_option maxRecDepth 100000 in
theorem included_ok (leaf root : ByteArray) (i n : Nat) (l : List ByteArray) (A : Option Addr) (cap : Nat) (w : World) (hi : i < n) (hn : n ≤ 64) (hleaf : leaf.size ≤ 1000) (hcap : l.length ≤ cap) (h1000 : ∀ x ∈ l, x.size ≤ 1000) (hr : Kn.str.Rows w A l) :
    Calls Try.prog 21 #[.agg (arr .u32 (K64 ++ H8.L)), .string leaf, .int .i64 i, .int .i64 n, .slice A l.length cap, .string root] w fun e w' => e = .returned (.bool (inclT leaf i n l root)) ∧ Below w.heap.size w w' := by
  have hbuilt : (Try.prog.built 104 [(0, .agg (arr .u32 (K64 ++ H8.L))), (1, .slice A l.length cap)]) = some (tkA (arr .u32 (K64 ++ H8.L)) (.slice A l.length cap) false) := by kernel_rfl
  have ht : (arr .u32 (K64 ++ H8.L)).size = 72 := by kernel_rfl
  have hsz : (Try.prog.info? 29).map (·.size) = some (arr .u32 (K64 ++ H8.L)).size := by kernel_rfl
  have RC := fun W g h => rootT_calls w g leaf hleaf n i ⟨l, false⟩ W hi (by omega) h1000 h
  generalize arr .u32 (K64 ++ H8.L) = tb at *
  obtain ⟨W1, hW1⟩ : ∃ W1, w.alloc (.cells tb 29) = W1 := ⟨_, rfl⟩
  have h1 : Whole W1 w.heap.size 29 tb := by rw [← hW1]; exact Whole.new w _ _
  have hB1 : Later w W1 := by rw [← hW1]; exact (Later.refl w).alloc _
  have hT : TkAt w (W1.alloc (.cells (tkA tb (.slice A l.length cap) false) 104)) W1.heap.size tb ⟨l, false⟩ := ⟨⟨A, cap, Whole.new W1 _ _, hcap, hr⟩, hB1.alloc _, hB1.size⟩
  replace RC := RC _ _ hT
  have q : ((i : Int) < 0) = False := eq_false (by omega)
  have q2 : ((n : Int) ≤ (i : Int)) = False := eq_false (by omega)
  have q3 : (64 < (n : Int)) = False := eq_false (by omega)
  unfold inclT
  generalize rootT leaf i n ⟨l, false⟩ = R at *
  obtain ⟨x, rl, rb⟩ := R
  simp only at RC ⊢
  have hBT : Later w (W1.alloc (.cells (tkA tb (.slice A l.length cap) false) 104)) := hB1.alloc _
  clear hT hr h1000
  replace RC := Lib.hid RC
  cases rb
  · by_cases hrl : rl.length = 0
    · go_enter Try.func21, Try.ntmps21
      go_upto_region 1 with (fail)
      try rw [hW1]
      clear hW1
      go_wp2_with (first | ((with_reducible apply wl_loadW (ty := 29) h1 Try.underlying29); rfl; rfl; rfl; exact hsz) | ((with_reducible apply wl_build2 hbuilt); rfl; rfl) | ((with_reducible refine RC.out.mono ?_); rintro e w3 ⟨rfl, hT3, hG3⟩; obtain ⟨⟨A3, cap3, h3, h4, h5⟩, hb3, hg3⟩ := hT3; have c72 := (h3.cell 72).trans (tkA_72 ht _ _); have c73 := (h3.cell 73).trans (tkA_73 ht _ _); simp only [hrl] at c72))
      go_returns
      go_light
      exact ⟨ret_bool (by simp [hrl, beqL]), hb3⟩
    · have qr : ((rl.length : Int) == 0) = false := by rw [beq_eq_false_iff_ne]; omega
      go_enter Try.func21, Try.ntmps21
      go_upto_region 1 with (fail)
      try rw [hW1]
      clear hW1
      go_wp2_with (first | ((with_reducible apply wl_loadW (ty := 29) h1 Try.underlying29); rfl; rfl; rfl; exact hsz) | ((with_reducible apply wl_build2 hbuilt); rfl; rfl) | ((with_reducible refine RC.out.mono ?_); rintro e w3 ⟨rfl, hT3, hG3⟩; obtain ⟨⟨A3, cap3, h3, h4, h5⟩, hb3, hg3⟩ := hT3; have c72 := (h3.cell 72).trans (tkA_72 ht _ _); have c73 := (h3.cell 73).trans (tkA_73 ht _ _)))
      go_returns
      go_light
      exact ⟨ret_bool (by simp [hrl]), hb3⟩
  · go_enter Try.func21, Try.ntmps21
    go_upto_region 1 with (fail)
    try rw [hW1]
    clear hW1
    go_wp2_with (first | ((with_reducible apply wl_loadW (ty := 29) h1 Try.underlying29); rfl; rfl; rfl; exact hsz) | ((with_reducible apply wl_build2 hbuilt); rfl; rfl) | ((with_reducible refine RC.out.mono ?_); rintro e w3 ⟨rfl, hT3, hG3⟩; obtain ⟨⟨A3, cap3, h3, h4, h5⟩, hb3, hg3⟩ := hT3; have c72 := (h3.cell 72).trans (tkA_72 ht _ _); have c73 := (h3.cell 73).trans (tkA_73 ht _ _)))
    go_returns
    go_light
    exact ⟨ret_bool (by simp), hb3⟩
set_option maxHeartbeats 2000000 in
set_option maxRecDepth 100000 in
theorem consistent_bad (first second : ByteArray) (m n : Int) (v : Value) (w : World) (h : m < 1 ∨ n < m ∨ 64 < n) :
    Calls Try.prog 24 #[.agg (arr .u32 (K64 ++ H8.L)), .int .i64 m, .int .i64 n, .string first, .string second, v] w fun e w' => e = .returned (.bool false) ∧ Below w.heap.size w w' := by
  generalize arr .u32 (K64 ++ H8.L) = tb at *
  have hB1 : Below w.heap.size w (w.alloc (.cells tb 29)) := by go_grown
  by_cases h1 : m < 1
  · have q : (m < 1) = True := eq_true h1
    go_enter Try.func24, Try.ntmps24
    go_wp2_with (fail)
    go_returns
    go_light
    exact ⟨rfl, hB1⟩
  · have q : (m < 1) = False := eq_false h1
    by_cases h2 : n < m
    · have q2 : (n < m) = True := eq_true h2
      go_enter Try.func24, Try.ntmps24
      go_wp2_with (fail)
      go_returns
      go_light
      exact ⟨rfl, hB1⟩
    · have q2 : (n < m) = False := eq_false h2
      have q3 : (64 < n) = True := eq_true (by omega)
      go_enter Try.func24, Try.ntmps24
      go_wp2_with (fail)
      go_returns
      go_light
      exact ⟨rfl, hB1⟩
set_option maxHeartbeats 2000000 in
set_option maxRecDepth 100000 in
theorem consistent_ok (first second : ByteArray) (m n : Nat) (l : List ByteArray) (A : Option Addr) (cap : Nat) (w : World) (hm : 1 ≤ m) (hmn : m ≤ n) (hn : n ≤ 64) (hf : first.size ≤ 1000) (hcap : l.length ≤ cap) (h1000 : ∀ x ∈ l, x.size ≤ 1000) (hr : Kn.str.Rows w A l) :
    Calls Try.prog 24 #[.agg (arr .u32 (K64 ++ H8.L)), .int .i64 m, .int .i64 n, .string first, .string second, .slice A l.length cap] w fun e w' => e = .returned (.bool (consT m n first second l)) ∧ Below w.heap.size w w' := by
  have hbuilt : (Try.prog.built 104 [(0, .agg (arr .u32 (K64 ++ H8.L))), (1, .slice A l.length cap)]) = some (tkA (arr .u32 (K64 ++ H8.L)) (.slice A l.length cap) false) := by kernel_rfl
  have ht : (arr .u32 (K64 ++ H8.L)).size = 72 := by kernel_rfl
  have hsz : (Try.prog.info? 29).map (·.size) = some (arr .u32 (K64 ++ H8.L)).size := by kernel_rfl
  have RC := fun W g h => bothT_calls w g first hf n m true ⟨l, false⟩ W hm hmn (by omega) h1000 h
  generalize arr .u32 (K64 ++ H8.L) = tb at *
  obtain ⟨W1, hW1⟩ : ∃ W1, w.alloc (.cells tb 29) = W1 := ⟨_, rfl⟩
  have h1 : Whole W1 w.heap.size 29 tb := by rw [← hW1]; exact Whole.new w _ _
  have hB1 : Later w W1 := by rw [← hW1]; exact (Later.refl w).alloc _
  have hT : TkAt w (W1.alloc (.cells (tkA tb (.slice A l.length cap) false) 104)) W1.heap.size tb ⟨l, false⟩ := ⟨⟨A, cap, Whole.new W1 _ _, hcap, hr⟩, hB1.alloc _, hB1.size⟩
  replace RC := RC _ _ hT
  have q : ((m : Int) < 1) = False := eq_false (by omega)
  have q2 : ((n : Int) < (m : Int)) = False := eq_false (by omega)
  have q3 : (64 < (n : Int)) = False := eq_false (by omega)
  unfold consT
  generalize bothT m n first true ⟨l, false⟩ = R at *
  obtain ⟨⟨xa, xb⟩, rl, rb⟩ := R
  simp only at RC ⊢
  have hBT : Later w (W1.alloc (.cells (tkA tb (.slice A l.length cap) false) 104)) := hB1.alloc _
  clear hT hr h1000
  replace RC := Lib.hid RC
  cases rb
  · by_cases hrl : rl.length = 0
    · by_cases hxa : xa = first
      · subst hxa
        go_enter Try.func24, Try.ntmps24
        go_upto_region 1 with (fail)
        try rw [hW1]
        clear hW1
        go_wp2_with (first | ((with_reducible apply wl_loadW (ty := 29) h1 Try.underlying29); rfl; rfl; rfl; exact hsz) | ((with_reducible apply wl_build2 hbuilt); rfl; rfl) | ((with_reducible refine RC.out.mono ?_); rintro e w3 ⟨rfl, hT3, hG3⟩; obtain ⟨⟨A3, cap3, h3, h4, h5⟩, hb3, hg3⟩ := hT3; have c72 := (h3.cell 72).trans (tkA_72 ht _ _); have c73 := (h3.cell 73).trans (tkA_73 ht _ _); simp only [hrl] at c72))
        go_returns
        go_light
        exact ⟨ret_bool (by simp [hrl, beqL]), hb3⟩
      · have hxa' : (xa.toList == first.toList) = false := by rw [beqL]; simp [hxa]
        go_enter Try.func24, Try.ntmps24
        go_upto_region 1 with (fail)
        try rw [hW1]
        clear hW1
        go_wp2_with (first | ((with_reducible apply wl_loadW (ty := 29) h1 Try.underlying29); rfl; rfl; rfl; exact hsz) | ((with_reducible apply wl_build2 hbuilt); rfl; rfl) | ((with_reducible refine RC.out.mono ?_); rintro e w3 ⟨rfl, hT3, hG3⟩; obtain ⟨⟨A3, cap3, h3, h4, h5⟩, hb3, hg3⟩ := hT3; have c72 := (h3.cell 72).trans (tkA_72 ht _ _); have c73 := (h3.cell 73).trans (tkA_73 ht _ _); simp only [hrl] at c72))
        go_returns
        go_light
        exact ⟨ret_bool (by simp [hrl, beqL, hxa]), hb3⟩
    · have qr : ((rl.length : Int) == 0) = false := by rw [beq_eq_false_iff_ne]; omega
      go_enter Try.func24, Try.ntmps24
      go_upto_region 1 with (fail)
      try rw [hW1]
      clear hW1
      go_wp2_with (first | ((with_reducible apply wl_loadW (ty := 29) h1 Try.underlying29); rfl; rfl; rfl; exact hsz) | ((with_reducible apply wl_build2 hbuilt); rfl; rfl) | ((with_reducible refine RC.out.mono ?_); rintro e w3 ⟨rfl, hT3, hG3⟩; obtain ⟨⟨A3, cap3, h3, h4, h5⟩, hb3, hg3⟩ := hT3; have c72 := (h3.cell 72).trans (tkA_72 ht _ _); have c73 := (h3.cell 73).trans (tkA_73 ht _ _)))
      go_returns
      go_light
      exact ⟨ret_bool (by simp [hrl]), hb3⟩
  · go_enter Try.func24, Try.ntmps24
    go_upto_region 1 with (fail)
    try rw [hW1]
    clear hW1
    go_wp2_with (first | ((with_reducible apply wl_loadW (ty := 29) h1 Try.underlying29); rfl; rfl; rfl; exact hsz) | ((with_reducible apply wl_build2 hbuilt); rfl; rfl) | ((with_reducible refine RC.out.mono ?_); rintro e w3 ⟨rfl, hT3, hG3⟩; obtain ⟨⟨A3, cap3, h3, h4, h5⟩, hb3, hg3⟩ := hT3; have c72 := (h3.cell 72).trans (tkA_72 ht _ _); have c73 := (h3.cell 73).trans (tkA_73 ht _ _)))
    go_returns
    go_light
    exact ⟨ret_bool (by simp), hb3⟩
end Go.Proofs.Ytfkafejoacpclaa
