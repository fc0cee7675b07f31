/- The program's tree: Inclusion and Consistency. Conditions: texts of at most 1000 bytes, at most 2^20 of them. -/
import Derived.Test.YtfkafejoacpclaaMerkSub
namespace Go.Proofs.Ytfkafejoacpclaa
open Go.RowKit
set_option linter.unusedVariables false
set_option linter.unusedSimpArgs false
set_option maxHeartbeats 2000000 in
set_option maxRecDepth 100000 in
theorem incl_bad (A : Option Addr) (n cap : Nat) (i : Int) (w : World) (hi : i < 0 ∨ (n : Int) ≤ i) :
    Calls Try.prog 20 #[.agg (arr .u32 (K64 ++ H8.L)), .slice A n cap, .int .i64 i] w fun e w' => e = .returned (.tuple #[.slice none 0 0, .int .i64 5]) ∧ Below w.heap.size w w' := by
  generalize arr .u32 (K64 ++ H8.L) = tb at *
  have hB1 : Below w.heap.size w (w.alloc (.cells tb 29)) := by go_grown
  by_cases h : i < 0
  · have q : (i < 0) = True := eq_true h
    go_enter Try.func20, Try.ntmps20
    go_wp2_with (fail)
    go_returns
    go_light
    exact ⟨rfl, hB1⟩
  · have q : (i < 0) = False := eq_false h
    have q2 : ((n : Int) ≤ i) = True := eq_true (by omega)
    go_enter Try.func20, Try.ntmps20
    go_wp2_with (fail)
    go_returns
    go_light
    exact ⟨rfl, hB1⟩
set_option maxHeartbeats 2000000 in
set_option maxRecDepth 100000 in
theorem incl_ok (l : List ByteArray) (A : Option Addr) (cap i : Nat) (w : World) (hi : i < l.length) (hn20 : l.length ≤ 1048575) (hcap : l.length ≤ cap) (h1000 : ∀ x ∈ l, x.size ≤ 1000) (hr : Kn.str.Rows w A l) :
    Calls Try.prog 20 #[.agg (arr .u32 (K64 ++ H8.L)), .slice A l.length cap, .int .i64 i] w fun e w' => (∃ v, e = .returned (.tuple #[v, .int .i64 0]) ∧ TextRow 9 w.heap.size (inclN l i) v w') ∧ Below w.heap.size w w' := by
  have IC := fun W hW => incl_calls l.length l A cap i W rfl hi hn20 hcap h1000 hW
  have hsz : (Try.prog.info? 29).map (·.size) = some (arr .u32 (K64 ++ H8.L)).size := by kernel_rfl
  generalize arr .u32 (K64 ++ H8.L) = tb at *
  have h1 := Whole.new w 29 tb
  have hB1 : Below w.heap.size w (w.alloc (.cells tb 29)) := by go_grown
  replace IC := Lib.hid (IC _ (hr.below hB1))
  replace hr := Lib.hid hr
  generalize inclN l i = il at *
  generalize l.length = n at *
  have q : ((i : Int) < 0) = False := eq_false (by omega)
  have q2 : ((n : Int) ≤ (i : Int)) = False := eq_false (by omega)
  go_enter Try.func20, Try.ntmps20
  go_wp2_with (first | ((with_reducible apply wl_loadW (ty := 29) h1 Try.underlying29); rfl; rfl; rfl; exact hsz) | ((with_reducible refine IC.out.mono ?_); rintro e w2 ⟨⟨v, rfl, hv⟩, hb2⟩; replace hv := Lib.hid hv; replace hB1 := below_next' hB1 hb2))
  go_returns
  go_light
  exact ⟨⟨v, rfl, hv.out.base ((Later.refl w).alloc _).size⟩, hB1⟩
set_option maxHeartbeats 2000000 in
set_option maxRecDepth 100000 in
theorem cons_bad (A : Option Addr) (n cap : Nat) (i : Int) (w : World) (hi : i < 1 ∨ (n : Int) < i) :
    Calls Try.prog 27 #[.agg (arr .u32 (K64 ++ H8.L)), .slice A n cap, .int .i64 i] w fun e w' => e = .returned (.tuple #[.slice none 0 0, .int .i64 5]) ∧ Below w.heap.size w w' := by
  generalize arr .u32 (K64 ++ H8.L) = tb at *
  have hB1 : Below w.heap.size w (w.alloc (.cells tb 29)) := by go_grown
  by_cases h : i < 1
  · have q : (i < 1) = True := eq_true h
    go_enter Try.func27, Try.ntmps27
    go_wp2_with (fail)
    go_returns
    go_light
    exact ⟨rfl, hB1⟩
  · have q : (i < 1) = False := eq_false h
    have q2 : ((n : Int) < i) = True := eq_true (by omega)
    go_enter Try.func27, Try.ntmps27
    go_wp2_with (fail)
    go_returns
    go_light
    exact ⟨rfl, hB1⟩
set_option maxHeartbeats 2000000 in
set_option maxRecDepth 100000 in
theorem cons_ok (l : List ByteArray) (A : Option Addr) (cap i : Nat) (w : World) (hm1 : 1 ≤ i) (hi : i ≤ l.length) (hn20 : l.length ≤ 1048575) (hcap : l.length ≤ cap) (h1000 : ∀ x ∈ l, x.size ≤ 1000) (hr : Kn.str.Rows w A l) :
    Calls Try.prog 27 #[.agg (arr .u32 (K64 ++ H8.L)), .slice A l.length cap, .int .i64 i] w fun e w' => (∃ v, e = .returned (.tuple #[v, .int .i64 0]) ∧ TextRow 9 w.heap.size (consN l i true) v w') ∧ Below w.heap.size w w' := by
  have IC := fun W hW => sub_calls l.length l A cap i true W rfl hm1 hi hn20 hcap h1000 hW
  have hsz : (Try.prog.info? 29).map (·.size) = some (arr .u32 (K64 ++ H8.L)).size := by kernel_rfl
  generalize arr .u32 (K64 ++ H8.L) = tb at *
  have h1 := Whole.new w 29 tb
  have hB1 : Below w.heap.size w (w.alloc (.cells tb 29)) := by go_grown
  replace IC := Lib.hid (IC _ (hr.below hB1))
  replace hr := Lib.hid hr
  generalize consN l i true = il at *
  generalize l.length = n at *
  have q : ((i : Int) < 1) = False := eq_false (by omega)
  have q2 : ((n : Int) < (i : Int)) = False := eq_false (by omega)
  go_enter Try.func27, Try.ntmps27
  go_wp2_with (first | ((with_reducible apply wl_loadW (ty := 29) h1 Try.underlying29); rfl; rfl; rfl; exact hsz) | ((with_reducible refine IC.out.mono ?_); rintro e w2 ⟨⟨v, rfl, hv⟩, hb2⟩; replace hv := Lib.hid hv; replace hB1 := below_next' hB1 hb2))
  go_returns
  go_light
  exact ⟨⟨v, rfl, hv.out.base ((Later.refl w).alloc _).size⟩, hB1⟩
end Go.Proofs.Ytfkafejoacpclaa
