/- The reference's tree: the digest, half, whether texts are few, rows of a call's own read. Conditions: texts of at most 2^40 bytes, numbers of 2 to 64. -/
import Derived.Test.YtfkafejoacpclaaMerkPub
import Derived.Laws.AppendOwn
namespace Go.Proofs.Ytfkafejoacpclaa
open Go.RowKit
set_option linter.unusedVariables false
set_option linter.unusedSimpArgs false
/-- A row of the call's own is read as a row. -/
theorem TextRow.rows {w : World} {base : Nat} {e : TypeId} {v : Value} {l : List ByteArray} (h : TextRow e base l v w) (hl : l.length ≤ 9223372036854775807) :
    ∃ A c, v = .slice A l.length c ∧ l.length ≤ c ∧ Kn.str.Rows w A l := by
  rcases h.2 with ⟨rfl, hn⟩ | ⟨g, cap, cur, rfl, hb, hgg, hc, _⟩
  · refine ⟨none, 0, by rw [hn], by omega, hl, fun h => absurd h (by omega)⟩
  · refine ⟨some ⟨g, 0, none⟩, cap, rfl, hc, hl, fun _ => ⟨_, rfl, (Array.getElem?_eq_some_iff.1 hgg).1, fun j x hj => ⟨[.string x], rfl, fun i u hu => ?_⟩⟩⟩
    match i, hu with
    | 0, hu =>
      simp at hu
      subst hu
      refine h.cells rfl _ _ ?_
      show (l.map Value.string)[j * 1 + 0]? = _
      simp [hj]
set_option maxHeartbeats 1000000 in
set_option maxRecDepth 100000 in
theorem refH_calls (s : ByteArray) (hs : s.size ≤ 1099511627776) (w : World) :
    Calls Try.prog 58 #[.string s] w fun e w' => e = .returned (.string (shaN s)) ∧ Below w.heap.size w w' := by
  have SS := fun w => sum01_calls s hs w
  generalize shaN s = H at *
  replace SS := Lib.hid SS
  go_enter Try.func58, Try.ntmps58
  go_wp2_with ((with_reducible refine (SS.out _).mono ?_); rintro e w2 ⟨rfl, hb2⟩)
  go_returns
  go_light
  exact ⟨rfl, hb2⟩
set_option maxHeartbeats 1000000 in
set_option maxRecDepth 100000 in
theorem half_calls (n : Nat) (h2 : 2 ≤ n) (hn : n < 65) (w : World) :
    Calls Try.prog 64 #[.int .i64 n] w fun e w' => e = .returned (.int .i64 (sp n : Nat)) ∧ w' = w := by
  have hsp := hf_sp n hn h2
  obtain ⟨Z, hZ⟩ : ∃ Z, sp n = Z := ⟨_, rfl⟩
  rw [hZ] at hsp ⊢
  clear hZ
  replace hsp := Lib.hid hsp
  go_enter Try.func64, Try.ntmps64
  go_wp2_with (fail)
  go_loopg [3] 64 (fun kg i wr => ∃ (f k : Nat), i = .int .i64 k ∧ 1 ≤ k ∧ k ≤ 64 ∧ k = 2 ^ (f - 1) ∧ 1 ≤ f ∧ hfF f k n = Z ∧ kg = k ∧ wr = w)
  case atStart => exact ⟨7, 64, rfl, by omega, by omega, rfl, by omega, hsp.out, rfl, rfl⟩
  case round =>
    clear hsp
    obtain ⟨f, k, rfl, hk1, hk2, hf, hf1, hsp, hkg, rfl⟩ := hrel
    replace hkg := Lib.hid hkg
    by_cases hlt : n ≤ k
    · have q : ((n : Int) ≤ (k : Int)) = True := eq_true (by omega)
      have q' : ((k : Int) < (n : Int)) = False := eq_false (by omega)
      obtain ⟨f', rfl⟩ : ∃ f', f = f' + 2 := ⟨f - 2, by
        rcases f with _ | _ | f
        · omega
        · simp at hf; omega
        · omega⟩
      have hd : k / 2 = 2 ^ f' := by
        rw [hf, show f' + 2 - 1 = f' + 1 by omega, Nat.pow_succ]
        omega
      rw [hfF, if_pos hlt] at hsp
      generalize hj : k / 2 = j at *
      have t1 : (k : Int).tdiv 2 = j := by rw [Int.tdiv_eq_ediv_of_nonneg (Int.natCast_nonneg _)]; omega
      have hw : IntKind.i64.wrap (j : Int) = j := by simp [IntKind.wrap, IntKind.signed, IntKind.bits]; omega
      have hj1 : 1 ≤ j := by rw [hd]; exact Nat.pos_of_ne_zero (by simp)
      have hj2 : j < k := by omega
      replace hsp := Lib.hid hsp
      replace hf := Lib.hid hf
      replace hd := Lib.hid hd
      go_wp2_with (fail)
      go_roundg j
      case measure => go_light; rw [hkg.out]; omega
      case rel => go_light; exact ⟨f' + 1, j, by go_num, hj1, by omega, hd.out, by omega, hsp.out, rfl, rfl⟩
    · have q : ((n : Int) ≤ (k : Int)) = False := eq_false (by omega)
      have q' : ((k : Int) < (n : Int)) = True := eq_true (by omega)
      obtain ⟨f', rfl⟩ : ∃ f', f = f' + 1 := ⟨f - 1, by omega⟩
      rw [hfF, if_neg hlt] at hsp
      replace hsp := Lib.hid hsp
      replace hf := Lib.hid hf
      go_wp2_with (fail)
      go_returns
      exact ⟨by rw [← hsp.out]; rfl, rfl⟩
/-- What is known where texts are looked at. -/
def Few04At (w w' : World) (e : Ending) (l : List ByteArray) (n size : Nat) : Prop := ∃ t, e = .returned (.bool t) ∧ (t = true ↔ (l.length ≤ n ∧ ∀ x ∈ l, x.size ≤ size)) ∧ w' = w
set_option maxHeartbeats 1000000 in
set_option maxRecDepth 100000 in
theorem few04_calls (l : List ByteArray) (A : Option Addr) (cap n size : Nat) (hn : n ≤ 300) (hsize : size ≤ 1000000) (w : World) (hr : Kn.str.Rows w A l) :
    Calls Try.prog 16 #[.slice A l.length cap, .int .i64 n, .int .i64 size] w fun e w' => Few04At w w' e l n size := by
  have hmax := hr.1
  replace hr := Lib.hid hr
  go_enter Try.func16, Try.ntmps16
  go_wp2_with (fail)
  go_loopg [7] (l.length + 1) (fun kg i wr => ∃ (k : Nat), i = .int .i64 k ∧ k ≤ l.length ∧ k ≤ 300 ∧ (∀ (j : Nat) (h : j < l.length), j < k → l[j].size ≤ size) ∧ kg = l.length + 1 - k ∧ wr = w)
  case atStart => exact ⟨0, rfl, Nat.zero_le _, by omega, fun j _ h => absurd h (by omega), rfl, rfl⟩
  case round =>
    obtain ⟨k, rfl, hk, hk3, hall, hkg, rfl⟩ := hrel
    replace hkg := Lib.hid hkg
    replace hall := Lib.hid hall
    by_cases hlt : k < l.length
    · by_cases h300 : k < 300
      · obtain ⟨ad, rfl, hadlt, e0⟩ := hr.out.one_ hlt
        by_cases hsz : l[k].size ≤ size
        · have hall2 : ∀ (j : Nat) (h : j < l.length), j < k + 1 → l[j].size ≤ size := fun j h hj => by
            by_cases e : j = k
            · subst e; exact hsz
            · exact hall.out j h (by omega)
          replace hall2 := Lib.hid hall2
          generalize l[k] = s at e0 hsz
          have qs : ((size : Int) < s.size) = False := eq_false (by omega)
          go_wp2_with (fail)
          go_roundg (l.length + 1 - (k + 1))
          case measure => go_light; rw [hkg.out]; omega
          case rel => go_light; exact ⟨k + 1, by go_num, by omega, by omega, hall2.out, rfl, rfl⟩
        · have hneg : ¬ (l.length ≤ n ∧ ∀ x ∈ l, x.size ≤ size) := fun h => hsz (h.2 _ (List.getElem_mem hlt))
          replace hneg := Lib.hid hneg
          generalize l[k] = s at e0 hsz
          have qs : ((size : Int) < s.size) = True := eq_true (by omega)
          go_wp2_with (fail)
          go_returns
          go_light
          exact ⟨false, rfl, ⟨fun h => (by cases h), fun h => absurd h hneg.out⟩, rfl⟩
      · have hlen : ¬ l.length ≤ n := by omega
        have ql : ((l.length : Int) ≤ n) = False := eq_false (by omega)
        go_wp2_with (fail)
        go_returns
        go_light
        exact ⟨false, rfl, ⟨fun h => (by cases h), fun h => absurd h.1 (by omega)⟩, rfl⟩
    · by_cases hln : l.length ≤ n
      · have ql : ((l.length : Int) ≤ n) = True := eq_true (by omega)
        go_wp2_with (fail)
        go_returns
        go_light
        refine ⟨true, rfl, ⟨fun _ => ⟨hln, fun x hx => ?_⟩, fun _ => rfl⟩, rfl⟩
        obtain ⟨j, hj, rfl⟩ := List.getElem_of_mem hx
        exact hall.out j hj (by omega)
      · have ql : ((l.length : Int) ≤ n) = False := eq_false (by omega)
        go_wp2_with (fail)
        go_returns
        go_light
        exact ⟨false, rfl, ⟨fun h => (by cases h), fun h => absurd h.1 (by omega)⟩, rfl⟩
theorem few04_true (l : List ByteArray) (A : Option Addr) (cap n size : Nat) (N S : Int) (hN : N = n) (hS : S = size) (hn : n ≤ 300) (hsize : size ≤ 1000000) (w : World) (hr : Kn.str.Rows w A l) (h : l.length ≤ n ∧ ∀ x ∈ l, x.size ≤ size) :
    Calls Try.prog 16 #[.slice A l.length cap, .int .i64 N, .int .i64 S] w fun e w' => e = .returned (.bool true) ∧ w' = w := by
  subst hN hS
  exact (few04_calls l A cap n size hn hsize w hr).mono fun e w' ⟨t, h1, h2, h3⟩ => ⟨by rw [h1, h2.2 h], h3⟩
theorem few04_false (l : List ByteArray) (A : Option Addr) (cap n size : Nat) (N S : Int) (hN : N = n) (hS : S = size) (hn : n ≤ 300) (hsize : size ≤ 1000000) (w : World) (hr : Kn.str.Rows w A l) (h : ¬ (l.length ≤ n ∧ ∀ x ∈ l, x.size ≤ size)) :
    Calls Try.prog 16 #[.slice A l.length cap, .int .i64 N, .int .i64 S] w fun e w' => e = .returned (.bool false) ∧ w' = w := by
  subst hN hS
  exact (few04_calls l A cap n size hn hsize w hr).mono fun e w' ⟨t, h1, h2, h3⟩ => ⟨by cases t with
    | false => exact h1
    | true => exact absurd (h2.1 rfl) h, h3⟩
set_option maxHeartbeats 1000000 in
set_option maxRecDepth 100000 in
theorem leaves_calls (l : List ByteArray) (A : Option Addr) (cap : Nat) (w : World) (hlen : l.length ≤ 1048575) (h1000 : ∀ x ∈ l, x.size ≤ 1000) (hr : Kn.str.Rows w A l) :
    Calls Try.prog 18 #[.slice A l.length cap] w fun e w' => (∃ v, e = .returned v ∧ TextRow 9 w.heap.size (l.map leafN) v w') ∧ Below w.heap.size w w' := by
  replace hr := Lib.hid hr
  replace h1000 := Lib.hid h1000
  have hB0 : Below w.heap.size w w := Later.refl w
  go_enter Try.func18, Try.ntmps18
  go_wp2_with (fail)
  go_loopg [3, 4] (l.length + 1) (fun kg o i wr => ∃ (k : Nat), i = .int .i64 k ∧ k ≤ l.length ∧ kg = l.length + 1 - k ∧ TextRow 9 w.heap.size ((l.take k).map leafN) o wr ∧ Below w.heap.size w wr)
  case atStart => exact ⟨0, rfl, Nat.zero_le _, rfl, World.ownsRow_nil _ _ _ _, hB0⟩
  case round =>
    clear hB0
    obtain ⟨k, rfl, hk, hkg, ho, hB⟩ := hrel
    replace hkg := Lib.hid hkg
    by_cases hlt : k < l.length
    · obtain ⟨ad, rfl, hadlt, e0⟩ := (hr.out.below hB).one_ hlt
      have hx := h1000.out _ (List.getElem_mem hlt)
      have hstep : (l.take k).map leafN ++ [leafN l[k]] = (l.take (k + 1)).map leafN := by
        rw [List.take_succ_eq_append_getElem hlt, List.map_append]
        rfl
      generalize l[k] = x at e0 hx hstep
      have hs1 : ((⟨#[0]⟩ : ByteArray) ++ x).size = 1 + x.size := ByteArray.size_append
      have nolen : (9223372036854775807 < 1 + x.size) = False := eq_false (by omega)
      have HC := fun W => refH_calls ((⟨#[0]⟩ : ByteArray) ++ x) (by omega) W
      have eX : shaN ((⟨#[0]⟩ : ByteArray) ++ x) = leafN x := rfl
      rw [eX] at HC
      generalize leafN x = X at *
      have hlk : ((l.take k).map leafN).length ≤ 1048575 := by rw [List.length_map, List.length_take]; omega
      generalize (l.take k).map leafN = acc at *
      replace hstep := Lib.hid hstep
      replace HC := Lib.hid HC
      replace ho := Lib.hid ho
      clear hs1 eX
      go_wp2_with (first | ((with_reducible refine (HC.out _).mono ?_); rintro e w4 ⟨rfl, hb4⟩; replace hB := below_next' hB hb4; have ho4 := TextRow.later _ _ _ hb4 ho.out) | (at_builtin; refine wl_appendS (base := w.heap.size) (s := X) Try.underlying22 (by unfold StrT; kernel_rfl) (TextRow.later _ _ _ ((Later.refl _).alloc _) ho4) (Whole.new _ _ _) (by omega) (by have := hB.size; go_size) rfl rfl (fun v' w5 ho5 hg5 => ?_)))
      have hB5 := below_own (hB.alloc hB.size (.cells #[.string X] 9)) (TextRow.later _ _ _ ((Later.refl _).alloc (.cells #[.string X] 9)) ho4) (Nat.le_refl _) hg5
      rw [hstep.out] at ho5
      clear ho4 ho hg5
      replace ho5 := Lib.hid ho5
      go_roundg (l.length - k)
      case measure => go_light; rw [hkg.out]; omega
      case rel => go_light; exact ⟨k + 1, by go_num, by omega, by omega, ho5.out, hB5⟩
    · have hkl : l.take k = l := List.take_of_length_le (by omega)
      rw [hkl] at ho
      replace ho := Lib.hid ho
      go_wp2_with (fail)
      go_returns
      go_light
      exact ⟨⟨_, rfl, ho.out⟩, hB⟩
end Go.Proofs.Ytfkafejoacpclaa
