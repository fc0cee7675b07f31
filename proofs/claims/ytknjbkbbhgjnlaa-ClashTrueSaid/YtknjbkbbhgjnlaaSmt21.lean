/- The reference of layer 5: Apart. Conditions: at most 2^20 pairs; keys of at most 2^30 bytes. -/
import Derived.Test.YtknjbkbbhgjnlaaSmt7
namespace Go.Proofs.Ytknjbkbbhgjnlaa
open Go.RowKit
set_option linter.unusedVariables false
set_option linter.unusedSimpArgs false
/-- No two unlike keys have one path. -/
def ApartL (l : List ByteArray) : Prop := ∀ x ∈ l, ∀ y ∈ l, pathN x = pathN y → x = y
theorem ApartL.one (x : ByteArray) : ApartL [x] := by
  intro a ha b hb _
  rw [List.mem_singleton] at ha hb
  rw [ha, hb]
theorem ApartL.snoc {l : List ByteArray} {x : ByteArray} (h : ApartL l) (hx : ∀ y ∈ l, pathN y = pathN x → y = x) : ApartL (l ++ [x]) := by
  intro a ha b hb e
  rcases List.mem_append.1 ha with h1 | h1 <;> rcases List.mem_append.1 hb with h2 | h2
  · exact h a h1 b h2 e
  · rw [List.mem_singleton] at h2; rw [h2] at e ⊢; exact hx a h1 e
  · rw [List.mem_singleton] at h1; rw [h1] at e ⊢; exact (hx b h2 e.symm).symm
  · rw [List.mem_singleton] at h1 h2; rw [h1, h2]
def ApartAt (w w' : World) (e : Ending) (key : ByteArray) (l : List KV) : Prop := ∃ t : Bool, e = .returned (.bool t) ∧ (t = true → ApartL (key :: l.map (·.1))) ∧ Later w w'
/-- A row of one text. -/
theorem SRow.one {w : World} {g base : Nat} {s : ByteArray} (h : Whole w g 9 #[.string s]) (hb : base ≤ g) : SRow 9 1 base TxtV [s] (.slice (some ⟨g, 0, none⟩) 1 1) w :=
  ⟨rfl, .inr ⟨g, 1, _, rfl, hb, h, Nat.le_refl _, by decide, rfl, rfl⟩⟩
def keysTo (key : ByteArray) (l : List KV) (k : Nat) : List ByteArray := key :: (l.take k).map (·.1)
theorem keysTo_succ (key : ByteArray) {l : List KV} {k : Nat} (hk : k < l.length) : keysTo key l (k + 1) = keysTo key l k ++ [l[k].1] := by
  unfold keysTo
  rw [List.take_succ_eq_append_getElem hk, List.map_append]
  rfl
theorem keysTo_len (key : ByteArray) (l : List KV) (k : Nat) : (keysTo key l k).length ≤ l.length + 1 := by
  unfold keysTo
  rw [List.length_cons, List.length_map, List.length_take]
  omega
set_option maxHeartbeats 8000000 in
set_option maxRecDepth 100000 in
theorem apart_calls (A : Option Addr) (l : List KV) (cap : Nat) (key : ByteArray) (w : World) (hcap : l.length ≤ cap) (hl : l.length ≤ 1048575) (hk : key.size ≤ 1073741824) (hs : ∀ p ∈ l, p.1.size ≤ 1073741824) (hr : PK.Rows w A l) :
    Calls Try.prog 27 #[.slice A l.length cap, .string key] w fun e w' => ApartAt w w' e key l := by
  have CK := fun W => h05_calls ((⟨#[75]⟩ : ByteArray) ++ key) (by rw [ByteArray.size_append]; show 1 + key.size ≤ _; omega) W
  have eK : shaN ((⟨#[75]⟩ : ByteArray) ++ key) = pathN key := rfl
  rw [eK] at CK
  have hB : Later w (w.alloc (.cells #[.string key] 9)) := (Later.refl w).alloc _
  have hK0 := Whole.new w 9 #[.string key]
  have b3 : ((l.length : Int) ≤ cap) = True := eq_true (by omega)
  have hq0 : keysTo key l 0 = [key] := rfl
  have hqs := fun k (h : k < l.length) => keysTo_succ key h
  have hqn := keysTo_len key l
  have hqN : keysTo key l l.length = key :: l.map (·.1) := by unfold keysTo; rw [List.take_length]
  have hA0 := ApartL.one key
  obtain ⟨pk, hpk⟩ : ∃ pk, pathN key = pk := ⟨_, rfl⟩
  rw [hpk] at CK
  replace CK := Lib.hid CK
  replace hs := Lib.hid hs
  replace hr := Lib.hid hr
  replace hqs := Lib.hid hqs
  replace hqn := Lib.hid hqn
  replace hqN := Lib.hid hqN
  replace hq0 := Lib.hid hq0
  replace hpk := Lib.hid hpk
  replace hA0 := Lib.hid hA0
  clear eK
  go_enter Try.func27, Try.ntmps27
  go_upto_region 2 with (fail)
  generalize w.alloc (.cells #[.string key] 9) = W1 at *
  go_upto_region 3 with ((with_reducible refine (CK.out _).mono ?_); rintro e w2 ⟨rfl, hb2⟩; replace hB := hB.trans hb2; replace hK0 := Later.whole hb2 hK0; have hP0 := Whole.new w2 9 #[.string pk]; have hlt0 := hK0.lt; replace hB := hB.alloc (.cells #[.string pk] 9); replace hK0 := hK0.alloc (.cells #[.string pk] 9))
  have s0 : SRow 9 1 w.heap.size TxtV (keysTo key l 0) (.slice (some ⟨w.heap.size, 0, none⟩) 1 1) (w2.alloc (.cells #[.string pk] 9)) := by rw [hq0.out]; exact SRow.one hK0 (Nat.le_refl _)
  have s1 : SRow 9 1 w.heap.size TxtV ((keysTo key l 0).map pathN) (.slice (some ⟨w2.heap.size, 0, none⟩) 1 1) (w2.alloc (.cells #[.string pk] 9)) := by rw [hq0.out, List.map_singleton, hpk.out]; exact SRow.one hP0 (by omega)
  have d0 : Dis (.slice (some ⟨w.heap.size, 0, none⟩) 1 1) (.slice (some ⟨w2.heap.size, 0, none⟩) 1 1) := fun g h1 h2 => by
    have := Option.some.inj (h1.trans h2.symm)
    simp only at this
    omega
  generalize w2.alloc (.cells #[.string pk] 9) = W3 at *
  have hA1 : ApartL (keysTo key l 0) := by rw [hq0.out]; exact hA0.out
  generalize hQ : keysTo key l = Q at *
  replace hQ := Lib.hid hQ
  replace hA1 := Lib.hid hA1
  clear hK0 hP0 hb2 hlt0 hA0 CK hq0
  go_wp2_with (fail)
  go_loopg [5, 6, 7] (l.length + 1) (fun kg kv pv i wr => ∃ (k : Nat), i = .int .i64 k ∧ k ≤ l.length ∧ kg = l.length + 1 - k ∧ SRow 9 1 w.heap.size TxtV (Q k) kv wr ∧ SRow 9 1 w.heap.size TxtV ((Q k).map pathN) pv wr ∧ Dis kv pv ∧ ApartL (Q k) ∧ Later w wr)
  case atStart => exact ⟨0, rfl, Nat.zero_le _, rfl, s0, s1, d0, hA1.out, hB⟩
  case round =>
    clear s0 s1 d0 hA1 hB
    obtain ⟨k, rfl, hk, hkg, ha, hb, hdab, hap, hB⟩ := hrel
    replace hkg := Lib.hid hkg
    replace hap := Lib.hid hap
    have hqk := hqn.out k
    by_cases hlt : k < l.length
    · obtain ⟨ad, rfl, hadlt, c0, -⟩ := PK.pair_ (hr.out.below hB) hlt
      have hsx := hs.out _ (List.getElem_mem hlt)
      have hnx := hqs.out k hlt
      generalize l[k] = x at *
      have HC := fun W => h05_calls ((⟨#[75]⟩ : ByteArray) ++ x.1) (by rw [ByteArray.size_append]; show 1 + x.1.size ≤ _; omega) W
      have eX : shaN ((⟨#[75]⟩ : ByteArray) ++ x.1) = pathN x.1 := rfl
      rw [eX] at HC
      obtain ⟨X, hX⟩ : ∃ X, pathN x.1 = X := ⟨_, rfl⟩
      rw [hX] at HC
      replace hX := Lib.hid hX
      replace HC := Lib.hid HC
      replace hnx := Lib.hid hnx
      clear eX
      have hkk : (k : Int) < l.length := by omega
      have hk0 : (0 : Int) ≤ k := by omega
      go_upto_region 7 with ((with_reducible refine (HC.out _).mono ?_); rintro e w4 ⟨rfl, hl4⟩)
      replace hB := Later.trans hB hl4
      replace ha := SRow.later _ _ _ hl4 ha
      replace hb := SRow.later _ _ _ hl4 hb
      have c4 := Later.cell hl4 c0
      clear hl4 c0 HC
      generalize Q k = q at *
      have hpl : (q.map pathN).length = q.length := List.length_map _
      obtain ⟨A5, c5, rfl, hc5, hR5⟩ := ha.rows Kn.str rfl (fun _ => rfl) (fun _ _ => rfl) (by omega)
      obtain ⟨A6, c6, rfl, hc6, hR6⟩ := hb.rows Kn.str rfl (fun _ => rfl) (fun _ _ => rfl) (by omega)
      have hpm : ∀ m (h : m < q.length) (h' : m < (q.map pathN).length), (q.map pathN)[m] = pathN q[m] := fun m h h' => List.getElem_map _
      rw [hpl] at hc6 hb hdab ⊢
      replace hpl := Lib.hid hpl
      replace hpm := Lib.hid hpm
      replace ha := Lib.hid ha
      replace hb := Lib.hid hb
      replace hdab := Lib.hid hdab
      have b5 : ((q.length : Int) ≤ c5) = True := eq_true (by omega)
      have b6 : ((q.length : Int) ≤ c6) = True := eq_true (by omega)
      go_wp2_with (fail)
      try rw [show decide ((k : Int) < l.length) = true from decide_eq_true hkk]
      go_loopg [9] (q.length + 1) (fun kg i w5 => ∃ m : Nat, i = .int .i64 m ∧ m ≤ q.length ∧ kg = q.length + 1 - m ∧ (∀ j (h : j < q.length), j < m → pathN q[j] = X → q[j] = x.1) ∧ Later w4 w5)
      case atStart => exact ⟨0, rfl, Nat.zero_le _, rfl, fun j h h' => absurd h' (Nat.not_lt_zero _), Later.refl _⟩
      case round =>
        obtain ⟨m, rfl, hm, hkg2, hall, hl5⟩ := hrel
        replace hkg2 := Lib.hid hkg2
        replace hall := Lib.hid hall
        have d0 := Later.cell hl5 c4
        by_cases hlt2 : m < q.length
        · obtain ⟨a5, rfl, -, e5⟩ := Kn.Rows.one_ (hR5.below hl5) hlt2
          obtain ⟨a6, rfl, -, e6⟩ := Kn.Rows.one_ (hR6.below hl5) (k := m) (by rw [hpl.out]; exact hlt2)
          rw [hpm.out m hlt2] at e6
          obtain ⟨y, hy⟩ : ∃ y, q[m] = y := ⟨_, rfl⟩
          rw [hy] at e5 e6
          replace hy := Lib.hid hy
          obtain ⟨Y, hY⟩ : ∃ Y, pathN y = Y := ⟨_, rfl⟩
          rw [hY] at e6
          replace hY := Lib.hid hY
          have hmm : (m : Int) < q.length := by omega
          have hm0 : (0 : Int) ≤ m := by omega
          by_cases hYX : Y = X
          · subst hYX
            have g1 : (Y.toList == Y.toList) = true := by simp
            by_cases hyx : y = x.1
            · subst hyx
              go_upto_region 10 with (fail)
              refine wp_region_grow 18 65 (by kernel_rfl) (by kernel_rfl) rfl (fun w7 hl7 => ?_)
              simp only [List.take_succ_cons, List.take_zero, List.drop_succ_cons, List.drop_zero]
              generalize ha : Act.mk _ _ = a0
              have k0 : a0.eval (.tmp 0) = .slice (some ad) l.length cap := by subst ha; rfl
              have k5 : a0.eval (.tmp 5) = .slice (some a5) q.length c5 := by subst ha; rfl
              have k6 : a0.eval (.tmp 6) = .slice (some a6) q.length c6 := by subst ha; rfl
              have k7 : a0.eval (.tmp 7) = .int .i64 k := by subst ha; rfl
              have k8 : a0.eval (.tmp 8) = .string Y := by subst ha; rfl
              have k9 : a0.eval (.tmp 9) = .int .i64 m := by subst ha; rfl
              have ks : a0.tmps.size = 65 := by subst ha; rfl
              have ha0 := ha.symm
              clear ha
              refine wpG_move (fun a w hk => (hk 6 rfl : a.eval (.tmp 6) = a0.eval (.tmp 6)).trans k6) ?_
              refine wpG_move (fun a w hk => (hk 9 rfl : a.eval (.tmp 9) = a0.eval (.tmp 9)).trans k9) ?_
              apply wpG_value'
              · rfl
              · (intro a wx hlx hk K hK; have e35 : a.eval (.tmp 35) = _ := hk 35 rfl; have e36 : a.eval (.tmp 36) = _ := hk 36 rfl; simp only [execOp, e35, e36]; clear e35 e36 hk; go_simp; exact hK)
              refine wpG_load1 (hl7.cell e6) Try.underlying9 rfl (fun a w hk => hk 37 rfl) ?_
              refine wpG_move (fun a w hk => (hk 8 rfl : a.eval (.tmp 8) = a0.eval (.tmp 8)).trans k8) ?_
              apply wpG_value'
              · rfl
              · (intro a wx hlx hk K hK; have e38 : a.eval (.tmp 38) = _ := hk 38 rfl; have e39 : a.eval (.tmp 39) = _ := hk 39 rfl; simp only [execOp, e38, e39]; clear e38 e39 hk; go_simp; exact hK)
              refine wpG_move (fun a w hk => hk 40 rfl) ?_
              refine wpG_guard (fun a w hl hk => by have e : a.eval (.tmp 41) = .bool true := hk 41 rfl; rw [wanted_of rfl rfl e]; rfl) ?_
              refine wpG_move (fun a w hk => (hk 5 rfl : a.eval (.tmp 5) = a0.eval (.tmp 5)).trans k5) ?_
              refine wpG_guard (fun a w hl hk => by have e : a.eval (.tmp 41) = .bool true := hk 41 rfl; rw [wanted_of rfl rfl e]; rfl) ?_
              refine wpG_move (fun a w hk => (hk 9 rfl : a.eval (.tmp 9) = a0.eval (.tmp 9)).trans k9) ?_
              refine wpG_guard (fun a w hl hk => by have e : a.eval (.tmp 41) = .bool true := hk 41 rfl; rw [wanted_of rfl rfl e]; rfl) ?_
              apply wpG_value'
              · rfl
              · (intro a wx hlx hk K hK; have e42 : a.eval (.tmp 42) = _ := hk 42 rfl; have e43 : a.eval (.tmp 43) = _ := hk 43 rfl; simp only [execOp, e42, e43]; clear e42 e43 hk; go_simp; exact hK)
              refine wpG_guard (fun a w hl hk => by have e : a.eval (.tmp 41) = .bool true := hk 41 rfl; rw [wanted_of rfl rfl e]; rfl) ?_
              refine wpG_load1 (hl7.cell e5) Try.underlying9 rfl (fun a w hk => hk 44 rfl) ?_
              refine wpG_guard (fun a w hl hk => by have e : a.eval (.tmp 41) = .bool true := hk 41 rfl; rw [wanted_of rfl rfl e]; rfl) ?_
              refine wpG_move (fun a w hk => (hk 0 rfl : a.eval (.tmp 0) = a0.eval (.tmp 0)).trans k0) ?_
              refine wpG_guard (fun a w hl hk => by have e : a.eval (.tmp 41) = .bool true := hk 41 rfl; rw [wanted_of rfl rfl e]; rfl) ?_
              refine wpG_move (fun a w hk => (hk 7 rfl : a.eval (.tmp 7) = a0.eval (.tmp 7)).trans k7) ?_
              refine wpG_guard (fun a w hl hk => by have e : a.eval (.tmp 41) = .bool true := hk 41 rfl; rw [wanted_of rfl rfl e]; rfl) ?_
              apply wpG_value'
              · rfl
              · (intro a wx hlx hk K hK; have e46 : a.eval (.tmp 46) = _ := hk 46 rfl; have e47 : a.eval (.tmp 47) = _ := hk 47 rfl; simp only [execOp, e46, e47]; clear e46 e47 hk; go_simp; exact hK)
              refine wpG_guard (fun a w hl hk => by have e : a.eval (.tmp 41) = .bool true := hk 41 rfl; rw [wanted_of rfl rfl e]; rfl) ?_
              apply wpG_value'
              · rfl
              · (intro a wx hlx hk K hK; have e48 : a.eval (.tmp 48) = _ := hk 48 rfl; simp only [execOp, e48]; clear e48 hk; go_simp; exact hK)
              refine wpG_guard (fun a w hl hk => by have e : a.eval (.tmp 41) = .bool true := hk 41 rfl; rw [wanted_of rfl rfl e]; rfl) ?_
              refine wpG_load1 (hl7.cell d0) Try.underlying9 rfl (fun a w hk => hk 49 rfl) ?_
              refine wpG_guard (fun a w hl hk => by have e : a.eval (.tmp 41) = .bool true := hk 41 rfl; rw [wanted_of rfl rfl e]; rfl) ?_
              apply wpG_value'
              · rfl
              · (intro a wx hlx hk K hK; have e45 : a.eval (.tmp 45) = _ := hk 45 rfl; have e50 : a.eval (.tmp 50) = _ := hk 50 rfl; simp only [execOp, e45, e50]; clear e45 e50 hk; go_simp; exact hK)
              apply wpG_value'
              · rfl
              · (intro a wx hlx hk K hK; have e41 : a.eval (.tmp 41) = _ := hk 41 rfl; have e51 : a.eval (.tmp 51) = _ := hk 51 rfl; simp only [execOp, e41, e51]; clear e41 e51 hk; go_simp; exact hK)
              refine wpG_nil (fun w7' hl7' => ?_)
              refine fin_is ?_
              refine fin_is ?_
              refine fin_is ?_
              refine fin_is ?_
              refine fin_is ?_
              refine fin_is ?_
              refine fin_is ?_
              refine fin_is ?_
              refine fin_is ?_
              refine fin_is ?_
              refine fin_is ?_
              refine fin_is ?_
              refine fin_is ?_
              refine fin_is ?_
              refine fin_is ?_
              refine fin_is ?_
              refine fin_is ?_
              refine fin_is ?_
              refine fin_nil ?_
              subst ha0
              clear k0 k5 k6 k7 k8 k9 ks
              simp only [Act.put, List.setIfInBounds_toArray, List.set_cons_succ, List.set_cons_zero]
              go_wp2_with (fail)
              go_roundg (q.length - m)
              case measure => go_light; rw [hkg2.out]; omega
              case rel =>
                go_light
                refine ⟨m + 1, by go_num, by omega, by omega, fun j h h' hj => ?_, hl5.trans (hl7.trans hl7')⟩
                by_cases hjm : j = m
                · subst hjm
                  exact hy.out
                · exact hall.out j h (by omega) hj
            · have n1 : (y = x.1) = False := eq_false hyx
              have n4 : (y.toList == x.1.toList) = false := by rw [beqL]; simpa using hyx
              have n6 : (y.toList != x.1.toList) = true := by simp only [bne, n4, Bool.not_false]
              go_upto_region 10 with (fail)
              refine wp_region_grow 18 65 (by kernel_rfl) (by kernel_rfl) rfl (fun w7 hl7 => ?_)
              simp only [List.take_succ_cons, List.take_zero, List.drop_succ_cons, List.drop_zero]
              generalize ha : Act.mk _ _ = a0
              have k0 : a0.eval (.tmp 0) = .slice (some ad) l.length cap := by subst ha; rfl
              have k5 : a0.eval (.tmp 5) = .slice (some a5) q.length c5 := by subst ha; rfl
              have k6 : a0.eval (.tmp 6) = .slice (some a6) q.length c6 := by subst ha; rfl
              have k7 : a0.eval (.tmp 7) = .int .i64 k := by subst ha; rfl
              have k8 : a0.eval (.tmp 8) = .string Y := by subst ha; rfl
              have k9 : a0.eval (.tmp 9) = .int .i64 m := by subst ha; rfl
              have ks : a0.tmps.size = 65 := by subst ha; rfl
              have ha0 := ha.symm
              clear ha
              refine wpG_move (fun a w hk => (hk 6 rfl : a.eval (.tmp 6) = a0.eval (.tmp 6)).trans k6) ?_
              refine wpG_move (fun a w hk => (hk 9 rfl : a.eval (.tmp 9) = a0.eval (.tmp 9)).trans k9) ?_
              apply wpG_value'
              · rfl
              · (intro a wx hlx hk K hK; have e35 : a.eval (.tmp 35) = _ := hk 35 rfl; have e36 : a.eval (.tmp 36) = _ := hk 36 rfl; simp only [execOp, e35, e36]; clear e35 e36 hk; go_simp; exact hK)
              refine wpG_load1 (hl7.cell e6) Try.underlying9 rfl (fun a w hk => hk 37 rfl) ?_
              refine wpG_move (fun a w hk => (hk 8 rfl : a.eval (.tmp 8) = a0.eval (.tmp 8)).trans k8) ?_
              apply wpG_value'
              · rfl
              · (intro a wx hlx hk K hK; have e38 : a.eval (.tmp 38) = _ := hk 38 rfl; have e39 : a.eval (.tmp 39) = _ := hk 39 rfl; simp only [execOp, e38, e39]; clear e38 e39 hk; go_simp; exact hK)
              refine wpG_move (fun a w hk => hk 40 rfl) ?_
              refine wpG_guard (fun a w hl hk => by have e : a.eval (.tmp 41) = .bool true := hk 41 rfl; rw [wanted_of rfl rfl e]; rfl) ?_
              refine wpG_move (fun a w hk => (hk 5 rfl : a.eval (.tmp 5) = a0.eval (.tmp 5)).trans k5) ?_
              refine wpG_guard (fun a w hl hk => by have e : a.eval (.tmp 41) = .bool true := hk 41 rfl; rw [wanted_of rfl rfl e]; rfl) ?_
              refine wpG_move (fun a w hk => (hk 9 rfl : a.eval (.tmp 9) = a0.eval (.tmp 9)).trans k9) ?_
              refine wpG_guard (fun a w hl hk => by have e : a.eval (.tmp 41) = .bool true := hk 41 rfl; rw [wanted_of rfl rfl e]; rfl) ?_
              apply wpG_value'
              · rfl
              · (intro a wx hlx hk K hK; have e42 : a.eval (.tmp 42) = _ := hk 42 rfl; have e43 : a.eval (.tmp 43) = _ := hk 43 rfl; simp only [execOp, e42, e43]; clear e42 e43 hk; go_simp; exact hK)
              refine wpG_guard (fun a w hl hk => by have e : a.eval (.tmp 41) = .bool true := hk 41 rfl; rw [wanted_of rfl rfl e]; rfl) ?_
              refine wpG_load1 (hl7.cell e5) Try.underlying9 rfl (fun a w hk => hk 44 rfl) ?_
              refine wpG_guard (fun a w hl hk => by have e : a.eval (.tmp 41) = .bool true := hk 41 rfl; rw [wanted_of rfl rfl e]; rfl) ?_
              refine wpG_move (fun a w hk => (hk 0 rfl : a.eval (.tmp 0) = a0.eval (.tmp 0)).trans k0) ?_
              refine wpG_guard (fun a w hl hk => by have e : a.eval (.tmp 41) = .bool true := hk 41 rfl; rw [wanted_of rfl rfl e]; rfl) ?_
              refine wpG_move (fun a w hk => (hk 7 rfl : a.eval (.tmp 7) = a0.eval (.tmp 7)).trans k7) ?_
              refine wpG_guard (fun a w hl hk => by have e : a.eval (.tmp 41) = .bool true := hk 41 rfl; rw [wanted_of rfl rfl e]; rfl) ?_
              apply wpG_value'
              · rfl
              · (intro a wx hlx hk K hK; have e46 : a.eval (.tmp 46) = _ := hk 46 rfl; have e47 : a.eval (.tmp 47) = _ := hk 47 rfl; simp only [execOp, e46, e47]; clear e46 e47 hk; go_simp; exact hK)
              refine wpG_guard (fun a w hl hk => by have e : a.eval (.tmp 41) = .bool true := hk 41 rfl; rw [wanted_of rfl rfl e]; rfl) ?_
              apply wpG_value'
              · rfl
              · (intro a wx hlx hk K hK; have e48 : a.eval (.tmp 48) = _ := hk 48 rfl; simp only [execOp, e48]; clear e48 hk; go_simp; exact hK)
              refine wpG_guard (fun a w hl hk => by have e : a.eval (.tmp 41) = .bool true := hk 41 rfl; rw [wanted_of rfl rfl e]; rfl) ?_
              refine wpG_load1 (hl7.cell d0) Try.underlying9 rfl (fun a w hk => hk 49 rfl) ?_
              refine wpG_guard (fun a w hl hk => by have e : a.eval (.tmp 41) = .bool true := hk 41 rfl; rw [wanted_of rfl rfl e]; rfl) ?_
              apply wpG_value'
              · rfl
              · (intro a wx hlx hk K hK; have e45 : a.eval (.tmp 45) = _ := hk 45 rfl; have e50 : a.eval (.tmp 50) = _ := hk 50 rfl; simp only [execOp, e45, e50]; clear e45 e50 hk; go_simp; exact hK)
              apply wpG_value'
              · rfl
              · (intro a wx hlx hk K hK; have e41 : a.eval (.tmp 41) = _ := hk 41 rfl; have e51 : a.eval (.tmp 51) = _ := hk 51 rfl; simp only [execOp, e41, e51]; clear e41 e51 hk; go_simp; exact hK)
              refine wpG_nil (fun w7' hl7' => ?_)
              refine fin_is ?_
              refine fin_is ?_
              refine fin_is ?_
              refine fin_is ?_
              refine fin_is ?_
              refine fin_is ?_
              refine fin_is ?_
              refine fin_is ?_
              refine fin_is ?_
              refine fin_is ?_
              refine fin_is ?_
              refine fin_is ?_
              refine fin_is ?_
              refine fin_is ?_
              refine fin_is ?_
              refine fin_is ?_
              refine fin_is ?_
              refine fin_is ?_
              refine fin_nil ?_
              subst ha0
              clear k0 k5 k6 k7 k8 k9 ks
              simp only [Act.put, List.setIfInBounds_toArray, List.set_cons_succ, List.set_cons_zero]
              go_wp2_with (fail)
              go_returns
              go_light
              exact ⟨false, rfl, (fun h => by cases h), Later.trans hB (hl5.trans (hl7.trans hl7'))⟩
          · have n1 : (Y = X) = False := eq_false hYX
            have n4 : (Y.toList == X.toList) = false := by rw [beqL]; simpa using hYX
            go_upto_region 10 with (fail)
            refine wp_region_grow 18 65 (by kernel_rfl) (by kernel_rfl) rfl (fun w7 hl7 => ?_)
            simp only [List.take_succ_cons, List.take_zero, List.drop_succ_cons, List.drop_zero]
            generalize ha : Act.mk _ _ = a0
            have k0 : a0.eval (.tmp 0) = .slice (some ad) l.length cap := by subst ha; rfl
            have k5 : a0.eval (.tmp 5) = .slice (some a5) q.length c5 := by subst ha; rfl
            have k6 : a0.eval (.tmp 6) = .slice (some a6) q.length c6 := by subst ha; rfl
            have k7 : a0.eval (.tmp 7) = .int .i64 k := by subst ha; rfl
            have k8 : a0.eval (.tmp 8) = .string X := by subst ha; rfl
            have k9 : a0.eval (.tmp 9) = .int .i64 m := by subst ha; rfl
            have ks : a0.tmps.size = 65 := by subst ha; rfl
            have ha0 := ha.symm
            clear ha
            refine wpG_move (fun a w hk => (hk 6 rfl : a.eval (.tmp 6) = a0.eval (.tmp 6)).trans k6) ?_
            refine wpG_move (fun a w hk => (hk 9 rfl : a.eval (.tmp 9) = a0.eval (.tmp 9)).trans k9) ?_
            apply wpG_value'
            · rfl
            · (intro a wx hlx hk K hK; have e35 : a.eval (.tmp 35) = _ := hk 35 rfl; have e36 : a.eval (.tmp 36) = _ := hk 36 rfl; simp only [execOp, e35, e36]; clear e35 e36 hk; go_simp; exact hK)
            refine wpG_load1 (hl7.cell e6) Try.underlying9 rfl (fun a w hk => hk 37 rfl) ?_
            refine wpG_move (fun a w hk => (hk 8 rfl : a.eval (.tmp 8) = a0.eval (.tmp 8)).trans k8) ?_
            apply wpG_value'
            · rfl
            · (intro a wx hlx hk K hK; have e38 : a.eval (.tmp 38) = _ := hk 38 rfl; have e39 : a.eval (.tmp 39) = _ := hk 39 rfl; simp only [execOp, e38, e39]; clear e38 e39 hk; go_simp; exact hK)
            refine wpG_move (fun a w hk => hk 40 rfl) ?_
            refine wpG_skip (fun a w hl hk => by have e : a.eval (.tmp 41) = .bool false := hk 41 rfl; rw [wanted_of rfl rfl e]; rfl) ?_
            refine wpG_skip (fun a w hl hk => by have e : a.eval (.tmp 41) = .bool false := hk 41 rfl; rw [wanted_of rfl rfl e]; rfl) ?_
            refine wpG_skip (fun a w hl hk => by have e : a.eval (.tmp 41) = .bool false := hk 41 rfl; rw [wanted_of rfl rfl e]; rfl) ?_
            refine wpG_skip (fun a w hl hk => by have e : a.eval (.tmp 41) = .bool false := hk 41 rfl; rw [wanted_of rfl rfl e]; rfl) ?_
            refine wpG_skip (fun a w hl hk => by have e : a.eval (.tmp 41) = .bool false := hk 41 rfl; rw [wanted_of rfl rfl e]; rfl) ?_
            refine wpG_skip (fun a w hl hk => by have e : a.eval (.tmp 41) = .bool false := hk 41 rfl; rw [wanted_of rfl rfl e]; rfl) ?_
            refine wpG_skip (fun a w hl hk => by have e : a.eval (.tmp 41) = .bool false := hk 41 rfl; rw [wanted_of rfl rfl e]; rfl) ?_
            refine wpG_skip (fun a w hl hk => by have e : a.eval (.tmp 41) = .bool false := hk 41 rfl; rw [wanted_of rfl rfl e]; rfl) ?_
            refine wpG_skip (fun a w hl hk => by have e : a.eval (.tmp 41) = .bool false := hk 41 rfl; rw [wanted_of rfl rfl e]; rfl) ?_
            refine wpG_skip (fun a w hl hk => by have e : a.eval (.tmp 41) = .bool false := hk 41 rfl; rw [wanted_of rfl rfl e]; rfl) ?_
            apply wpG_value'
            · rfl
            · (intro a wx hlx hk K hK; have e41 : a.eval (.tmp 41) = _ := hk 41 rfl; have e51 : a.eval (.tmp 51) = _ := hk 51 rfl; simp only [execOp, e41, e51]; clear e41 e51 hk; go_simp; exact hK)
            refine wpG_nil (fun w7' hl7' => ?_)
            refine fin_is ?_
            refine fin_is ?_
            refine fin_is ?_
            refine fin_is ?_
            refine fin_is ?_
            refine fin_is ?_
            refine fin_is ?_
            refine fin_is ?_
            refine fin_is ?_
            refine fin_is ?_
            refine fin_is ?_
            refine fin_is ?_
            refine fin_is ?_
            refine fin_is ?_
            refine fin_is ?_
            refine fin_is ?_
            refine fin_is ?_
            refine fin_is ?_
            refine fin_nil ?_
            subst ha0
            clear k0 k5 k6 k7 k8 k9 ks
            simp only [Act.put, List.setIfInBounds_toArray, List.set_cons_succ, List.set_cons_zero]
            go_wp2_with (fail)
            go_roundg (q.length - m)
            case measure => go_light; rw [hkg2.out]; omega
            case rel =>
              go_light
              refine ⟨m + 1, by go_num, by omega, by omega, fun j h h' hj => ?_, hl5.trans (hl7.trans hl7')⟩
              by_cases hjm : j = m
              · subst hjm
                rw [hy.out, hY.out] at hj
                exact absurd hj hYX
              · exact hall.out j h (by omega) hj
        · obtain rfl : m = q.length := by omega
          have ha5 := SRow.later _ _ _ hl5 ha.out
          have hb5 := SRow.later _ _ _ hl5 hb.out
          have hdd := hdab.out
          have hB5 := Later.trans hB hl5
          have hl0 : q.length ≤ 1048576 := by omega
          have hl1 : (q.map pathN).length ≤ 1048576 := by rw [hpl.out]; omega
          clear hR5 hR6
          go_wp2_with (first | (at_builtin; refine wl_appendRL (f := TxtV) (s := x.1) Try.underlying44 (z := .string ⟨#[]⟩) (by_ := 16) (by kernel_rfl) rfl (by decide) (by decide) (SRow.later _ _ _ ((Later.refl _).alloc _) ha5) (Whole.new _ _ _) rfl (TxtV_one x.1) hl0 (by have := hB5.size; go_size) rfl rfl (fun v6 w6 ho6 hg6 hp6 => ?_); have P6 := SRow.dis (SRow.later _ _ _ ((Later.refl wr).alloc (.cells (TxtV x.1).toArray 9)) hb5) hg6 hdd.symm; have D6 := Dis.grown hdd.symm hb5 hp6 (by simp); have hB6 := below_own (Below.alloc hB5 hB5.size (.cells (TxtV x.1).toArray 9)) (SRow.later _ _ _ ((Later.refl wr).alloc (.cells (TxtV x.1).toArray 9)) ha5) (Nat.le_refl _) hg6) | (at_builtin; refine wl_appendRL (f := TxtV) (s := X) Try.underlying44 (z := .string ⟨#[]⟩) (by_ := 16) (by kernel_rfl) rfl (by decide) (by decide) (SRow.later _ _ _ ((Later.refl _).alloc _) P6) (Whole.new _ _ _) rfl (TxtV_one X) hl1 (by have := hB6.size; go_size) rfl rfl (fun v7 w7 ho7 hg7 hp7 => ?_)))
          have Q7 := SRow.later _ _ _ ((Later.refl w6).alloc (.cells (TxtV X).toArray 9)) P6
          have A7 := SRow.dis (SRow.later _ _ _ ((Later.refl w6).alloc (.cells (TxtV X).toArray 9)) ho6) hg7 D6.symm
          have D7 := Dis.grown D6.symm ho6 hp7 (by simp)
          have hB7 := below_own (Below.alloc hB6 hB6.size (.cells (TxtV X).toArray 9)) Q7 (Nat.le_refl _) hg7
          have hap' : ApartL (q ++ [x.1]) := hap.out.snoc (fun y hy e => by
            obtain ⟨j, hj, rfl⟩ := List.getElem_of_mem hy
            exact hall.out j hj hj (e.trans hX.out))
          replace hap' := Lib.hid hap'
          go_wp2_with (fail)
          go_roundg (l.length - k)
          case measure => go_light; rw [hkg.out]; omega
          case rel =>
            go_light
            refine ⟨k + 1, by go_num, by omega, by omega, by rw [hnx.out]; exact A7, ?_, D7, by rw [hnx.out]; exact hap'.out, hB7⟩
            rw [hnx.out, List.map_append, List.map_singleton, hX.out]
            exact ho7
    · obtain rfl : k = l.length := by omega
      go_wp2_with (fail)
      go_returns
      go_light
      exact ⟨true, rfl, fun _ => by rw [← hqN.out]; exact hap.out, hB⟩
end Go.Proofs.Ytknjbkbbhgjnlaa
