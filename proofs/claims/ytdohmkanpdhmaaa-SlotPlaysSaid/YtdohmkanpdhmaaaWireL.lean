/- Contracts of package wire: lists read; the reference's lists. -/
import Derived.Test.YtdohmkanpdhmaaaWire3
import Derived.Test.YtdohmkanpdhmaaaWireH
import Derived.Test.YtdohmkanpdhmaaaKinds
import Derived.Laws.AppendOwn
import Derived.Below
namespace Go.Proofs.Ytdohmkanpdhmaaa
open Go.RowKit
set_option linter.unusedVariables false
set_option linter.unusedSimpArgs false
/-- A row of the call's own is read as a row. -/
theorem own_rows {w : World} {base : Nat} {e : TypeId} {v : Value} {l : List ByteArray} (h : w.ownsRow base e 1 v l.length (l.map Value.string)) (hl : l.length ≤ 9223372036854775807) :
    ∃ A c, v = .slice A l.length c ∧ l.length ≤ c ∧ Kn.str.Rows w A l := by
  rcases h.2 with ⟨rfl, hn⟩ | ⟨g, cap, cur, rfl, hb, hgg, hc, _⟩
  · refine ⟨none, 0, by rw [hn], by omega, hl, fun h => absurd h (by omega)⟩
  · refine ⟨some ⟨g, 0, none⟩, cap, rfl, hc, hl, fun _ => ⟨_, rfl, (Array.getElem?_eq_some_iff.1 hgg).1, fun j x hj => ⟨[.string x], rfl, fun i u hu => ?_⟩⟩⟩
    match i, hu with
    | 0, hu =>
      simp at hu
      subst hu
      refine h.cells rfl _ _ ?_
      show (l.map Value.string)[j * 1 + 0]? = _
      simp [hj]
theorem str_info : ∃ i z, (Try.prog.info? 9) = some i ∧ i.zero = some z ∧ i.size = 1 ∧ i.bytes = 16 ∧ z.cells.size = 1 := by
  have h : (Try.prog.info? 9).map (fun i => (i.zero.map (·.cells.size), i.size, i.bytes)) = some (some 1, 1, 16) := by kernel_rfl
  generalize Try.prog.info? 9 = o at h
  cases o with
  | none => cases h
  | some i =>
    simp only [Option.map_some, Option.some.injEq, Prod.mk.injEq] at h
    obtain ⟨h1, h2, h3⟩ := h
    cases hz : i.zero with
    | none => rw [hz] at h1; cases h1
    | some z => rw [hz] at h1; exact ⟨i, z, rfl, hz, h2, h3, by simpa using h1⟩
theorem num_bounds (r : Rd) : 0 ≤ r.num.1 ∧ r.num.1 < 4294967296 := by
  have h := beNum_bound (r.cut 4).1.data.toList
  have h4 := cutS_le r.b r.x 4
  have hl : (r.cut 4).1.data.toList.length ≤ 4 := by rw [dataL]; exact h4
  have e : r.num.1 = beNum (r.cut 4).1.data.toList := rfl
  rw [e]
  generalize (r.cut 4).1.data.toList.length = n at h hl
  match n, hl with
  | 0, _ => omega
  | 1, _ => omega
  | 2, _ => omega
  | 3, _ => omega
  | 4, _ => omega
/-- What a reader of lists returns. -/
def ListRet (e : Ending) (w' : World) (l : List ByteArray) (n : Int) : Prop := ∃ A c, e = .returned (.tuple #[.slice A l.length c, .int .i64 n]) ∧ l.length ≤ c ∧ Kn.str.Rows w' A l
theorem texts_done (k : Nat) (r : Rd) (h : k = 0 ∨ r.x = true) : Rd.texts k r = ([], r) := by
  rcases h with rfl | h
  · rfl
  · cases k with
    | zero => rfl
    | succ k => unfold Rd.texts; rw [if_pos h]
set_option maxHeartbeats 1000000 in
set_option maxRecDepth 100000 in
theorem readList_calls (b : ByteArray) (w : World) :
    Calls Try.prog 33 #[.string b] w fun e w' => ListRet e w' (readList b).1 (readList b).2 ∧ Below w.heap.size w w' := by
  have hq : readList b = (let r := ((⟨b, false⟩ : Rd).mark (lit [76])).num
    let t := Rd.texts r.1.toNat ⟨r.2.b, r.2.x || decide (1000 < r.1)⟩
    if t.2.done then (t.1, 0) else ([], 2)) := rfl
  generalize hr : readList b = r at hq
  have Hq := Lib.hid hq
  clear hq hr
  obtain ⟨si, sz, hi, hz, hz1, hz2, hz3⟩ := str_info
  replace hi := Lib.hid hi
  replace hz := Lib.hid hz
  replace hz1 := Lib.hid hz1
  replace hz2 := Lib.hid hz2
  replace hz3 := Lib.hid hz3
  go_enter Try.func33, Try.ntmps33
  obtain ⟨r1, hs1⟩ : ∃ r1, (⟨b, false⟩ : Rd).mark (lit [76]) = r1 := ⟨_, rfl⟩
  have M1 : Calls Try.prog 46 #[.pointer (some ⟨w.heap.size, 0, none⟩), .string ⟨#[76]⟩] (w.alloc (.cells #[.string b, .bool false] 90)) (fun e w' => e = .returned (.tuple #[]) ∧ Whole w' w.heap.size 90 r1.A ∧ (w.alloc (.cells #[.string b, .bool false] 90)).grownBy w' (some w.heap.size)) := by
    rw [← hs1]
    exact rmark ⟨b, false⟩ (lit [76]) w.heap.size _ (Whole.new _ _ _)
  replace hs1 := Lib.hid hs1
  replace M1 := Lib.hid M1
  go_upto_region 4 with (first | ((with_reducible refine M1.out.mono ?_); rintro e w1 ⟨rfl, hw1, hg1⟩) | ((with_reducible refine (rnum r1 _ _ hw1).mono ?_); rintro e w2 ⟨rfl, hw2, hg2⟩))
  have hB : Below w.heap.size w w2 := by
    refine below_only' (below_only' ?_ hg1 ?_) hg2 ?_
    all_goals first | go_grown | omega
  have hb0 := (num_bounds r1).1
  have hb1 := (num_bounds r1).2
  generalize hn : r1.num.1 = n at *
  generalize hr2 : r1.num.2 = r2 at *
  have Hn := Lib.hid hn
  have Hr2 := Lib.hid hr2
  clear hn hr2 hg1 hg2 hw1 M1
  obtain ⟨k0, rfl⟩ : ∃ k : Nat, n = (k : Int) := ⟨n.toNat, by omega⟩
  obtain ⟨b2, x2⟩ := r2
  have c1 : w2.cell? ⟨w.heap.size, 1, none⟩ = some (.bool x2) := hw2.cell 1
  have f1 : w2.frozen? ⟨w.heap.size, 1, none⟩ = false := hw2.frozen 1
  obtain ⟨y, hy⟩ : ∃ y, (x2 || decide (1000 < (k0 : Int))) = y := ⟨_, rfl⟩
  have hw3 := hw2.put' 1 (.bool y) (ds := (Rd.mk b2 y).A) rfl
  have hB3 : Below w.heap.size w (w2.setCell ⟨w.heap.size, 1, none⟩ (.bool y)) := below_only' hB (only_put (only_same _ _) (.inl rfl) _) (Nat.le_refl _)
  replace hb0 := Lib.hid hb0
  replace hb1 := Lib.hid hb1
  replace hy := Lib.hid hy
  go_cut [] (fun wc => Whole wc w.heap.size 90 (Rd.mk b2 y).A ∧ Below w.heap.size w wc)
  case first =>
    have hy' := hy.out
    cases x2
    · by_cases hk : 1000 < (k0 : Int)
      · obtain rfl : true = y := by simpa [hk] using hy'
        clear hy'
        go_wp2
        go_meet
        exact ⟨hw3, hB3⟩
      · obtain rfl : false = y := by simpa [hk] using hy'
        clear hy'
        go_wp2
        go_meet
        exact ⟨hw3, hB3⟩
    · obtain rfl : true = y := by simpa using hy'
      clear hy'
      go_wp2
      go_meet
      exact ⟨hw3, hB3⟩
  case rest =>
  obtain ⟨hw4, hB4⟩ := hcut
  clear hw3 hB3 hw2 hB c1 f1
  have hl0 : wc.ownsRow (w.heap.size + 1) 9 1 (.slice none 0 0) 0 [] := World.ownsRow_nil _ _ _ _
  obtain ⟨L, hL⟩ : ∃ L, (Rd.texts k0 ⟨b2, y⟩).1 = L := ⟨_, rfl⟩
  obtain ⟨R, hR⟩ : ∃ R, (Rd.texts k0 ⟨b2, y⟩).2 = R := ⟨_, rfl⟩
  have HR : r = if R.done then (L, 0) else ([], 2) := by
    have := Hq.out
    simp only [hs1.out, Hn.out, Hr2.out, hy.out, Int.toNat_natCast, hL, hR] at this
    exact this
  replace HR := Lib.hid HR
  replace hL := Lib.hid hL
  replace hR := Lib.hid hR
  clear Hq hs1 Hn Hr2 hy
  go_wp2_with fail
  go_loopg [5, 6] (k0 + 1) (fun kg n v wr => ∃ (k : Nat) (acc : List ByteArray) (r : Rd), kg = k + 1 ∧ n = .int .i64 k ∧ acc.length + k ≤ k0 ∧ wr.ownsRow (w.heap.size + 1) 9 1 v acc.length (acc.map Value.string) ∧ Whole wr w.heap.size 90 r.A ∧ Below w.heap.size w wr ∧ acc ++ (Rd.texts k r).1 = L ∧ (Rd.texts k r).2 = R)
  case atStart => exact ⟨k0, [], ⟨b2, y⟩, rfl, rfl, by simp, hl0, hw4, hB4, by simpa using hL.out, hR.out⟩
  case round =>
    clear hl0 hw4 hB4 hL hR
    obtain ⟨k, acc, ⟨rb, rx⟩, hkg, rfl, hlen, hown, hw5, hB5, h1, h2⟩ := hrel
    replace hkg := Lib.hid hkg
    have hg0 := hw5.lt
    have c1 : wr.cell? ⟨w.heap.size, 1, none⟩ = some (.bool rx) := hw5.cell 1
    have hbb := hb1.out
    by_cases hend : k = 0 ∨ rx = true
    · have e := texts_done k ⟨rb, rx⟩ hend
      rw [e] at h1 h2
      simp only [List.append_nil] at h1 h2
      subst h1
      subst h2
      have D : Calls Try.prog 49 #[.pointer (some ⟨w.heap.size, 0, none⟩)] wr fun e w' => e = .returned (.bool (Rd.done ⟨rb, rx⟩)) ∧ wr = w' := rdone _ _ _ hw5
      obtain ⟨A, c, rfl, hcap, hrows⟩ := own_rows hown (by omega)
      have hpos : k = 0 ∨ (0 < k ∧ rx = true) := by
        rcases hend with h | h
        · exact .inl h
        · rcases Nat.eq_zero_or_pos k with h0 | h0
          · exact .inl h0
          · exact .inr ⟨h0, h⟩
      have hq := HR.out
      cases hd : Rd.done ⟨rb, rx⟩
      · rw [hd] at D hq
        simp only [Bool.false_eq_true, if_false] at hq
        subst hq
        replace D := Lib.hid D
        clear HR hend e hown hw5 hg0 hd hrows hcap
        rcases hpos with rfl | ⟨hk, rfl⟩
        all_goals go_wp2_with ((with_reducible refine D.out.mono ?_); rintro e w3 ⟨rfl, rfl⟩)
        all_goals go_returns
        all_goals go_light
        all_goals exact ⟨⟨none, 0, rfl, by simp, Kn.Rows.none_ _ _ _⟩, hB5⟩
      · rw [hd] at D hq
        simp only [if_true] at hq
        subst hq
        replace D := Lib.hid D
        clear HR hend e hown hw5 hg0 hd
        rcases hpos with rfl | ⟨hk, rfl⟩
        all_goals go_wp2_with ((with_reducible refine D.out.mono ?_); rintro e w3 ⟨rfl, rfl⟩)
        all_goals go_returns
        all_goals go_light
        all_goals exact ⟨⟨A, c, rfl, hcap, hrows⟩, hB5⟩
    · obtain ⟨k, rfl⟩ : ∃ j, k = j + 1 := ⟨k - 1, by omega⟩
      obtain rfl : rx = false := by simpa using fun h => hend (.inr h)
      have e1 : Rd.texts (k + 1) ⟨rb, false⟩ = ((⟨rb, false⟩ : Rd).text.1 :: (Rd.texts k (⟨rb, false⟩ : Rd).text.2).1, (Rd.texts k (⟨rb, false⟩ : Rd).text.2).2) := rfl
      rw [e1] at h1 h2
      simp only at h1 h2
      have hown' := hown.lt
      have T1 := rtext ⟨rb, false⟩ w.heap.size wr hw5
      generalize hx1 : (⟨rb, false⟩ : Rd).text.1 = s at *
      generalize hx2 : (⟨rb, false⟩ : Rd).text.2 = r' at *
      replace h1 := Lib.hid h1
      replace h2 := Lib.hid h2
      replace hown' := Lib.hid hown'
      replace T1 := Lib.hid T1
      clear hx1 hx2 e1 hend HR
      go_wp2_with (fail)
      refine T1.out.mono ?_
      rintro e w2 ⟨rfl, hw6, hg6⟩
      have hown2 := hown.kept hg6 (.inr (fun q => by have := (hown'.out _ q).1; omega))
      have hB6 := below_only' hB5 hg6 (Nat.le_refl _)
      clear hown hw5 hB5 hg6 T1 c1 hown'
      go_wp2_with (at_builtin; refine wpList_append_own _ rfl _ _ 33 rfl (w.heap.size + 1) 9 si sz 1 16 Try.underlying33 hi.out hz.out hz1.out hz2.out hz3.out (by decide) _ acc.length (acc.map Value.string) rfl (hown2.alloc _) ⟨w2.heap.size, 0, none⟩ 1 1 [.string s] rfl rfl ?c1 ?c2 ?c3 ?c4 ?c5 ?_)
      case c1 =>
        intro j u hj
        match j, hj with
        | 0, hj => simp at hj; subst hj; simp [Addr.add]
      case c2 => intro u hu; simp at hu; subst hu; rfl
      case c3 => unfold maxLen; omega
      case c4 => omega
      case c5 => have := hB6.size; have := hw6.lt; go_size
      intro v' w3 ho3 hg3 hv3
      have hw7 : Whole w3 w.heap.size 90 r'.A := Whole.only (hw6.alloc _) hg3 (fun q => by have := ((hown2.alloc (.cells #[.string s] 9)).lt _ q.symm).1; omega)
      have hB7 : Below w.heap.size w w3 := (hB6.alloc hB6.size _).grown hg3 (by have := hB6.size; go_size) (fun q e => by have := (hown2.lt _ e).1; omega)
      clear hg3 hv3 hown2 hB6 hw6
      go_wp2_with fail
      go_roundg (k + 1)
      case measure => go_light; rw [hkg.out]; omega
      case rel =>
        go_light
        refine ⟨k, acc ++ [s], r', rfl, ?_, ?_, ?_, hw7, hB7, ?_, h2.out⟩
        · go_num
        · simp; omega
        · simpa using ho3
        · rw [List.append_assoc]; exact h1.out
end Go.Proofs.Ytdohmkanpdhmaaa
