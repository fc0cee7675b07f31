/- The walk of the law SlotPlays. No conditions. -/
import Derived.Test.YtdohmkanpdhmaaaHist3
import Derived.Test.YtdohmkanpdhmaaaSlotKinds
namespace Go.Proofs.Ytdohmkanpdhmaaa
open Go.RowKit
set_option linter.unusedVariables false
set_option linter.unusedSimpArgs false
theorem do_calls (a : Bool) (n : Int) (v : ByteArray) (W : World) (g base : Nat) (h : HS) (v0 v1 v2 : Value) (hH : HistAt W g base h v0 v1 v2)
    (hn : h.pl.length ≤ 1099511627776) (hn1 : h.al.length ≤ 1099511627776) (hn2 : h.vl.length ≤ 1099511627776) :
    Calls Try.prog 19 #[.pointer (some ⟨g, 0, none⟩), .agg #[.bool a, .int .i64 n, .string v]] W fun e w' => e = .returned (.bool (h.play a n v).2) ∧ DoneAt W w' g base (h.play a n v).1 := by
  by_cases hc : n < 1 ∨ 2147483647 < n ∨ n < most h.pl ∨ (n = most h.pl ∧ a = false)
  · have hp : h.play a n v = (h, false) := by unfold HS.play; rw [if_pos hc]
    rw [hp]
    exact do_not a n v W g base h v0 v1 v2 hH hn hc
  · have hp : h.play a n v = (⟨h.pl ++ [n], if a then h.al ++ [n] else h.al, if a then h.vl ++ [v] else h.vl⟩, true) := by unfold HS.play; rw [if_neg hc]
    rw [hp]
    exact do_yes a n v W g base h v0 v1 v2 hH hn hn1 hn2 hc
theorem now_calls (W : World) (g base : Nat) (h : HS) (v0 v1 v2 : Value) (hH : HistAt W g base h v0 v1 v2)
    (hn : h.pl.length ≤ 1099511627776) (hn1 : h.al.length ≤ 1099511627776) (hl : h.al.length = h.vl.length) :
    Calls Try.prog 20 #[.pointer (some ⟨g, 0, none⟩)] W fun e w' => e = .returned (.agg h.now.A) ∧ Below W.heap.size W w' := by
  match q : h.al.length with
  | 0 => exact now_none W g base h v0 v1 v2 hH hn (List.eq_nil_of_length_eq_zero q) (List.eq_nil_of_length_eq_zero (by omega))
  | k + 1 => exact now_some W g base h v0 v1 v2 hH hn hn1 (by omega) k k q (by omega)
theorem KeptH.to {base g : Nat} {w W W' : World} (hb : Below w.heap.size w W) (h : KeptH base g W W') (h1 : w.heap.size ≤ base) (h2 : w.heap.size ≤ g) : Below w.heap.size w W' :=
  ⟨h.os.trans hb.os, h.tape.trans hb.tape, h.output.trans hb.output, Nat.le_trans hb.size h.size, fun k hk => (h.old k (Nat.lt_of_lt_of_le hk h1) (Nat.lt_of_lt_of_le hk hb.size) (by omega)).trans (hb.block k hk)⟩
theorem HistAt.only {W W' : World} {g base k : Nat} {h : HS} {v0 v1 v2 : Value} (H : HistAt W g base h v0 v1 v2) (hg : W.grownBy W' (some k)) (hk : k < base) (hne : k ≠ g) : HistAt W' g base h v0 v1 v2 := by
  have hn : ∀ (e : TypeId) (v : Value) (n : Nat) (xs : List Value), W.ownsRow base e 1 v n xs → v.ownBlock = none ∨ v.ownBlock ≠ some k := fun e v n xs ho => by
    cases hv : v.ownBlock with
    | none => exact .inl rfl
    | some j => exact .inr (fun q => by have := (ho.lt j hv).1; simp only [Option.some.injEq] at q; omega)
  exact ⟨H.blk.only hg (by simpa using fun q => hne q.symm), H.r0.kept hg (hn _ _ _ _ H.r0), H.r1.kept hg (hn _ _ _ _ H.r1), H.r2.kept hg (hn _ _ _ _ H.r2), H.ne, H.lt, Nat.le_trans H.bs hg.size⟩
theorem play_len {h : HS} {k : Nat} (a : Bool) (n : Int) (v : ByteArray) (h1 : h.pl.length ≤ k) (h2 : h.al.length ≤ k) (h3 : h.vl.length ≤ k) : (h.play a n v).1.pl.length ≤ k + 1 ∧ (h.play a n v).1.al.length ≤ k + 1 ∧ (h.play a n v).1.vl.length ≤ k + 1 := by
  unfold HS.play
  split
  · exact ⟨Nat.le_succ_of_le h1, Nat.le_succ_of_le h2, Nat.le_succ_of_le h3⟩
  · cases a <;> simp <;> omega
theorem hist_new (W : World) (o : Obj) : HistAt ((W.alloc o).alloc (.cells #[.slice none 0 0, .slice none 0 0, .slice none 0 0] 35)) (W.heap.size + 1) (W.heap.size + 2) ⟨[], [], []⟩ (.slice none 0 0) (.slice none 0 0) (.slice none 0 0) :=
  ⟨Whole.new1 W o 35 _, ⟨rfl, .inl ⟨rfl, rfl⟩⟩, ⟨rfl, .inl ⟨rfl, rfl⟩⟩, ⟨rfl, .inl ⟨rfl, rfl⟩⟩, .inl rfl, by omega, by simp⟩
set_option maxHeartbeats 400000 in
set_option maxRecDepth 100000 in
theorem slotPlays_round (A : Option Addr) (l : List SO) (cap : Nat) (w : World) (hr : SO.K.Rows w A l) (hl : l.length ≤ 60) :
    Calls Try.prog 4 #[.slice A l.length cap] w fun e w' => e = .returned (.bool true) ∧ Below w.heap.size w w' := by
  replace hr := Lib.hid hr
  have hd : decide ((60 : Int) < (l.length : Int)) = false := by simp; omega
  have hB : Below w.heap.size w w := Below.refl _ _
  go_enter Try.func4, Try.ntmps4
  go_wp2_with fail
  refine (awake17_calls _).mono ?_
  rintro e w1 ⟨rfl, hb1⟩
  replace hB := below_next' (by first | (with_reducible exact hB) | (with_reducible exact hB.alloc hB.size _) | (with_reducible exact (hB.alloc hB.size _).alloc (hB.alloc hB.size _).size _) | exact below_drewN' hB _) hb1
  have hs := (Whole.new w1 23 #[.int .i64 0, .int .i64 0, .string ⟨#[]⟩]).alloc (.cells #[.slice none 0 0, .slice none 0 0, .slice none 0 0] 35)
  have hH := hist_new w1 (Obj.cells #[Value.int .i64 0, Value.int .i64 0, Value.string ⟨#[]⟩] 23)
  have hB2 : Below w.heap.size w ((w1.alloc (Obj.cells #[Value.int .i64 0, Value.int .i64 0, Value.string ⟨#[]⟩] 23)).alloc (.cells #[.slice none 0 0, .slice none 0 0, .slice none 0 0] 35)) := (hB.alloc hB.size _).alloc (hB.alloc hB.size _).size _
  have hsz := hB.size
  replace hH := Lib.hid hH
  go_wp2
  go_loopg [5] (l.length + 1) (fun kg i wr => ∃ (k : Nat) (h : HS) (v0 v1 v2 : Value), k ≤ l.length ∧ kg = l.length + 1 - k ∧ i = .int .i64 k ∧ Whole wr w1.heap.size 23 h.now.A ∧ HistAt wr (w1.heap.size + 1) (w1.heap.size + 2) h v0 v1 v2 ∧ h.pl.length ≤ k ∧ h.al.length ≤ k ∧ h.al.length = h.vl.length ∧ Below w.heap.size w wr)
  case atStart => exact ⟨0, ⟨[], [], []⟩, _, _, _, Nat.zero_le _, rfl, rfl, hs, hH.out, Nat.le_refl _, Nat.le_refl _, rfl, hB2⟩
  case round =>
    clear hs hH hB2 hb1
    replace hB := Lib.hid hB
    obtain ⟨k, h, v0, v1, v2, hk, hkg, rfl, hs, hH, lp, la, lv, hBr⟩ := hrel
    replace hkg := Lib.hid hkg
    by_cases hlt : k < l.length
    · obtain ⟨ad, hA, hadlt0, f0, f1, f2⟩ := SO.at_ hr.out hlt
      subst hA
      generalize l[k] = x at f0 f1 f2
      obtain ⟨a, n, v⟩ := x
      simp only at f0 f1 f2
      have hadlt := Nat.lt_of_lt_of_le hadlt0 hBr.size
      have e0 := cell_keep f0 hBr
      have e1 := cell_keep f1 hBr
      have e2 := cell_keep f2 hBr
      have hF : ∀ V, Below w.heap.size w V → V.cell? (ad.add (k * 3)) = some (.bool a) ∧ V.cell? ⟨(ad.add (k * 3)).block, (ad.add (k * 3)).off + 1, none⟩ = some (.int .i64 n) ∧ V.cell? ⟨(ad.add (k * 3)).block, (ad.add (k * 3)).off + 2, none⟩ = some (.string v) := fun V hV => ⟨cell_keep f0 hV, cell_keep f1 hV, cell_keep f2 hV⟩
      replace hF := Lib.hid hF
      clear f0 f1 f2
      obtain ⟨s, hsn⟩ : ∃ s, s = h.now := ⟨_, rfl⟩
      rw [← hsn] at hs
      have hstep := plays_step hsn lv a n v
      have hlen := play_len a n v lp la (by omega)
      have hDo := fun W (H : HistAt W (w1.heap.size + 1) (w1.heap.size + 2) h v0 v1 v2) => do_calls a n v W _ _ h v0 v1 v2 H (by omega) (by omega) (by omega)
      obtain ⟨h', hp⟩ : ∃ r, (h.play a n v).1 = r := ⟨_, rfl⟩
      obtain ⟨ok, hq⟩ : ∃ r, (h.play a n v).2 = r := ⟨_, rfl⟩
      simp only [hp, hq] at hstep hlen hDo
      have hNow := fun W u0 u1 u2 (H : HistAt W (w1.heap.size + 1) (w1.heap.size + 2) h' u0 u1 u2) => now_calls W _ _ h' u0 u1 u2 H (by omega) (by omega) hstep.2.2
      obtain ⟨p, q, u⟩ := s
      obtain ⟨⟨⟨p1, q1, u1⟩, ok1⟩, h1⟩ : ∃ r, SL.promise ⟨p, q, u⟩ n = r := ⟨_, rfl⟩
      obtain ⟨⟨⟨p2, q2, u2⟩, ok2⟩, h2⟩ : ∃ r, SL.accept ⟨p, q, u⟩ n v = r := ⟨_, rfl⟩
      have P1 := fun W => promise_calls ⟨p, q, u⟩ n W
      have P2 := fun W => accept_calls ⟨p, q, u⟩ n v W
      simp only [h1, SLB, SL.A] at P1
      simp only [h2, SLB, SL.A] at P2
      simp only [h1, h2] at hstep
      simp only [SL.A] at hs
      obtain ⟨hok, hnow, hlen2⟩ := hstep
      replace P1 := Lib.hid P1
      replace P2 := Lib.hid P2
      replace hDo := Lib.hid hDo
      replace hNow := Lib.hid hNow
      replace hH := Lib.hid hH
      replace hnow := Lib.hid hnow
      replace hok := Lib.hid hok
      clear h1 h2 hp hq hsn
      have c0 : wr.cell? ⟨w1.heap.size, 0, none⟩ = some (.int .i64 p) := hs.cell 0
      have c1 : wr.cell? ⟨w1.heap.size, 1, none⟩ = some (.int .i64 q) := hs.cell 1
      have c2 : wr.cell? ⟨w1.heap.size, 2, none⟩ = some (.string u) := hs.cell 2
      have hne : w1.heap.size ≠ wr.heap.size := Nat.ne_of_lt hs.lt
      have hne2 : (ad.add (k * 3)).block ≠ wr.heap.size := by rw [block_add]; exact Nat.ne_of_lt hadlt
      have hlt1 := hs.lt
      go_upto_region 8 with (fail)
      go_cut [6, 7] (fun x y wc => ∃ (g : Nat), x = .pointer (some ⟨g, 0, none⟩) ∧ y = .bool ok1 ∧ Whole wc g 23 #[.int .i64 p1, .int .i64 q1, .string u1] ∧ Below wr.heap.size wr wc ∧ wr.heap.size ≤ g)
      case first =>
        go_region_held3 (fun W : World => W.cell? ⟨w1.heap.size, 0, none⟩ = some (.int .i64 p) ∧ W.cell? ⟨w1.heap.size, 1, none⟩ = some (.int .i64 q) ∧ W.cell? ⟨w1.heap.size, 2, none⟩ = some (.string u) ∧ W.cell? ⟨(ad.add (k * 3)).block, (ad.add (k * 3)).off + 1, none⟩ = some (.int .i64 n)) (first | (with_reducible exact ⟨c0, c1, c2, e1⟩) | go_keep | exact ⟨cell_set3 j0 hne _ _ _ _ _ _, cell_set3 j1 hne _ _ _ _ _ _, cell_set3 j2 hne _ _ _ _ _ _, cell_set3 j3 hne2 _ _ _ _ _ _⟩) (first | (go_simp; (with_reducible refine (P1.out (World.drew wr)).mono ?_); rintro e w3 ⟨rfl, hb3⟩; have js := hs.drew.below hb3 hs.drew.lt; have jB := below_next' (Below.refl wr.heap.size wr).drew hb3; have j0 : w3.cell? ⟨w1.heap.size, 0, none⟩ = some (.int .i64 p) := js.cell 0; have j1 : w3.cell? ⟨w1.heap.size, 1, none⟩ = some (.int .i64 q) := js.cell 1; have j2 : w3.cell? ⟨w1.heap.size, 2, none⟩ = some (.string u) := js.cell 2; have j3 := cell_keep (W := wr.drew) e1 hb3) | (go_simp; (with_reducible refine (P1.out (World.drew (World.alloc wr (Obj.cells #[Value.int .i64 0, Value.int .i64 0, Value.string ⟨#[]⟩] 23)))).mono ?_); rintro e w3 ⟨rfl, hb3⟩; have js := (hs.alloc (Obj.cells #[Value.int .i64 0, Value.int .i64 0, Value.string ⟨#[]⟩] 23)).drew.below hb3 (hs.alloc (Obj.cells #[Value.int .i64 0, Value.int .i64 0, Value.string ⟨#[]⟩] 23)).drew.lt; have jm := (Whole.new wr 23 #[.int .i64 0, .int .i64 0, .string ⟨#[]⟩]).drew.below hb3 (Whole.new wr 23 #[.int .i64 0, .int .i64 0, .string ⟨#[]⟩]).drew.lt; have jB := below_next' ((Below.refl wr.heap.size wr).alloc (Nat.le_refl _) (Obj.cells #[Value.int .i64 0, Value.int .i64 0, Value.string ⟨#[]⟩] 23)).drew hb3; have j0 : w3.cell? ⟨w1.heap.size, 0, none⟩ = some (.int .i64 p) := js.cell 0; have j1 : w3.cell? ⟨w1.heap.size, 1, none⟩ = some (.int .i64 q) := js.cell 1; have j2 : w3.cell? ⟨w1.heap.size, 2, none⟩ = some (.string u) := js.cell 2; have mc := jm.cell; have mf := jm.frozen; have j3 := cell_keep (W := World.drew (World.alloc wr (Obj.cells #[Value.int .i64 0, Value.int .i64 0, Value.string ⟨#[]⟩] 23))) (cell_alloc e1 (Obj.cells #[Value.int .i64 0, Value.int .i64 0, Value.string ⟨#[]⟩] 23)) hb3))
        all_goals (go_wp2_with (fail); go_meet)
        · exact ⟨_, rfl, rfl, Whole.new _ _ _, jB.alloc jB.size _, jB.size⟩
        · exact ⟨_, rfl, rfl, ((jm.put 0 _).put 1 _).put' 2 _ rfl, ((jB.setCell (p := ⟨wr.heap.size, 0, none⟩) (Nat.le_refl _) _).setCell (p := ⟨wr.heap.size, 1, none⟩) (Nat.le_refl _) _).setCell (p := ⟨wr.heap.size, 2, none⟩) (Nat.le_refl _) _, Nat.le_refl _⟩
      case rest =>
        obtain ⟨g, rfl, rfl, hx, hBc, hg⟩ := hcut
        replace hs := hs.below hBc hs.lt
        replace e0 := cell_keep e0 hBc
        replace e1 := cell_keep e1 hBc
        replace e2 := cell_keep e2 hBc
        have hadg : (ad.add (k * 3)).block ≠ g := by rw [block_add]; omega
        have hgw : w1.heap.size < g := by omega
        obtain ⟨wb, hwb⟩ : ∃ x, x = wc := ⟨_, rfl⟩
        subst hwb
        replace hadlt := Nat.lt_of_lt_of_le hadlt hBc.size
        have hBw := hBc
        clear c0 c1 c2 hne hne2
        go_upto_if 38 with (fail)
        go_cut [7] (fun y wc => ∃ (x z : Int) (t : ByteArray), y = .bool ok ∧ Whole wc g 23 #[.int .i64 x, .int .i64 z, .string t] ∧ Whole wc w1.heap.size 23 #[.int .i64 p, .int .i64 q, .string u] ∧ h'.now = ⟨x, z, t⟩ ∧ wb.grownBy wc (some g))
        case first =>
          cases a
          · go_wp2_with (fail)
            go_meet
            case rel => exact ⟨p1, q1, u1, by rw [hok.out]; rfl, hx, hs, by rw [hnow.out]; rfl, only_same _ _⟩
          · have c0 : wb.cell? ⟨w1.heap.size, 0, none⟩ = some (.int .i64 p) := hs.cell 0
            have c1 : wb.cell? ⟨w1.heap.size, 1, none⟩ = some (.int .i64 q) := hs.cell 1
            have c2 : wb.cell? ⟨w1.heap.size, 2, none⟩ = some (.string u) := hs.cell 2
            have hne : w1.heap.size ≠ wb.heap.size := Nat.ne_of_lt hs.lt
            have hne2 : (ad.add (k * 3)).block ≠ wb.heap.size := by rw [block_add]; exact Nat.ne_of_lt hadlt
            go_upto_region 10 with (fail)
            go_cut [8, 9] (fun x y wc => ∃ (g2 : Nat), x = .pointer (some ⟨g2, 0, none⟩) ∧ y = .bool ok2 ∧ Whole wc g2 23 #[.int .i64 p2, .int .i64 q2, .string u2] ∧ Below wb.heap.size wb wc ∧ wb.heap.size ≤ g2)
            case first =>
              go_region_held3 (fun W : World => W.cell? ⟨w1.heap.size, 0, none⟩ = some (.int .i64 p) ∧ W.cell? ⟨w1.heap.size, 1, none⟩ = some (.int .i64 q) ∧ W.cell? ⟨w1.heap.size, 2, none⟩ = some (.string u) ∧ W.cell? ⟨(ad.add (k * 3)).block, (ad.add (k * 3)).off + 1, none⟩ = some (.int .i64 n) ∧ W.cell? ⟨(ad.add (k * 3)).block, (ad.add (k * 3)).off + 2, none⟩ = some (.string v)) (first | (with_reducible exact ⟨c0, c1, c2, e1, e2⟩) | go_keep | exact ⟨cell_set3 j0 hne _ _ _ _ _ _, cell_set3 j1 hne _ _ _ _ _ _, cell_set3 j2 hne _ _ _ _ _ _, cell_set3 j3 hne2 _ _ _ _ _ _, cell_set3 j4 hne2 _ _ _ _ _ _⟩) (first | (go_simp; (with_reducible refine (P2.out (World.drew wb)).mono ?_); rintro e w3 ⟨rfl, hb3⟩; have js := hs.drew.below hb3 hs.drew.lt; have jB := below_next' (Below.refl wb.heap.size wb).drew hb3; have j0 : w3.cell? ⟨w1.heap.size, 0, none⟩ = some (.int .i64 p) := js.cell 0; have j1 : w3.cell? ⟨w1.heap.size, 1, none⟩ = some (.int .i64 q) := js.cell 1; have j2 : w3.cell? ⟨w1.heap.size, 2, none⟩ = some (.string u) := js.cell 2; have j3 := cell_keep (W := wb.drew) e1 hb3; have j4 := cell_keep (W := wb.drew) e2 hb3) | (go_simp; (with_reducible refine (P2.out (World.drew (World.alloc wb (Obj.cells #[Value.int .i64 0, Value.int .i64 0, Value.string ⟨#[]⟩] 23)))).mono ?_); rintro e w3 ⟨rfl, hb3⟩; have js := (hs.alloc (Obj.cells #[Value.int .i64 0, Value.int .i64 0, Value.string ⟨#[]⟩] 23)).drew.below hb3 (hs.alloc (Obj.cells #[Value.int .i64 0, Value.int .i64 0, Value.string ⟨#[]⟩] 23)).drew.lt; have jm := (Whole.new wb 23 #[.int .i64 0, .int .i64 0, .string ⟨#[]⟩]).drew.below hb3 (Whole.new wb 23 #[.int .i64 0, .int .i64 0, .string ⟨#[]⟩]).drew.lt; have jB := below_next' ((Below.refl wb.heap.size wb).alloc (Nat.le_refl _) (Obj.cells #[Value.int .i64 0, Value.int .i64 0, Value.string ⟨#[]⟩] 23)).drew hb3; have j0 : w3.cell? ⟨w1.heap.size, 0, none⟩ = some (.int .i64 p) := js.cell 0; have j1 : w3.cell? ⟨w1.heap.size, 1, none⟩ = some (.int .i64 q) := js.cell 1; have j2 : w3.cell? ⟨w1.heap.size, 2, none⟩ = some (.string u) := js.cell 2; have mc := jm.cell; have mf := jm.frozen; have j3 := cell_keep (W := World.drew (World.alloc wb (Obj.cells #[Value.int .i64 0, Value.int .i64 0, Value.string ⟨#[]⟩] 23))) (cell_alloc e1 (Obj.cells #[Value.int .i64 0, Value.int .i64 0, Value.string ⟨#[]⟩] 23)) hb3; have j4 := cell_keep (W := World.drew (World.alloc wb (Obj.cells #[Value.int .i64 0, Value.int .i64 0, Value.string ⟨#[]⟩] 23))) (cell_alloc e2 (Obj.cells #[Value.int .i64 0, Value.int .i64 0, Value.string ⟨#[]⟩] 23)) hb3))
              all_goals (go_wp2_with (fail); go_meet)
              · exact ⟨_, rfl, rfl, Whole.new _ _ _, jB.alloc jB.size _, jB.size⟩
              · exact ⟨_, rfl, rfl, ((jm.put 0 _).put 1 _).put' 2 _ rfl, ((jB.setCell (p := ⟨wb.heap.size, 0, none⟩) (Nat.le_refl _) _).setCell (p := ⟨wb.heap.size, 1, none⟩) (Nat.le_refl _) _).setCell (p := ⟨wb.heap.size, 2, none⟩) (Nat.le_refl _) _, Nat.le_refl _⟩
            case rest =>
              obtain ⟨g2, rfl, rfl, hy, hBc, hg2⟩ := hcut
              have hx2 := hx.below hBc hx.lt
              have hs2 := hs.below hBc hs.lt
              have hggw : g2 ≠ g := by have := hx.lt; omega
              go_wp2_with (first | (first | ((with_reducible apply wl_loadW (ty := 23) hy Try.underlying23); rfl; rfl; rfl; kernel_rfl) | ((with_reducible apply wl_loadW (ty := 23) (hy.alloc _) Try.underlying23); rfl; rfl; rfl; kernel_rfl) | ((with_reducible apply wl_loadW (ty := 23) ((hy.alloc _).alloc _) Try.underlying23); rfl; rfl; rfl; kernel_rfl)) | ((with_reducible apply wl_storeW (ty := 23) hx2); rfl; rfl; rfl; kernel_rfl; rfl; rfl; intro w5 hs5 hg5 hz5))
              go_meet
              case rel => exact ⟨p2, q2, u2, by rw [hok.out]; rfl, hs5, hs2.only hg5 (by simp; omega), by rw [hnow.out]; rfl, only_then (only_below hBc _) hg5⟩
        case rest =>
          obtain ⟨x, z, t, rfl, hx3, hs3, hnow', hgr⟩ := hcut
          replace e0 := cell_only e0 hgr hadg
          replace e1 := cell_only e1 hgr hadg
          replace e2 := cell_only e2 hgr hadg
          have hBq := below_only' hBw hgr hg
          have hH3 := hH.out.below hBq
          have hB3 := below_next' hBr hBq
          have x0 : wc.cell? ⟨g, 0, none⟩ = some (.int .i64 x) := hx3.cell 0
          have x1 : wc.cell? ⟨g, 1, none⟩ = some (.int .i64 z) := hx3.cell 1
          have x2 : wc.cell? ⟨g, 2, none⟩ = some (.string t) := hx3.cell 2
          have hsz3 := hH.out.bs
          have hgt : g ≠ w1.heap.size + 1 := by have := hH.out.blk.lt; omega
          have hNow2 : ∀ W u0 u1 u2, HistAt W (w1.heap.size + 1) (w1.heap.size + 2) h' u0 u1 u2 → Calls Try.prog 20 #[.pointer (some ⟨w1.heap.size + 1, 0, none⟩)] W fun e w' => e = .returned (.agg #[.int .i64 x, .int .i64 z, .string t]) ∧ Below W.heap.size W w' := by
            intro W u0 u1 u2 H
            have := hNow.out W u0 u1 u2 H
            rw [hnow'] at this
            exact this
          have hDo2 := hDo.out (World.drew wc) ⟨hH3.blk.drew, hH3.r0, hH3.r1, hH3.r2, hH3.ne, hH3.lt, hH3.bs⟩
          replace hNow2 := Lib.hid hNow2
          replace hDo2 := Lib.hid hDo2
          replace hH3 := Lib.hid hH3
          clear hNow hDo P1 P2 hBw hgr hBq hBc
          go_upto_region 13 with (fail)
          go_cut [67] (fun y W4 => ∃ u0 u1 u2, y = .bool false ∧ HistAt W4 (w1.heap.size + 1) (w1.heap.size + 2) h' u0 u1 u2 ∧ Whole W4 g 23 #[.int .i64 x, .int .i64 z, .string t] ∧ Whole W4 w1.heap.size 23 #[.int .i64 p, .int .i64 q, .string u] ∧ Below w.heap.size w W4)
          case first =>
            go_region_held3 (fun W : World => W.cell? ⟨g, 0, none⟩ = some (.int .i64 x) ∧ W.cell? ⟨g, 1, none⟩ = some (.int .i64 z) ∧ W.cell? ⟨g, 2, none⟩ = some (.string t) ∧ W.cell? (ad.add (k * 3)) = some (.bool a) ∧ W.cell? ⟨(ad.add (k * 3)).block, (ad.add (k * 3)).off + 1, none⟩ = some (.int .i64 n) ∧ W.cell? ⟨(ad.add (k * 3)).block, (ad.add (k * 3)).off + 2, none⟩ = some (.string v)) (first | (with_reducible exact ⟨x0, x1, x2, e0, e1, e2⟩) | (with_reducible exact ⟨y0, y1, y2, y3, y4, y5⟩) | (with_reducible exact ⟨z0, z1, z2, z3, z4, z5⟩) | go_keep) (first | (go_simp; (with_reducible refine hDo2.out.mono ?_); rintro e w4 ⟨rfl, u0, u1, u2, H4, K4⟩; have wx := K4.whole _ _ _ hgt (by decide) (by decide) hx3.drew; have ws := K4.whole w1.heap.size _ _ (by omega) (by decide) (by decide) hs3.drew; have wB := K4.to hB3.drew (by omega) (by omega); have y0 : w4.cell? ⟨g, 0, none⟩ = some (.int .i64 x) := wx.cell 0; have y1 : w4.cell? ⟨g, 1, none⟩ = some (.int .i64 z) := wx.cell 1; have y2 : w4.cell? ⟨g, 2, none⟩ = some (.string t) := wx.cell 2; obtain ⟨y3, y4, y5⟩ := hF.out _ wB; replace H4 := Lib.hid H4) | (go_simp; (with_reducible refine (hNow2.out _ u0 u1 u2 H4.out).mono ?_); rintro e w5 ⟨rfl, hb5⟩; have vx := wx.below hb5 wx.lt; have vs := ws.below hb5 ws.lt; have vB := below_next' wB hb5; have vH := H4.out.below hb5; have z0 : w5.cell? ⟨g, 0, none⟩ = some (.int .i64 x) := vx.cell 0; have z1 : w5.cell? ⟨g, 1, none⟩ = some (.int .i64 z) := vx.cell 1; have z2 : w5.cell? ⟨g, 2, none⟩ = some (.string t) := vx.cell 2; obtain ⟨z3, z4, z5⟩ := hF.out _ vB; replace vH := Lib.hid vH))
            all_goals (go_wp2_with (fail); go_meet)
            all_goals exact ⟨_, _, _, rfl, vH.out, vx, vs, vB⟩
          case rest =>
            obtain ⟨u0, u1, u2, rfl, H5, hx5, hs5, hB5⟩ := hcut
            replace H5 := Lib.hid H5
            go_wp2_with (first | (first | ((with_reducible apply wl_loadW (ty := 23) hx5 Try.underlying23); rfl; rfl; rfl; kernel_rfl) | ((with_reducible apply wl_loadW (ty := 23) (hx5.alloc _) Try.underlying23); rfl; rfl; rfl; kernel_rfl) | ((with_reducible apply wl_loadW (ty := 23) ((hx5.alloc _).alloc _) Try.underlying23); rfl; rfl; rfl; kernel_rfl)) | ((with_reducible apply wl_storeW (ty := 23) hs5); rfl; rfl; rfl; kernel_rfl; rfl; rfl; intro w6 hs6 hg6 hz6))
            go_roundg (l.length - k)
            case measure => go_light; rw [hkg.out]; omega
            case rel => go_light; exact ⟨k + 1, h', u0, u1, u2, by omega, by omega, by go_num, by rw [hnow']; exact hs6, H5.out.only hg6 (by omega) (by omega), hlen.1, hlen.2.1, hlen2, below_only' hB5 hg6 (by omega)⟩
    · go_wp2
      go_returns
      exact ⟨rfl, hBr⟩
set_option maxHeartbeats 400000 in
set_option maxRecDepth 100000 in
theorem slotPlays_not (A : Option Addr) (n cap : Nat) (w : World) (hn : 60 < n) :
    Calls Try.prog 4 #[.slice A n cap] w fun e w' => e = .returned (.bool true) ∧ Below w.heap.size w w' := by
  have hd : decide ((60 : Int) < (n : Int)) = true := by simp; omega
  have hB : Below w.heap.size w w := Below.refl _ _
  go_enter Try.func4, Try.ntmps4
  go_wp2_with fail
  refine (awake17_calls _).mono ?_
  rintro e w1 ⟨rfl, hb1⟩
  replace hB := below_next' (by first | (with_reducible exact hB) | (with_reducible exact hB.alloc hB.size _) | (with_reducible exact (hB.alloc hB.size _).alloc (hB.alloc hB.size _).size _) | exact below_drewN' hB _) hb1
  go_wp2_with ((with_reducible refine (awake17_calls _).mono ?_); rintro e w2 ⟨rfl, hb2⟩; replace hB := below_next' (by first | (with_reducible exact hB) | (with_reducible exact hB.alloc hB.size _) | (with_reducible exact (hB.alloc hB.size _).alloc (hB.alloc hB.size _).size _) | exact below_drewN' hB _) hb2)
  go_returns
  exact ⟨rfl, hB⟩
theorem slotPlays_calls (A : Option Addr) (l : List SO) (cap : Nat) (w : World) (hr : SO.K.Rows w A l) :
    Calls Try.prog 4 #[.slice A l.length cap] w fun e w' => e = .returned (.bool true) ∧ Below w.heap.size w w' := by
  by_cases h : 60 < l.length
  · exact slotPlays_not A _ cap w h
  · exact slotPlays_round A l cap w hr (by omega)
end Go.Proofs.Ytdohmkanpdhmaaa
