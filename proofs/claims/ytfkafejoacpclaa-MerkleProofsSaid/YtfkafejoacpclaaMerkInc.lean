/- The laws MerkleIncluded and MerkleConsistent, walked. No conditions. -/
import Derived.Test.YtfkafejoacpclaaMerkHold
import Derived.Test.YtfkafejoacpclaaMerkRef4
namespace Go.Proofs.Ytfkafejoacpclaa
open Go.RowKit
set_option linter.unusedVariables false
set_option linter.unusedSimpArgs false
theorem inclT_eq (leaf root : ByteArray) (i n : Nat) (l : List ByteArray) (hi : i < n) : inclT leaf i n l root = (decide (l.length = depthN i n) && decide (upN leaf i n l = root)) := by
  obtain ⟨c1, c2, c3⟩ := rootT_any leaf n i l hi
  unfold inclT
  by_cases h : l.length = depthN i n
  · obtain ⟨e1, e2⟩ := c2 (by omega)
    rw [e1, e2, c3 h.symm]
    simp [h]
  · by_cases h2 : l.length < depthN i n
    · rw [c1 h2]
      simp [h]
    · obtain ⟨e1, e2⟩ := c2 (by omega)
      rw [e1, e2]
      have : ¬ (l.length - depthN i n = 0) := by omega
      simp [h, this]
theorem consT_eq (m n : Nat) (first second : ByteArray) (l : List ByteArray) (hm : 1 ≤ m) (hmn : m ≤ n) : consT m n first second l = (decide (l.length = lenN m n true) && (decide ((bothN m n first l true).1 = first) && decide ((bothN m n first l true).2 = second))) := by
  obtain ⟨c1, c2, c3⟩ := bothT_any first n m l true hm hmn
  unfold consT
  by_cases h : l.length = lenN m n true
  · obtain ⟨e1, e2⟩ := c2 (by omega)
    rw [e1, e2, c3 h.symm]
    simp [h]
  · by_cases h2 : l.length < lenN m n true
    · rw [c1 h2]
      simp [h]
    · obtain ⟨e1, e2⟩ := c2 (by omega)
      rw [e1, e2]
      have : ¬ (l.length - lenN m n true = 0) := by omega
      simp [h, this]
set_option maxHeartbeats 2000000 in
set_option maxRecDepth 100000 in
theorem awake04_calls (w : World) : Calls Try.prog 15 #[] w fun e w' => e = .returned (.bool true) ∧ Below w.heap.size w w' := by
  have M := fun w => make_calls w
  have IB := fun w => incl_bad none 0 0 0 w (.inr (by decide))
  generalize arr .u32 (K64 ++ H8.L) = tb at *
  replace M := Lib.hid M
  replace IB := Lib.hid IB
  go_enter Try.func15, Try.ntmps15
  go_wp2_with (first | ((with_reducible refine (M.out _).mono ?_); rintro e w2 ⟨rfl, hb2⟩) | ((with_reducible refine (IB.out _).mono ?_); rintro e w3 ⟨rfl, hb3⟩; replace hb2 := below_next' hb2 hb3))
  go_returns
  go_light
  exact ⟨rfl, hb2⟩
set_option maxHeartbeats 4000000 in
set_option maxRecDepth 100000 in
theorem mIncluded_calls (i n : Int) (l : List ByteArray) (A : Option Addr) (cap : Nat) (leaf root : ByteArray) (w : World) (hcap : l.length ≤ cap) (hr : Kn.str.Rows w A l) :
    Calls Try.prog 4 #[.agg #[.int .i64 i, .int .i64 n], .slice A l.length cap, .agg #[.string leaf, .string root]] w fun e w' => e = .returned (.bool true) ∧ Below w.heap.size w w' := by
  have AW := fun w => awake04_calls w
  have M := fun w => make_calls w
  have RB := fun v w h => included_bad leaf root i n v w h
  have RO := fun (i n : Nat) (root : ByteArray) (w : World) (hi : i < n) (hn : n ≤ 64) (hleaf : leaf.size ≤ 1000) (h1000 : ∀ x ∈ l, x.size ≤ 1000) (hr : Kn.str.Rows w A l) => included_ok leaf root i n l A cap w hi hn hleaf hcap h1000 hr
  generalize arr .u32 (K64 ++ H8.L) = tb at *
  replace AW := Lib.hid AW
  replace M := Lib.hid M
  replace RB := Lib.hid RB
  replace RO := Lib.hid RO
  obtain ⟨W0, hW0⟩ : ∃ W0, (w.alloc (.cells #[.int .i64 i, .int .i64 n] 39)).alloc (.cells #[.string leaf, .string root] 40) = W0 := ⟨_, rfl⟩
  have hA1 : Whole W0 w.heap.size 39 #[.int .i64 i, .int .i64 n] := by rw [← hW0]; exact (Whole.new w _ _).alloc _
  have hE : Whole W0 (w.heap.size + 1) 40 #[.string leaf, .string root] := by rw [← hW0]; exact Whole.new1 w _ _ _
  have hB : Later w W0 := by rw [← hW0]; exact ((Later.refl w).alloc _).alloc _
  have b0 := hA1.cell 0
  have b1 := hA1.cell 1
  have e0 := hE.cell 0
  have e1 := hE.cell 1
  replace hr := Lib.hid (hr.below hB)
  go_enter Try.func4, Try.ntmps4
  go_upto_region 1 with (fail)
  try rw [hW0]
  clear hW0
  generalize hG : w.heap.size = G at *
  refine wp_region_grow 6 90 (by kernel_rfl) (by kernel_rfl) rfl (fun w1 hl1 => ?_)
  simp only [List.take_succ_cons, List.take_zero, List.drop_succ_cons, List.drop_zero]
  generalize ha : Act.mk _ _ = a0
  have k5 : a0.eval (.tmp 5) = .pointer (some ⟨G + 1, 0, none⟩) := by subst ha; rfl
  have ks : a0.tmps.size = 90 := by subst ha; rfl
  have ha0 := ha.symm
  clear ha
  apply wpG_value'
  · rfl
  · (intro a wx hlx hk K hK; have e5 : a.eval (.tmp 5) = _ := (hk 5 rfl : a.eval (.tmp 5) = a0.eval (.tmp 5)).trans k5; simp only [execOp, e5]; clear e5 hk; go_simp; exact hK)
  refine wpG_load1 (hl1.cell e0) Try.underlying9 rfl (fun a w hk => hk 13 rfl) ?_
  apply wpG_value'
  · rfl
  · (intro a wx hlx hk K hK; have e5 : a.eval (.tmp 5) = _ := (hk 5 rfl : a.eval (.tmp 5) = a0.eval (.tmp 5)).trans k5; simp only [execOp, e5]; clear e5 hk; go_simp; exact hK)
  refine wpG_load1 (hl1.cell e1) Try.underlying9 rfl (fun a w hk => hk 15 rfl) ?_
  refine wpG_assign (fun a w hk => hk 14 rfl) ?_
  refine wpG_assign (fun a w hk => hk 16 rfl) ?_
  refine wpG_nil (fun w1' hl1' => ?_)
  refine fin_is ?_
  refine fin_is ?_
  refine fin_is ?_
  refine fin_is ?_
  refine fin_is ?_
  refine fin_is ?_
  refine fin_nil ?_
  subst ha0
  clear k5 ks
  simp only [Act.put, List.setIfInBounds_toArray, List.set_cons_succ, List.set_cons_zero]
  go_upto_region 2 with (fail)
  refine wp_region_grow 6 90 (by kernel_rfl) (by kernel_rfl) rfl (fun w2 hl2 => ?_)
  simp only [List.take_succ_cons, List.take_zero, List.drop_succ_cons, List.drop_zero]
  generalize ha : Act.mk _ _ = a0
  have k3 : a0.eval (.tmp 3) = .pointer (some ⟨G, 0, none⟩) := by subst ha; rfl
  have ks : a0.tmps.size = 90 := by subst ha; rfl
  have ha0 := ha.symm
  clear ha
  apply wpG_value'
  · rfl
  · (intro a wx hlx hk K hK; have e3 : a.eval (.tmp 3) = _ := (hk 3 rfl : a.eval (.tmp 3) = a0.eval (.tmp 3)).trans k3; simp only [execOp, e3]; clear e3 hk; go_simp; exact hK)
  refine wpG_load1 (hl2.cell ((hl1.trans hl1').cell b0)) Try.underlying3 rfl (fun a w hk => hk 17 rfl) ?_
  apply wpG_value'
  · rfl
  · (intro a wx hlx hk K hK; have e3 : a.eval (.tmp 3) = _ := (hk 3 rfl : a.eval (.tmp 3) = a0.eval (.tmp 3)).trans k3; simp only [execOp, e3]; clear e3 hk; go_simp; exact hK)
  refine wpG_load1 (hl2.cell ((hl1.trans hl1').cell b1)) Try.underlying3 rfl (fun a w hk => hk 19 rfl) ?_
  refine wpG_assign (fun a w hk => hk 18 rfl) ?_
  refine wpG_assign (fun a w hk => hk 20 rfl) ?_
  refine wpG_nil (fun w2' hl2' => ?_)
  refine fin_is ?_
  refine fin_is ?_
  refine fin_is ?_
  refine fin_is ?_
  refine fin_is ?_
  refine fin_is ?_
  refine fin_nil ?_
  subst ha0
  clear k3 ks
  simp only [Act.put, List.setIfInBounds_toArray, List.set_cons_succ, List.set_cons_zero]
  have hl := (hl1.trans hl1').trans (hl2.trans hl2')
  replace hB := hB.trans hl
  replace hr := Lib.hid (hr.out.below hl)
  clear hl1 hl1' hl2 hl2' hl b0 b1 e0 e1 hA1 hE
  clear w1 w1' w2
  generalize w2' = W at *
  by_cases hfew : l.length ≤ 70 ∧ ∀ x ∈ l, x.size ≤ 40
  · have FW := fun w hr => few04_true l A cap 70 40 70 40 rfl rfl (by decide) (by decide) w hr hfew
    replace FW := Lib.hid FW
    have h1000 : ∀ x ∈ l, x.size ≤ 1000 := fun x hx => Nat.le_trans (hfew.2 x hx) (by decide)
    replace h1000 := Lib.hid h1000
    replace hfew := Lib.hid hfew
    by_cases hs1 : leaf.size ≤ 40
    · have qs1 : ((40 : Int) < leaf.size) = False := eq_false (by omega)
      by_cases hs2 : root.size ≤ 40
      · have qs2 : ((40 : Int) < root.size) = False := eq_false (by omega)
        by_cases h1 : i < 0
        · have q1 : (i < 0) = True := eq_true h1
          have RC := fun w => RB.out (.slice A l.length cap) w (.inl h1)
          replace RC := Lib.hid RC
          go_wp2_with (first | ((with_reducible refine (AW.out _).mono ?_); rintro e w4 ⟨rfl, hb4⟩; replace hB := Later.trans hB hb4; replace hr := Lib.hid (hr.out.below hb4)) | ((with_reducible refine (FW.out _ hr.out).mono ?_); rintro e w5 ⟨rfl, hw5⟩; obtain rfl := hw5.symm) | ((with_reducible refine (M.out _).mono ?_); rintro e w6 ⟨rfl, hb6⟩; replace hB := Later.trans hB hb6; replace hr := Lib.hid (hr.out.below hb6)) | ((with_reducible refine (RC.out _).mono ?_); rintro e w7 ⟨rfl, hb7⟩; replace hB := Later.trans hB hb7; replace hr := Lib.hid (hr.out.below hb7)))
          go_returns
          go_light
          exact ⟨rfl, by first | exact hB | (rw [← hG]; exact hB)⟩
        · have q1 : (i < 0) = False := eq_false h1
          by_cases h2 : n < 1
          · have q2 : (n < 1) = True := eq_true h2
            have RC := fun w => RB.out (.slice A l.length cap) w (.inr (.inl (by omega)))
            replace RC := Lib.hid RC
            go_wp2_with (first | ((with_reducible refine (AW.out _).mono ?_); rintro e w4 ⟨rfl, hb4⟩; replace hB := Later.trans hB hb4; replace hr := Lib.hid (hr.out.below hb4)) | ((with_reducible refine (FW.out _ hr.out).mono ?_); rintro e w5 ⟨rfl, hw5⟩; obtain rfl := hw5.symm) | ((with_reducible refine (M.out _).mono ?_); rintro e w6 ⟨rfl, hb6⟩; replace hB := Later.trans hB hb6; replace hr := Lib.hid (hr.out.below hb6)) | ((with_reducible refine (RC.out _).mono ?_); rintro e w7 ⟨rfl, hb7⟩; replace hB := Later.trans hB hb7; replace hr := Lib.hid (hr.out.below hb7)))
            go_returns
            go_light
            exact ⟨rfl, by first | exact hB | (rw [← hG]; exact hB)⟩
          · have q2 : (n < 1) = False := eq_false h2
            by_cases h3 : n ≤ i
            · have q3 : (n ≤ i) = True := eq_true h3
              have RC := fun w => RB.out (.slice A l.length cap) w (.inr (.inl h3))
              replace RC := Lib.hid RC
              go_wp2_with (first | ((with_reducible refine (AW.out _).mono ?_); rintro e w4 ⟨rfl, hb4⟩; replace hB := Later.trans hB hb4; replace hr := Lib.hid (hr.out.below hb4)) | ((with_reducible refine (FW.out _ hr.out).mono ?_); rintro e w5 ⟨rfl, hw5⟩; obtain rfl := hw5.symm) | ((with_reducible refine (M.out _).mono ?_); rintro e w6 ⟨rfl, hb6⟩; replace hB := Later.trans hB hb6; replace hr := Lib.hid (hr.out.below hb6)) | ((with_reducible refine (RC.out _).mono ?_); rintro e w7 ⟨rfl, hb7⟩; replace hB := Later.trans hB hb7; replace hr := Lib.hid (hr.out.below hb7)))
              go_returns
              go_light
              exact ⟨rfl, by first | exact hB | (rw [← hG]; exact hB)⟩
            · have q3 : (n ≤ i) = False := eq_false h3
              by_cases h4 : 64 < n
              · have q4 : (64 < n) = True := eq_true h4
                have RC := fun w => RB.out (.slice A l.length cap) w (.inr (.inr h4))
                replace RC := Lib.hid RC
                go_wp2_with (first | ((with_reducible refine (AW.out _).mono ?_); rintro e w4 ⟨rfl, hb4⟩; replace hB := Later.trans hB hb4; replace hr := Lib.hid (hr.out.below hb4)) | ((with_reducible refine (FW.out _ hr.out).mono ?_); rintro e w5 ⟨rfl, hw5⟩; obtain rfl := hw5.symm) | ((with_reducible refine (M.out _).mono ?_); rintro e w6 ⟨rfl, hb6⟩; replace hB := Later.trans hB hb6; replace hr := Lib.hid (hr.out.below hb6)) | ((with_reducible refine (RC.out _).mono ?_); rintro e w7 ⟨rfl, hb7⟩; replace hB := Later.trans hB hb7; replace hr := Lib.hid (hr.out.below hb7)))
                go_returns
                go_light
                exact ⟨rfl, by first | exact hB | (rw [← hG]; exact hB)⟩
              · have q4 : (64 < n) = False := eq_false h4
                obtain ⟨i', rfl⟩ : ∃ i' : Nat, i = i' := ⟨i.toNat, by omega⟩
                obtain ⟨n', rfl⟩ : ∃ n' : Nat, n = n' := ⟨n.toNat, by omega⟩
                have DC : ∀ w : World, Calls Try.prog 22 #[.int .i64 i', .int .i64 n'] w fun e w' => e = .returned (.int .i64 (depthN i' n' : Nat)) ∧ w' = w := fun w => (refDepth_calls n' i' w (by omega) (by omega)).mono fun e w' h => ⟨h.1.1, h.2⟩
                have RC := fun w hr => RO.out i' n' root w (by omega) (by omega) (by omega) h1000.out hr
                rw [inclT_eq _ _ _ _ _ (by omega)] at RC
                replace DC := Lib.hid DC
                by_cases hd : l.length = depthN i' n'
                · have UC := fun w hr => refUp_calls leaf (by omega) n' i' l A cap w (by omega) (by omega) hd hcap h1000.out hr
                  have RC2 := fun w hr => RO.out i' n' (upN leaf i' n' l) w (by omega) (by omega) (by omega) h1000.out hr
                  rw [inclT_eq _ _ _ _ _ (by omega), decide_eq_true hd, decide_eq_true rfl] at RC2
                  rw [decide_eq_true hd, Bool.true_and] at RC
                  simp only [Bool.and_self] at RC2
                  rw [← hd] at DC
                  generalize upN leaf i' n' l = X at *
                  replace RC := Lib.hid RC
                  replace RC2 := Lib.hid RC2
                  replace UC := Lib.hid UC
                  replace hd := Lib.hid hd
                  by_cases hX : X = root
                  · subst hX
                    rw [decide_eq_true rfl] at RC
                    go_wp2_with (first | ((with_reducible refine (AW.out _).mono ?_); rintro e w4 ⟨rfl, hb4⟩; replace hB := Later.trans hB hb4; replace hr := Lib.hid (hr.out.below hb4)) | ((with_reducible refine (FW.out _ hr.out).mono ?_); rintro e w5 ⟨rfl, hw5⟩; obtain rfl := hw5.symm) | ((with_reducible refine (M.out _).mono ?_); rintro e w6 ⟨rfl, hb6⟩; replace hB := Later.trans hB hb6; replace hr := Lib.hid (hr.out.below hb6)) | ((with_reducible refine (RC.out _ hr.out).mono ?_); rintro e w7 ⟨rfl, hb7⟩; replace hB := Later.trans hB hb7; replace hr := Lib.hid (hr.out.below hb7)) | ((with_reducible refine (DC.out _).mono ?_); rintro e w8 ⟨rfl, hw8⟩; obtain rfl := hw8.symm) | ((with_reducible refine (UC.out _ hr.out).mono ?_); rintro e w9 ⟨rfl, hb9⟩; replace hB := Later.trans hB hb9; replace hr := Lib.hid (hr.out.below hb9)) | ((with_reducible refine (RC2.out _ hr.out).mono ?_); rintro e wa ⟨rfl, hba⟩; replace hB := Later.trans hB hba; replace hr := Lib.hid (hr.out.below hba)))
                    go_returns
                    go_light
                    exact ⟨rfl, by first | exact hB | (rw [← hG]; exact hB)⟩
                  · have hX' : (X.toList == root.toList) = false := by rw [beqL]; simp [hX]
                    rw [decide_eq_false hX] at RC
                    go_wp2_with (first | ((with_reducible refine (AW.out _).mono ?_); rintro e w4 ⟨rfl, hb4⟩; replace hB := Later.trans hB hb4; replace hr := Lib.hid (hr.out.below hb4)) | ((with_reducible refine (FW.out _ hr.out).mono ?_); rintro e w5 ⟨rfl, hw5⟩; obtain rfl := hw5.symm) | ((with_reducible refine (M.out _).mono ?_); rintro e w6 ⟨rfl, hb6⟩; replace hB := Later.trans hB hb6; replace hr := Lib.hid (hr.out.below hb6)) | ((with_reducible refine (RC.out _ hr.out).mono ?_); rintro e w7 ⟨rfl, hb7⟩; replace hB := Later.trans hB hb7; replace hr := Lib.hid (hr.out.below hb7)) | ((with_reducible refine (DC.out _).mono ?_); rintro e w8 ⟨rfl, hw8⟩; obtain rfl := hw8.symm) | ((with_reducible refine (UC.out _ hr.out).mono ?_); rintro e w9 ⟨rfl, hb9⟩; replace hB := Later.trans hB hb9; replace hr := Lib.hid (hr.out.below hb9)) | ((with_reducible refine (RC2.out _ hr.out).mono ?_); rintro e wa ⟨rfl, hba⟩; replace hB := Later.trans hB hba; replace hr := Lib.hid (hr.out.below hba)))
                    go_returns
                    go_light
                    exact ⟨rfl, by first | exact hB | (rw [← hG]; exact hB)⟩
                · rw [decide_eq_false hd, Bool.false_and] at RC
                  have hd' : (((l.length : Int)) == (depthN i' n' : Nat)) = false := by rw [beq_eq_false_iff_ne]; omega
                  generalize depthN i' n' = d at *
                  replace RC := Lib.hid RC
                  go_wp2_with (first | ((with_reducible refine (AW.out _).mono ?_); rintro e w4 ⟨rfl, hb4⟩; replace hB := Later.trans hB hb4; replace hr := Lib.hid (hr.out.below hb4)) | ((with_reducible refine (FW.out _ hr.out).mono ?_); rintro e w5 ⟨rfl, hw5⟩; obtain rfl := hw5.symm) | ((with_reducible refine (M.out _).mono ?_); rintro e w6 ⟨rfl, hb6⟩; replace hB := Later.trans hB hb6; replace hr := Lib.hid (hr.out.below hb6)) | ((with_reducible refine (RC.out _ hr.out).mono ?_); rintro e w7 ⟨rfl, hb7⟩; replace hB := Later.trans hB hb7; replace hr := Lib.hid (hr.out.below hb7)) | ((with_reducible refine (DC.out _).mono ?_); rintro e w8 ⟨rfl, hw8⟩; obtain rfl := hw8.symm))
                  go_returns
                  go_light
                  exact ⟨rfl, by first | exact hB | (rw [← hG]; exact hB)⟩
      · have qs2 : ((40 : Int) < root.size) = True := eq_true (by omega)
        go_wp2_with (first | ((with_reducible refine (AW.out _).mono ?_); rintro e w4 ⟨rfl, hb4⟩; replace hB := Later.trans hB hb4; replace hr := Lib.hid (hr.out.below hb4)) | ((with_reducible refine (FW.out _ hr.out).mono ?_); rintro e w5 ⟨rfl, hw5⟩; obtain rfl := hw5.symm))
        go_returns
        go_light
        exact ⟨rfl, by first | exact hB | (rw [← hG]; exact hB)⟩
    · have qs1 : ((40 : Int) < leaf.size) = True := eq_true (by omega)
      go_wp2_with (first | ((with_reducible refine (AW.out _).mono ?_); rintro e w4 ⟨rfl, hb4⟩; replace hB := Later.trans hB hb4; replace hr := Lib.hid (hr.out.below hb4)) | ((with_reducible refine (FW.out _ hr.out).mono ?_); rintro e w5 ⟨rfl, hw5⟩; obtain rfl := hw5.symm))
      go_returns
      go_light
      exact ⟨rfl, by first | exact hB | (rw [← hG]; exact hB)⟩
  · have FW := fun w hr => few04_false l A cap 70 40 70 40 rfl rfl (by decide) (by decide) w hr hfew
    replace FW := Lib.hid FW
    go_wp2_with (first | ((with_reducible refine (AW.out _).mono ?_); rintro e w4 ⟨rfl, hb4⟩; replace hB := Later.trans hB hb4; replace hr := Lib.hid (hr.out.below hb4)) | ((with_reducible refine (FW.out _ hr.out).mono ?_); rintro e w5 ⟨rfl, hw5⟩; obtain rfl := hw5.symm))
    go_returns
    go_light
    exact ⟨rfl, by first | exact hB | (rw [← hG]; exact hB)⟩
set_option maxHeartbeats 4000000 in
set_option maxRecDepth 100000 in
theorem mConsistent_calls (m n : Int) (l : List ByteArray) (A : Option Addr) (cap : Nat) (first second : ByteArray) (w : World) (hcap : l.length ≤ cap) (hr : Kn.str.Rows w A l) :
    Calls Try.prog 5 #[.agg #[.int .i64 m, .int .i64 n], .agg #[.string first, .string second], .slice A l.length cap] w fun e w' => e = .returned (.bool true) ∧ Below w.heap.size w w' := by
  have AW := fun w => awake04_calls w
  have M := fun w => make_calls w
  have hRC : (l.length ≤ 70 ∧ ∀ x ∈ l, x.size ≤ 40) → first.size ≤ 40 → ∃ R : Bool, (∀ w, Kn.str.Rows w A l → Calls Try.prog 24 #[.agg (arr .u32 (K64 ++ H8.L)), .int .i64 m, .int .i64 n, .string first, .string second, .slice A l.length cap] w fun e w' => e = .returned (.bool R) ∧ Below w.heap.size w w') ∧ (m < 1 ∨ n < m ∨ 64 < n → R = false) ∧ (∀ m' n' : Nat, m = m' → n = n' → 1 ≤ m' → m' ≤ n' → n' ≤ 64 → R = consT m' n' first second l) := by
    intro hf1 hf2
    by_cases h : m < 1 ∨ n < m ∨ 64 < n
    · exact ⟨false, fun w _ => consistent_bad first second m n _ w h, fun _ => rfl, fun m' n' e1 e2 h1 h2 h3 => by omega⟩
    · obtain ⟨m', rfl⟩ : ∃ m' : Nat, m = m' := ⟨m.toNat, by omega⟩
      obtain ⟨n', rfl⟩ : ∃ n' : Nat, n = n' := ⟨n.toNat, by omega⟩
      refine ⟨consT m' n' first second l, fun w hr => consistent_ok first second m' n' l A cap w (by omega) (by omega) (by omega) (by omega) hcap (fun x hx => Nat.le_trans (hf1.2 x hx) (by decide)) hr, fun h' => absurd h' h, fun a b e1 e2 _ _ _ => ?_⟩
      rw [Int.ofNat_inj.1 e1, Int.ofNat_inj.1 e2]
  have hR2 : (l.length ≤ 70 ∧ ∀ x ∈ l, x.size ≤ 40) → first.size ≤ 40 → ∀ (m' n' : Nat) (second' : ByteArray) (w : World), m = m' → n = n' → 1 ≤ m' → m' ≤ n' → n' ≤ 64 → Kn.str.Rows w A l → Calls Try.prog 24 #[.agg (arr .u32 (K64 ++ H8.L)), .int .i64 m, .int .i64 n, .string first, .string second', .slice A l.length cap] w fun e w' => e = .returned (.bool (consT m' n' first second' l)) ∧ Below w.heap.size w w' := by
    intro hf1 hf2 m' n' second' w e1 e2 h1 h2 h3 hr
    subst e1 e2
    exact consistent_ok first second' m' n' l A cap w (by omega) (by omega) (by omega) (by omega) hcap (fun x hx => Nat.le_trans (hf1.2 x hx) (by decide)) hr
  generalize arr .u32 (K64 ++ H8.L) = tb at *
  replace AW := Lib.hid AW
  replace M := Lib.hid M
  replace hRC := Lib.hid hRC
  replace hR2 := Lib.hid hR2
  obtain ⟨W0, hW0⟩ : ∃ W0, (w.alloc (.cells #[.int .i64 m, .int .i64 n] 39)).alloc (.cells #[.string first, .string second] 40) = W0 := ⟨_, rfl⟩
  have hA1 : Whole W0 w.heap.size 39 #[.int .i64 m, .int .i64 n] := by rw [← hW0]; exact (Whole.new w _ _).alloc _
  have hE : Whole W0 (w.heap.size + 1) 40 #[.string first, .string second] := by rw [← hW0]; exact Whole.new1 w _ _ _
  have hB : Later w W0 := by rw [← hW0]; exact ((Later.refl w).alloc _).alloc _
  have b0 := hA1.cell 0
  have b1 := hA1.cell 1
  have e0 := hE.cell 0
  have e1 := hE.cell 1
  replace hr := Lib.hid (hr.below hB)
  go_enter Try.func5, Try.ntmps5
  go_upto_region 1 with (fail)
  try rw [hW0]
  clear hW0
  generalize hG : w.heap.size = G at *
  refine wp_region_grow 6 100 (by kernel_rfl) (by kernel_rfl) rfl (fun w1 hl1 => ?_)
  simp only [List.take_succ_cons, List.take_zero, List.drop_succ_cons, List.drop_zero]
  generalize ha : Act.mk _ _ = a0
  have k3 : a0.eval (.tmp 3) = .pointer (some ⟨G, 0, none⟩) := by subst ha; rfl
  have ks : a0.tmps.size = 100 := by subst ha; rfl
  have ha0 := ha.symm
  clear ha
  apply wpG_value'
  · rfl
  · (intro a wx hlx hk K hK; have e3 : a.eval (.tmp 3) = _ := (hk 3 rfl : a.eval (.tmp 3) = a0.eval (.tmp 3)).trans k3; simp only [execOp, e3]; clear e3 hk; go_simp; exact hK)
  refine wpG_load1 (hl1.cell b0) Try.underlying3 rfl (fun a w hk => hk 11 rfl) ?_
  apply wpG_value'
  · rfl
  · (intro a wx hlx hk K hK; have e3 : a.eval (.tmp 3) = _ := (hk 3 rfl : a.eval (.tmp 3) = a0.eval (.tmp 3)).trans k3; simp only [execOp, e3]; clear e3 hk; go_simp; exact hK)
  refine wpG_load1 (hl1.cell b1) Try.underlying3 rfl (fun a w hk => hk 13 rfl) ?_
  refine wpG_assign (fun a w hk => hk 12 rfl) ?_
  refine wpG_assign (fun a w hk => hk 14 rfl) ?_
  refine wpG_nil (fun w1' hl1' => ?_)
  refine fin_is ?_
  refine fin_is ?_
  refine fin_is ?_
  refine fin_is ?_
  refine fin_is ?_
  refine fin_is ?_
  refine fin_nil ?_
  subst ha0
  clear k3 ks
  simp only [Act.put, List.setIfInBounds_toArray, List.set_cons_succ, List.set_cons_zero]
  have hl := hl1.trans hl1'
  replace hB := hB.trans hl
  replace hr := Lib.hid (hr.out.below hl)
  replace e0 := hl.cell e0
  replace e1 := hl.cell e1
  clear hl1 hl1' hl b0 b1 hA1 hE
  clear w1
  generalize w1' = W at *
  by_cases hfew : l.length ≤ 70 ∧ ∀ x ∈ l, x.size ≤ 40
  · have FW := fun w hr => few04_true l A cap 70 40 70 40 rfl rfl (by decide) (by decide) w hr hfew
    replace FW := Lib.hid FW
    have h1000 : ∀ x ∈ l, x.size ≤ 1000 := fun x hx => Nat.le_trans (hfew.2 x hx) (by decide)
    replace h1000 := Lib.hid h1000
    by_cases hs1 : first.size ≤ 40
    · have qs1 : ((40 : Int) < first.size) = False := eq_false (by omega)
      by_cases hs2 : second.size ≤ 40
      · have qs2 : ((40 : Int) < second.size) = False := eq_false (by omega)
        obtain ⟨R, RC, hRb, hRg⟩ := hRC.out hfew hs1
        replace hR2 := Lib.hid (hR2.out hfew hs1)
        clear hRC
        replace hfew := Lib.hid hfew
        replace RC := Lib.hid RC
        replace hRb := Lib.hid hRb
        replace hRg := Lib.hid hRg
        go_upto_region 4 with (first | ((with_reducible refine (AW.out _).mono ?_); rintro e w4 ⟨rfl, hb4⟩; replace hB := Later.trans hB hb4; replace hr := Lib.hid (hr.out.below hb4); replace e0 := Later.cell hb4 e0; replace e1 := Later.cell hb4 e1) | ((with_reducible refine (FW.out _ hr.out).mono ?_); rintro e w5 ⟨rfl, hw5⟩; obtain rfl := hw5.symm))
        refine wp_region_grow 10 100 (by kernel_rfl) (by kernel_rfl) rfl (fun w6 hl6 => ?_)
        simp only [List.take_succ_cons, List.take_zero, List.drop_succ_cons, List.drop_zero]
        generalize ha : Act.mk _ _ = a0
        have k2 : a0.eval (.tmp 2) = .slice A l.length cap := by subst ha; rfl
        have k4 : a0.eval (.tmp 4) = .pointer (some ⟨G + 1, 0, none⟩) := by subst ha; rfl
        have k7 : a0.eval (.tmp 7) = .int .i64 m := by subst ha; rfl
        have k8 : a0.eval (.tmp 8) = .int .i64 n := by subst ha; rfl
        have ks : a0.tmps.size = 100 := by subst ha; rfl
        have ha0 := ha.symm
        clear ha
        refine wpG_call _ _ Try.func17 (by kernel_rfl) (by kernel_rfl) (fun W _ => M.out W) (fun a w hk => by first | rfl | simp) ?_
        refine wpG_move (fun a w hk => (hk 7 rfl : a.eval (.tmp 7) = a0.eval (.tmp 7)).trans k7) ?_
        refine wpG_move (fun a w hk => (hk 8 rfl : a.eval (.tmp 8) = a0.eval (.tmp 8)).trans k8) ?_
        apply wpG_value'
        · rfl
        · (intro a wx hlx hk K hK; have e4 : a.eval (.tmp 4) = _ := (hk 4 rfl : a.eval (.tmp 4) = a0.eval (.tmp 4)).trans k4; simp only [execOp, e4]; clear e4 hk; go_simp; exact hK)
        refine wpG_load1 (hl6.cell e0) Try.underlying9 rfl (fun a w hk => hk 38 rfl) ?_
        apply wpG_value'
        · rfl
        · (intro a wx hlx hk K hK; have e4 : a.eval (.tmp 4) = _ := (hk 4 rfl : a.eval (.tmp 4) = a0.eval (.tmp 4)).trans k4; simp only [execOp, e4]; clear e4 hk; go_simp; exact hK)
        refine wpG_load1 (hl6.cell e1) Try.underlying9 rfl (fun a w hk => hk 40 rfl) ?_
        refine wpG_move (fun a w hk => (hk 2 rfl : a.eval (.tmp 2) = a0.eval (.tmp 2)).trans k2) ?_
        refine wpG_call _ _ Try.func24 (by kernel_rfl) (by kernel_rfl) (fun W hW => RC.out W (hr.out.below (hl6.trans hW))) (fun a w hk => by have e35 : a.eval (.tmp 35) = _ := hk 35 rfl; have e36 : a.eval (.tmp 36) = _ := hk 36 rfl; have e37 : a.eval (.tmp 37) = _ := hk 37 rfl; have e39 : a.eval (.tmp 39) = _ := hk 39 rfl; have e41 : a.eval (.tmp 41) = _ := hk 41 rfl; have e42 : a.eval (.tmp 42) = _ := hk 42 rfl; simp [e35, e36, e37, e39, e41, e42]) ?_
        refine wpG_assign (fun a w hk => hk 43 rfl) ?_
        refine wpG_nil (fun w6' hl6' => ?_)
        refine fin_is ?_
        refine fin_is ?_
        refine fin_is ?_
        refine fin_is ?_
        refine fin_is ?_
        refine fin_is ?_
        refine fin_is ?_
        refine fin_is ?_
        refine fin_is ?_
        refine fin_is ?_
        refine fin_nil ?_
        subst ha0
        clear k7 k8 k4 k2 ks
        simp only [Act.put, List.setIfInBounds_toArray, List.set_cons_succ, List.set_cons_zero]
        have hl := hl6.trans hl6'
        replace hB := hB.trans hl
        replace hr := Lib.hid (hr.out.below hl)
        replace e0 := hl.cell e0
        replace e1 := hl.cell e1
        clear hl6 hl6' hl RC
        by_cases h1 : m < 1
        · have q1 : (m < 1) = True := eq_true h1
          obtain rfl := hRb.out (.inl h1)
          go_wp2_with (fail)
          go_returns
          go_light
          exact ⟨rfl, by first | exact hB | (rw [← hG]; exact hB)⟩
        · have q1 : (m < 1) = False := eq_false h1
          by_cases h2 : n < m
          · have q2 : (n < m) = True := eq_true h2
            obtain rfl := hRb.out (.inr (.inl h2))
            go_wp2_with (fail)
            go_returns
            go_light
            exact ⟨rfl, by first | exact hB | (rw [← hG]; exact hB)⟩
          · have q2 : (n < m) = False := eq_false h2
            by_cases h3 : 64 < n
            · have q3 : (64 < n) = True := eq_true h3
              obtain rfl := hRb.out (.inr (.inr h3))
              go_wp2_with (fail)
              go_returns
              go_light
              exact ⟨rfl, by first | exact hB | (rw [← hG]; exact hB)⟩
            · have q3 : (64 < n) = False := eq_false h3
              obtain ⟨m', hm'⟩ : ∃ m' : Nat, m = m' := ⟨m.toNat, by omega⟩
              obtain ⟨n', hn'⟩ : ∃ n' : Nat, n = n' := ⟨n.toNat, by omega⟩
              have hm1 : 1 ≤ m' := by omega
              have hmn1 : m' ≤ n' := by omega
              have hn64 : n' ≤ 64 := by omega
              have hR := hRg.out m' n' hm' hn' hm1 hmn1 hn64
              have RC2 := fun second' w hr => hR2.out m' n' second' w hm' hn' hm1 hmn1 hn64 hr
              clear hRb hRg hR2
              subst hm' hn'
              have LC : ∀ w : World, Calls Try.prog 25 #[.int .i64 m', .int .i64 n', .bool true] w fun e w' => e = .returned (.int .i64 (lenN m' n' true : Nat)) ∧ w' = w := fun w => (refLength_calls n' m' true w hm1 hmn1 (by omega)).mono fun e w' h => ⟨h.1.1, h.2⟩
              rw [consT_eq _ _ _ _ _ hm1 hmn1] at hR
              replace LC := Lib.hid LC
              by_cases hd : l.length = lenN m' n' true
              · have BC := fun w hr => refBoth_calls first (by omega) n' m' l true A cap w hm1 hmn1 (by omega) hd hcap h1000.out hr
                replace RC2 := RC2 (bothN m' n' first l true).2
                rw [consT_eq _ _ _ _ _ hm1 hmn1, decide_eq_true hd, decide_eq_true rfl] at RC2
                rw [decide_eq_true hd, Bool.true_and] at hR
                simp only [Bool.and_true, Bool.true_and] at RC2
                rw [← hd] at LC
                generalize bothN m' n' first l true = X at *
                obtain ⟨xa, xb⟩ := X
                simp only at BC RC2 hR
                replace RC2 := Lib.hid RC2
                replace BC := Lib.hid BC
                replace hd := Lib.hid hd
                by_cases hX : xa = first
                · subst hX
                  rw [decide_eq_true rfl] at RC2 hR
                  by_cases hY : xb = second
                  · subst hY
                    rw [decide_eq_true rfl] at hR
                    simp only [Bool.and_self] at hR
                    subst hR
                    go_upto_region 10 with (first | ((with_reducible refine (LC.out _).mono ?_); rintro e w8 ⟨rfl, hw8⟩; obtain rfl := hw8.symm) | ((with_reducible refine (BC.out _ hr.out).mono ?_); rintro e w9 ⟨rfl, hb9⟩; replace hB := Later.trans hB hb9; replace hr := Lib.hid (hr.out.below hb9); replace e0 := Later.cell hb9 e0; replace e1 := Later.cell hb9 e1; have hX := Whole.new w9 40 #[.string xa, .string xb]; replace hB := hB.alloc (.cells #[.string xa, .string xb] 40); replace e0 := cell_alloc e0 (.cells #[.string xa, .string xb] 40); replace e1 := cell_alloc e1 (.cells #[.string xa, .string xb] 40); replace hr := Lib.hid (hr.out.below ((Later.refl _).alloc (.cells #[.string xa, .string xb] 40))); have x0 := hX.cell 0; have x1 := hX.cell 1))
                    generalize hG9 : w9.heap.size = G9 at *
                    generalize w9.alloc (.cells #[.string xa, .string xb] 40) = W9 at *
                    refine wp_region_grow 16 100 (by kernel_rfl) (by kernel_rfl) rfl (fun w7 hl7 => ?_)
                    simp only [List.take_succ_cons, List.take_zero, List.drop_succ_cons, List.drop_zero]
                    generalize ha : Act.mk _ _ = a0
                    have k2 : a0.eval (.tmp 2) = .slice A l.length cap := by subst ha; rfl
                    have k4 : a0.eval (.tmp 4) = .pointer (some ⟨G + 1, 0, none⟩) := by subst ha; rfl
                    have k7 : a0.eval (.tmp 7) = .int .i64 m' := by subst ha; rfl
                    have k8 : a0.eval (.tmp 8) = .int .i64 n' := by subst ha; rfl
                    have k10 : a0.eval (.tmp 10) = .pointer (some ⟨G9, 0, none⟩) := by subst ha; rfl
                    have ks : a0.tmps.size = 100 := by subst ha; rfl
                    have ha0 := ha.symm
                    clear ha
                    refine wpG_call _ _ Try.func17 (by kernel_rfl) (by kernel_rfl) (fun W _ => M.out W) (fun a w hk => by first | rfl | simp) ?_
                    refine wpG_move (fun a w hk => (hk 7 rfl : a.eval (.tmp 7) = a0.eval (.tmp 7)).trans k7) ?_
                    refine wpG_move (fun a w hk => (hk 8 rfl : a.eval (.tmp 8) = a0.eval (.tmp 8)).trans k8) ?_
                    apply wpG_value'
                    · rfl
                    · (intro a wx hlx hk K hK; have e4 : a.eval (.tmp 4) = _ := (hk 4 rfl : a.eval (.tmp 4) = a0.eval (.tmp 4)).trans k4; simp only [execOp, e4]; clear e4 hk; go_simp; exact hK)
                    refine wpG_load1 (hl7.cell e0) Try.underlying9 rfl (fun a w hk => hk 88 rfl) ?_
                    apply wpG_value'
                    · rfl
                    · (intro a wx hlx hk K hK; have e10 : a.eval (.tmp 10) = _ := (hk 10 rfl : a.eval (.tmp 10) = a0.eval (.tmp 10)).trans k10; simp only [execOp, e10]; clear e10 hk; go_simp; exact hK)
                    refine wpG_load1 (hl7.cell x1) Try.underlying9 rfl (fun a w hk => hk 90 rfl) ?_
                    refine wpG_move (fun a w hk => (hk 2 rfl : a.eval (.tmp 2) = a0.eval (.tmp 2)).trans k2) ?_
                    refine wpG_call _ _ Try.func24 (by kernel_rfl) (by kernel_rfl) (fun W hW => RC2.out W (hr.out.below (hl7.trans hW))) (fun a w hk => by have e85 : a.eval (.tmp 85) = _ := hk 85 rfl; have e86 : a.eval (.tmp 86) = _ := hk 86 rfl; have e87 : a.eval (.tmp 87) = _ := hk 87 rfl; have e89 : a.eval (.tmp 89) = _ := hk 89 rfl; have e91 : a.eval (.tmp 91) = _ := hk 91 rfl; have e92 : a.eval (.tmp 92) = _ := hk 92 rfl; simp [e85, e86, e87, e89, e91, e92]) ?_
                    apply wpG_value'
                    · rfl
                    · (intro a wx hlx hk K hK; have e10 : a.eval (.tmp 10) = _ := (hk 10 rfl : a.eval (.tmp 10) = a0.eval (.tmp 10)).trans k10; simp only [execOp, e10]; clear e10 hk; go_simp; exact hK)
                    refine wpG_load1 (hl7.cell x0) Try.underlying9 rfl (fun a w hk => hk 94 rfl) ?_
                    apply wpG_value'
                    · rfl
                    · (intro a wx hlx hk K hK; have e4 : a.eval (.tmp 4) = _ := (hk 4 rfl : a.eval (.tmp 4) = a0.eval (.tmp 4)).trans k4; simp only [execOp, e4]; clear e4 hk; go_simp; exact hK)
                    refine wpG_load1 (hl7.cell e0) Try.underlying9 rfl (fun a w hk => hk 96 rfl) ?_
                    apply wpG_value'
                    · rfl
                    · (intro a wx hlx hk K hK; have e95 : a.eval (.tmp 95) = _ := hk 95 rfl; have e97 : a.eval (.tmp 97) = _ := hk 97 rfl; simp only [execOp, e95, e97]; clear e95 e97 hk; go_simp; exact hK)
                    apply wpG_value'
                    · rfl
                    · (intro a wx hlx hk K hK; have e93 : a.eval (.tmp 93) = _ := hk 93 rfl; have e98 : a.eval (.tmp 98) = _ := hk 98 rfl; simp only [execOp, e93, e98]; clear e93 e98 hk; go_simp; exact hK)
                    refine wpG_assign (fun a w hk => hk 99 rfl) ?_
                    refine wpG_nil (fun w7' hl7' => ?_)
                    refine fin_is ?_
                    refine fin_is ?_
                    refine fin_is ?_
                    refine fin_is ?_
                    refine fin_is ?_
                    refine fin_is ?_
                    refine fin_is ?_
                    refine fin_is ?_
                    refine fin_is ?_
                    refine fin_is ?_
                    refine fin_is ?_
                    refine fin_is ?_
                    refine fin_is ?_
                    refine fin_is ?_
                    refine fin_is ?_
                    refine fin_is ?_
                    refine fin_nil ?_
                    subst ha0
                    clear k7 k8 k4 k10 k2 ks
                    simp only [Act.put, List.setIfInBounds_toArray, List.set_cons_succ, List.set_cons_zero]
                    go_wp2_with (fail)
                    go_returns
                    go_light
                    exact ⟨rfl, hB.trans (hl7.trans hl7')⟩
                  · rw [decide_eq_false hY] at hR
                    have hY' : (xb.toList == second.toList) = false := by rw [beqL]; simp [hY]
                    simp only [Bool.and_false] at hR
                    subst hR
                    go_upto_region 10 with (first | ((with_reducible refine (LC.out _).mono ?_); rintro e w8 ⟨rfl, hw8⟩; obtain rfl := hw8.symm) | ((with_reducible refine (BC.out _ hr.out).mono ?_); rintro e w9 ⟨rfl, hb9⟩; replace hB := Later.trans hB hb9; replace hr := Lib.hid (hr.out.below hb9); replace e0 := Later.cell hb9 e0; replace e1 := Later.cell hb9 e1; have hX := Whole.new w9 40 #[.string xa, .string xb]; replace hB := hB.alloc (.cells #[.string xa, .string xb] 40); replace e0 := cell_alloc e0 (.cells #[.string xa, .string xb] 40); replace e1 := cell_alloc e1 (.cells #[.string xa, .string xb] 40); replace hr := Lib.hid (hr.out.below ((Later.refl _).alloc (.cells #[.string xa, .string xb] 40))); have x0 := hX.cell 0; have x1 := hX.cell 1))
                    generalize hG9 : w9.heap.size = G9 at *
                    generalize w9.alloc (.cells #[.string xa, .string xb] 40) = W9 at *
                    refine wp_region_grow 16 100 (by kernel_rfl) (by kernel_rfl) rfl (fun w7 hl7 => ?_)
                    simp only [List.take_succ_cons, List.take_zero, List.drop_succ_cons, List.drop_zero]
                    generalize ha : Act.mk _ _ = a0
                    have k2 : a0.eval (.tmp 2) = .slice A l.length cap := by subst ha; rfl
                    have k4 : a0.eval (.tmp 4) = .pointer (some ⟨G + 1, 0, none⟩) := by subst ha; rfl
                    have k7 : a0.eval (.tmp 7) = .int .i64 m' := by subst ha; rfl
                    have k8 : a0.eval (.tmp 8) = .int .i64 n' := by subst ha; rfl
                    have k10 : a0.eval (.tmp 10) = .pointer (some ⟨G9, 0, none⟩) := by subst ha; rfl
                    have ks : a0.tmps.size = 100 := by subst ha; rfl
                    have ha0 := ha.symm
                    clear ha
                    refine wpG_call _ _ Try.func17 (by kernel_rfl) (by kernel_rfl) (fun W _ => M.out W) (fun a w hk => by first | rfl | simp) ?_
                    refine wpG_move (fun a w hk => (hk 7 rfl : a.eval (.tmp 7) = a0.eval (.tmp 7)).trans k7) ?_
                    refine wpG_move (fun a w hk => (hk 8 rfl : a.eval (.tmp 8) = a0.eval (.tmp 8)).trans k8) ?_
                    apply wpG_value'
                    · rfl
                    · (intro a wx hlx hk K hK; have e4 : a.eval (.tmp 4) = _ := (hk 4 rfl : a.eval (.tmp 4) = a0.eval (.tmp 4)).trans k4; simp only [execOp, e4]; clear e4 hk; go_simp; exact hK)
                    refine wpG_load1 (hl7.cell e0) Try.underlying9 rfl (fun a w hk => hk 88 rfl) ?_
                    apply wpG_value'
                    · rfl
                    · (intro a wx hlx hk K hK; have e10 : a.eval (.tmp 10) = _ := (hk 10 rfl : a.eval (.tmp 10) = a0.eval (.tmp 10)).trans k10; simp only [execOp, e10]; clear e10 hk; go_simp; exact hK)
                    refine wpG_load1 (hl7.cell x1) Try.underlying9 rfl (fun a w hk => hk 90 rfl) ?_
                    refine wpG_move (fun a w hk => (hk 2 rfl : a.eval (.tmp 2) = a0.eval (.tmp 2)).trans k2) ?_
                    refine wpG_call _ _ Try.func24 (by kernel_rfl) (by kernel_rfl) (fun W hW => RC2.out W (hr.out.below (hl7.trans hW))) (fun a w hk => by have e85 : a.eval (.tmp 85) = _ := hk 85 rfl; have e86 : a.eval (.tmp 86) = _ := hk 86 rfl; have e87 : a.eval (.tmp 87) = _ := hk 87 rfl; have e89 : a.eval (.tmp 89) = _ := hk 89 rfl; have e91 : a.eval (.tmp 91) = _ := hk 91 rfl; have e92 : a.eval (.tmp 92) = _ := hk 92 rfl; simp [e85, e86, e87, e89, e91, e92]) ?_
                    apply wpG_value'
                    · rfl
                    · (intro a wx hlx hk K hK; have e10 : a.eval (.tmp 10) = _ := (hk 10 rfl : a.eval (.tmp 10) = a0.eval (.tmp 10)).trans k10; simp only [execOp, e10]; clear e10 hk; go_simp; exact hK)
                    refine wpG_load1 (hl7.cell x0) Try.underlying9 rfl (fun a w hk => hk 94 rfl) ?_
                    apply wpG_value'
                    · rfl
                    · (intro a wx hlx hk K hK; have e4 : a.eval (.tmp 4) = _ := (hk 4 rfl : a.eval (.tmp 4) = a0.eval (.tmp 4)).trans k4; simp only [execOp, e4]; clear e4 hk; go_simp; exact hK)
                    refine wpG_load1 (hl7.cell e0) Try.underlying9 rfl (fun a w hk => hk 96 rfl) ?_
                    apply wpG_value'
                    · rfl
                    · (intro a wx hlx hk K hK; have e95 : a.eval (.tmp 95) = _ := hk 95 rfl; have e97 : a.eval (.tmp 97) = _ := hk 97 rfl; simp only [execOp, e95, e97]; clear e95 e97 hk; go_simp; exact hK)
                    apply wpG_value'
                    · rfl
                    · (intro a wx hlx hk K hK; have e93 : a.eval (.tmp 93) = _ := hk 93 rfl; have e98 : a.eval (.tmp 98) = _ := hk 98 rfl; simp only [execOp, e93, e98]; clear e93 e98 hk; go_simp; exact hK)
                    refine wpG_assign (fun a w hk => hk 99 rfl) ?_
                    refine wpG_nil (fun w7' hl7' => ?_)
                    refine fin_is ?_
                    refine fin_is ?_
                    refine fin_is ?_
                    refine fin_is ?_
                    refine fin_is ?_
                    refine fin_is ?_
                    refine fin_is ?_
                    refine fin_is ?_
                    refine fin_is ?_
                    refine fin_is ?_
                    refine fin_is ?_
                    refine fin_is ?_
                    refine fin_is ?_
                    refine fin_is ?_
                    refine fin_is ?_
                    refine fin_is ?_
                    refine fin_nil ?_
                    subst ha0
                    clear k7 k8 k4 k10 k2 ks
                    simp only [Act.put, List.setIfInBounds_toArray, List.set_cons_succ, List.set_cons_zero]
                    go_wp2_with (fail)
                    go_returns
                    go_light
                    exact ⟨rfl, hB.trans (hl7.trans hl7')⟩
                · rw [decide_eq_false hX] at RC2 hR
                  have hX' : (xa.toList == first.toList) = false := by rw [beqL]; simp [hX]
                  simp only [Bool.false_and] at hR
                  subst hR
                  go_upto_region 10 with (first | ((with_reducible refine (LC.out _).mono ?_); rintro e w8 ⟨rfl, hw8⟩; obtain rfl := hw8.symm) | ((with_reducible refine (BC.out _ hr.out).mono ?_); rintro e w9 ⟨rfl, hb9⟩; replace hB := Later.trans hB hb9; replace hr := Lib.hid (hr.out.below hb9); replace e0 := Later.cell hb9 e0; replace e1 := Later.cell hb9 e1; have hX := Whole.new w9 40 #[.string xa, .string xb]; replace hB := hB.alloc (.cells #[.string xa, .string xb] 40); replace e0 := cell_alloc e0 (.cells #[.string xa, .string xb] 40); replace e1 := cell_alloc e1 (.cells #[.string xa, .string xb] 40); replace hr := Lib.hid (hr.out.below ((Later.refl _).alloc (.cells #[.string xa, .string xb] 40))); have x0 := hX.cell 0; have x1 := hX.cell 1))
                  generalize hG9 : w9.heap.size = G9 at *
                  generalize w9.alloc (.cells #[.string xa, .string xb] 40) = W9 at *
                  refine wp_region_grow 16 100 (by kernel_rfl) (by kernel_rfl) rfl (fun w7 hl7 => ?_)
                  simp only [List.take_succ_cons, List.take_zero, List.drop_succ_cons, List.drop_zero]
                  generalize ha : Act.mk _ _ = a0
                  have k2 : a0.eval (.tmp 2) = .slice A l.length cap := by subst ha; rfl
                  have k4 : a0.eval (.tmp 4) = .pointer (some ⟨G + 1, 0, none⟩) := by subst ha; rfl
                  have k7 : a0.eval (.tmp 7) = .int .i64 m' := by subst ha; rfl
                  have k8 : a0.eval (.tmp 8) = .int .i64 n' := by subst ha; rfl
                  have k10 : a0.eval (.tmp 10) = .pointer (some ⟨G9, 0, none⟩) := by subst ha; rfl
                  have ks : a0.tmps.size = 100 := by subst ha; rfl
                  have ha0 := ha.symm
                  clear ha
                  refine wpG_call _ _ Try.func17 (by kernel_rfl) (by kernel_rfl) (fun W _ => M.out W) (fun a w hk => by first | rfl | simp) ?_
                  refine wpG_move (fun a w hk => (hk 7 rfl : a.eval (.tmp 7) = a0.eval (.tmp 7)).trans k7) ?_
                  refine wpG_move (fun a w hk => (hk 8 rfl : a.eval (.tmp 8) = a0.eval (.tmp 8)).trans k8) ?_
                  apply wpG_value'
                  · rfl
                  · (intro a wx hlx hk K hK; have e4 : a.eval (.tmp 4) = _ := (hk 4 rfl : a.eval (.tmp 4) = a0.eval (.tmp 4)).trans k4; simp only [execOp, e4]; clear e4 hk; go_simp; exact hK)
                  refine wpG_load1 (hl7.cell e0) Try.underlying9 rfl (fun a w hk => hk 88 rfl) ?_
                  apply wpG_value'
                  · rfl
                  · (intro a wx hlx hk K hK; have e10 : a.eval (.tmp 10) = _ := (hk 10 rfl : a.eval (.tmp 10) = a0.eval (.tmp 10)).trans k10; simp only [execOp, e10]; clear e10 hk; go_simp; exact hK)
                  refine wpG_load1 (hl7.cell x1) Try.underlying9 rfl (fun a w hk => hk 90 rfl) ?_
                  refine wpG_move (fun a w hk => (hk 2 rfl : a.eval (.tmp 2) = a0.eval (.tmp 2)).trans k2) ?_
                  refine wpG_call _ _ Try.func24 (by kernel_rfl) (by kernel_rfl) (fun W hW => RC2.out W (hr.out.below (hl7.trans hW))) (fun a w hk => by have e85 : a.eval (.tmp 85) = _ := hk 85 rfl; have e86 : a.eval (.tmp 86) = _ := hk 86 rfl; have e87 : a.eval (.tmp 87) = _ := hk 87 rfl; have e89 : a.eval (.tmp 89) = _ := hk 89 rfl; have e91 : a.eval (.tmp 91) = _ := hk 91 rfl; have e92 : a.eval (.tmp 92) = _ := hk 92 rfl; simp [e85, e86, e87, e89, e91, e92]) ?_
                  apply wpG_value'
                  · rfl
                  · (intro a wx hlx hk K hK; have e10 : a.eval (.tmp 10) = _ := (hk 10 rfl : a.eval (.tmp 10) = a0.eval (.tmp 10)).trans k10; simp only [execOp, e10]; clear e10 hk; go_simp; exact hK)
                  refine wpG_load1 (hl7.cell x0) Try.underlying9 rfl (fun a w hk => hk 94 rfl) ?_
                  apply wpG_value'
                  · rfl
                  · (intro a wx hlx hk K hK; have e4 : a.eval (.tmp 4) = _ := (hk 4 rfl : a.eval (.tmp 4) = a0.eval (.tmp 4)).trans k4; simp only [execOp, e4]; clear e4 hk; go_simp; exact hK)
                  refine wpG_load1 (hl7.cell e0) Try.underlying9 rfl (fun a w hk => hk 96 rfl) ?_
                  apply wpG_value'
                  · rfl
                  · (intro a wx hlx hk K hK; have e95 : a.eval (.tmp 95) = _ := hk 95 rfl; have e97 : a.eval (.tmp 97) = _ := hk 97 rfl; simp only [execOp, e95, e97]; clear e95 e97 hk; go_simp; exact hK)
                  apply wpG_value'
                  · rfl
                  · (intro a wx hlx hk K hK; have e93 : a.eval (.tmp 93) = _ := hk 93 rfl; have e98 : a.eval (.tmp 98) = _ := hk 98 rfl; simp only [execOp, e93, e98]; clear e93 e98 hk; go_simp; exact hK)
                  refine wpG_assign (fun a w hk => hk 99 rfl) ?_
                  refine wpG_nil (fun w7' hl7' => ?_)
                  refine fin_is ?_
                  refine fin_is ?_
                  refine fin_is ?_
                  refine fin_is ?_
                  refine fin_is ?_
                  refine fin_is ?_
                  refine fin_is ?_
                  refine fin_is ?_
                  refine fin_is ?_
                  refine fin_is ?_
                  refine fin_is ?_
                  refine fin_is ?_
                  refine fin_is ?_
                  refine fin_is ?_
                  refine fin_is ?_
                  refine fin_is ?_
                  refine fin_nil ?_
                  subst ha0
                  clear k7 k8 k4 k10 k2 ks
                  simp only [Act.put, List.setIfInBounds_toArray, List.set_cons_succ, List.set_cons_zero]
                  go_wp2_with (fail)
                  go_returns
                  go_light
                  exact ⟨rfl, hB.trans (hl7.trans hl7')⟩
              · rw [decide_eq_false hd, Bool.false_and] at hR
                subst hR
                have hd' : (((l.length : Int)) == (lenN m' n' true : Nat)) = false := by rw [beq_eq_false_iff_ne]; omega
                generalize lenN m' n' true = d at *
                go_wp2_with (first | ((with_reducible refine (LC.out _).mono ?_); rintro e w8 ⟨rfl, hw8⟩; obtain rfl := hw8.symm))
                go_returns
                go_light
                exact ⟨rfl, by first | exact hB | (rw [← hG]; exact hB)⟩
      · have qs2 : ((40 : Int) < second.size) = True := eq_true (by omega)
        go_wp2_with (first | ((with_reducible refine (AW.out _).mono ?_); rintro e w4 ⟨rfl, hb4⟩; replace hB := Later.trans hB hb4; replace hr := Lib.hid (hr.out.below hb4); replace e0 := Later.cell hb4 e0; replace e1 := Later.cell hb4 e1) | ((with_reducible refine (FW.out _ hr.out).mono ?_); rintro e w5 ⟨rfl, hw5⟩; obtain rfl := hw5.symm))
        go_returns
        go_light
        exact ⟨rfl, by first | exact hB | (rw [← hG]; exact hB)⟩
    · have qs1 : ((40 : Int) < first.size) = True := eq_true (by omega)
      go_wp2_with (first | ((with_reducible refine (AW.out _).mono ?_); rintro e w4 ⟨rfl, hb4⟩; replace hB := Later.trans hB hb4; replace hr := Lib.hid (hr.out.below hb4); replace e0 := Later.cell hb4 e0; replace e1 := Later.cell hb4 e1) | ((with_reducible refine (FW.out _ hr.out).mono ?_); rintro e w5 ⟨rfl, hw5⟩; obtain rfl := hw5.symm))
      go_returns
      go_light
      exact ⟨rfl, by first | exact hB | (rw [← hG]; exact hB)⟩
  · have FW := fun w hr => few04_false l A cap 70 40 70 40 rfl rfl (by decide) (by decide) w hr hfew
    replace FW := Lib.hid FW
    go_wp2_with (first | ((with_reducible refine (AW.out _).mono ?_); rintro e w4 ⟨rfl, hb4⟩; replace hB := Later.trans hB hb4; replace hr := Lib.hid (hr.out.below hb4); replace e0 := Later.cell hb4 e0; replace e1 := Later.cell hb4 e1) | ((with_reducible refine (FW.out _ hr.out).mono ?_); rintro e w5 ⟨rfl, hw5⟩; obtain rfl := hw5.symm))
    go_returns
    go_light
    exact ⟨rfl, by first | exact hB | (rw [← hG]; exact hB)⟩
end Go.Proofs.Ytfkafejoacpclaa
