/- Heads, as plain data; what was read is what stands there. No conditions. -/
import Derived.Test.YtdohmkanpdhmaaaWirePlain
namespace Go.Proofs.Ytdohmkanpdhmaaa
open Go.RowKit
set_option linter.unusedVariables false
set_option linter.unusedSimpArgs false
/-- A head. -/
structure Hd where
  q : Int
  z : Int
  t : Int
  r : ByteArray
  m : ByteArray
def Hd.A (h : Hd) : Array Value := #[.int .i64 h.q, .int .i64 h.z, .int .i64 h.t, .string h.r, .string h.m]
def Hd.zero : Hd := ⟨0, 0, 0, ByteArray.empty, ByteArray.empty⟩
def Hd.right (h : Hd) : Bool := decide (0 ≤ h.q) && decide (h.q ≤ 2147483647) && decide (0 ≤ h.z) && decide (h.z ≤ 2147483647) && decide (0 ≤ h.t) && decide (h.t ≤ 2147483647) && decide ((h.r.size : Int) = 32) && decide ((h.m.size : Int) = 32)
def Hd.B (h : Hd) : ByteArray := ⟨#[72]⟩ ++ numB h.q ++ numB h.z ++ numB h.t ++ h.r ++ h.m
def Rd.head (r : Rd) : Hd × Rd :=
  let a := r.num; let b := a.2.num; let c := b.2.num; let d := c.2.cut 32; let e := d.2.cut 32
  (⟨a.1, b.1, c.1, d.1, e.1⟩, e.2)
def readHead (b : ByteArray) : Hd × Int :=
  let x := ((⟨b, false⟩ : Rd).mark (lit [72])).head
  if x.2.done then (x.1, 0) else (Hd.zero, 2)
/-- So many texts, as long as the reader is well. -/
def Rd.texts : Nat → Rd → List ByteArray × Rd
  | 0, r => ([], r)
  | n + 1, r => if r.x then ([], r) else (r.text.1 :: (Rd.texts n r.text.2).1, (Rd.texts n r.text.2).2)
def readList (b : ByteArray) : List ByteArray × Int :=
  let r := ((⟨b, false⟩ : Rd).mark (lit [76])).num
  let t := Rd.texts r.1.toNat ⟨r.2.b, r.2.x || decide (1000 < r.1)⟩
  if t.2.done then (t.1, 0) else ([], 2)

theorem hright_bounds {h : Hd} (hr : h.right = true) : 0 ≤ h.q ∧ h.q ≤ 2147483647 ∧ 0 ≤ h.z ∧ h.z ≤ 2147483647 ∧ 0 ≤ h.t ∧ h.t ≤ 2147483647 ∧ h.r.size = 32 ∧ h.m.size = 32 := by
  simp [Hd.right] at hr; omega
theorem head_app (h : Hd) (hr : h.right = true) : readHead h.B = (h, 0) := by
  obtain ⟨h1, h2, h3, h4, h5, h6, h7, h8⟩ := hright_bounds hr
  have e : ((⟨h.B, false⟩ : Rd).mark (lit [72])).head = (h, ⟨ByteArray.empty, false⟩) := by
    rw [← ByteArray.append_empty (b := h.B)]
    unfold Hd.B lit
    simp only [ByteArray.append_assoc]
    rw [show (⟨(List.map UInt8.ofNat [72]).toArray⟩ : ByteArray) = ⟨#[72]⟩ from rfl, mark_app]
    unfold Rd.head
    simp only
    rw [num_app _ _ h1 h2]
    simp only
    rw [num_app _ _ h3 h4]
    simp only
    rw [num_app _ _ h5 h6]
    simp only
    rw [cut_app _ _ 32 (by omega)]
    simp only
    rw [cut_app _ _ 32 (by omega)]
  unfold readHead
  simp only
  rw [e]
  simp [Rd.done]
theorem readReq_right {r : Rq} (hr : r.right = true) : readReq r.B = (r, 0) := by
  unfold readReq
  simp only
  have := req_app r ByteArray.empty hr
  rw [ByteArray.append_empty] at this
  rw [show lit [82] = ⟨#[82]⟩ from rfl, this]
  simp [Rd.done, hr]

/-! ### Backwards -/
theorem cut_back {r : Rd} {n : Int} (h : (r.cut n).2.x = false) : r.x = false ∧ r.b = (r.cut n).1 ++ (r.cut n).2.b ∧ ((r.cut n).1.size : Int) = n := by
  unfold Rd.cut cutX at h
  simp only at h
  split at h
  · cases h
  · rename_i hc
    unfold Rd.cut cutS cutR
    simp only
    rw [if_neg hc, if_neg hc]
    simp only [not_or, Bool.not_eq_true, Int.not_lt] at hc
    obtain ⟨h1, h2, h3⟩ := hc
    refine ⟨h1, cut_apart _ _ (by omega), ?_⟩
    rw [ByteArray.size_extract]; omega
theorem numB_beNum (s : ByteArray) (h4 : s.size = 4) (h : beNum s.data.toList ≤ 2147483647) : numB (beNum s.data.toList) = s := by
  have hl : s.data.toList.length = 4 := by rw [dataL, h4]
  refine bytes_ext ?_
  rw [← ByteArray.toList_eq]
  have hb := (beNum_bound s.data.toList).1
  rw [numB_list _ hb h]
  generalize s.data.toList = l at hl h hb
  match l, hl with
  | [a, b, c, d], _ =>
    simp only [beNum, List.foldl_cons, List.foldl_nil]
    have ha := a.toNat_lt
    have hb := b.toNat_lt
    have hc := c.toNat_lt
    have hd := d.toNat_lt
    have e : ∀ (x : Int) (u : UInt8), x = u.toNat → UInt8.ofNat x.toNat = u := fun x u hx => by rw [hx]; simp
    rw [e _ a (by omega), e _ b (by omega), e _ c (by omega), e _ d (by omega)]
theorem num_back {r : Rd} (h : r.num.2.x = false) : r.x = false ∧ 0 ≤ r.num.1 ∧ r.num.1 ≤ 2147483647 ∧ r.b = numB r.num.1 ++ r.num.2.b := by
  have hx : r.num.2.x = ((r.cut 4).2.x || decide (2147483647 < beNum (r.cut 4).1.data.toList)) := rfl
  rw [hx, Bool.or_eq_false_iff, decide_eq_false_iff_not] at h
  obtain ⟨h1, h2⟩ := h
  obtain ⟨h3, h4, h5⟩ := cut_back h1
  have e1 : r.num.1 = beNum (r.cut 4).1.data.toList := rfl
  have e2 : r.num.2.b = (r.cut 4).2.b := rfl
  rw [e1, e2, numB_beNum _ (by omega) (by omega)]
  exact ⟨h3, (beNum_bound _).1, by omega, h4⟩
theorem text_back {r : Rd} (h : r.text.2.x = false) : r.x = false ∧ r.text.1.size ≤ 2147483647 ∧ r.b = textB r.text.1 ++ r.text.2.b := by
  obtain ⟨h1, h2, h3⟩ := cut_back (r := r.num.2) (n := r.num.1) h
  obtain ⟨h4, h5, h6, h7⟩ := num_back h1
  have e : r.text = r.num.2.cut r.num.1 := rfl
  refine ⟨h4, by rw [e]; omega, ?_⟩
  unfold textB
  rw [e, h3, ByteArray.append_assoc, ← h2]
  exact h7
theorem lit1 (n : Nat) : lit [n] = ⟨#[UInt8.ofNat n]⟩ := rfl
theorem mark_back {r : Rd} {u : UInt8} {c : ByteArray} (hu : c = ⟨#[u]⟩) (h : (r.mark c).x = false) : r.x = false ∧ r.b = c ++ (r.mark c).b := by
  unfold Rd.mark at h ⊢
  cases hx : r.x
  · simp only [hx, Bool.false_eq_true, if_false, Bool.not_eq_false', decide_eq_true_eq] at h ⊢
    refine ⟨trivial, ?_⟩
    have hc : (r.cut 1).2.x = false := by
      cases hh : (r.cut 1).2.x
      · rfl
      · exfalso
        unfold Rd.cut cutX at hh
        unfold Rd.cut cutS at h
        simp only at h hh
        split at hh
        · rename_i hq
          rw [if_pos hq, hu] at h
          have : (0 : Nat) = 1 := congrArg ByteArray.size h
          omega
        · cases hh
    rw [← h]
    exact (cut_back hc).2.1
  · simp [hx] at h
theorem done_back {r : Rd} (h : r.done = true) : r.x = false ∧ r.b = ByteArray.empty := by
  simpa [Rd.done] using h
theorem head_back {b : ByteArray} {h : Hd} (hh : readHead b = (h, 0)) : h.right = true ∧ h.B = b := by
  unfold readHead at hh
  simp only at hh
  split at hh
  case isFalse => simp at hh
  rename_i hd
  obtain ⟨d1, d2⟩ := done_back hd
  simp only [Prod.mk.injEq, and_true] at hh
  subst hh
  unfold Rd.head at d1 d2 ⊢
  simp only at d1 d2 ⊢
  obtain ⟨a1, a2, a3⟩ := cut_back d1
  obtain ⟨b1, b2, b3⟩ := cut_back a1
  obtain ⟨c1, c2, c3, c4⟩ := num_back b1
  obtain ⟨d1', d2', d3, d4⟩ := num_back c1
  obtain ⟨e1, e2, e3, e4⟩ := num_back d1'
  obtain ⟨f1, f2⟩ := mark_back (lit1 72) e1
  simp only at f2
  generalize (⟨b, false⟩ : Rd).mark (lit [72]) = R at *
  refine ⟨by simp [Hd.right]; omega, ?_⟩
  unfold Hd.B
  simp only [ByteArray.append_assoc]
  rw [f2, lit1]
  rw [e4, d4, c4, b2, a2, d2, ByteArray.append_empty]
  rfl
theorem req_back {b : ByteArray} {r : Rq} (hh : readReq b = (r, 0)) : r.right = true ∧ r.B = b := by
  unfold readReq at hh
  simp only at hh
  split at hh
  case isFalse => simp at hh
  rename_i hd
  rw [Bool.and_eq_true] at hd
  obtain ⟨hd, hr⟩ := hd
  obtain ⟨d1, d2⟩ := done_back hd
  simp only [Prod.mk.injEq, and_true] at hh
  subst hh
  refine ⟨hr, ?_⟩
  clear hr
  unfold Rd.req at d1 d2 ⊢
  simp only at d1 d2 ⊢
  obtain ⟨a1, a2, a3⟩ := text_back d1
  obtain ⟨b1, b2, b3⟩ := text_back a1
  obtain ⟨c1, c2, c3⟩ := text_back b1
  obtain ⟨d1', d2', d3, d4⟩ := num_back c1
  obtain ⟨e1, e2, e3, e4⟩ := num_back d1'
  obtain ⟨f1, f2⟩ := mark_back (lit1 82) e1
  simp only at f2
  generalize (⟨b, false⟩ : Rd).mark (lit [82]) = R at *
  unfold Rq.B
  simp only [ByteArray.append_assoc]
  rw [f2, lit1]
  rw [e4, d4, c3, b3, a3, d2, ByteArray.append_empty]
  rfl
end Go.Proofs.Ytdohmkanpdhmaaa
