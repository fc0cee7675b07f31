/- The plain laws of package wire: what was written is read again. No conditions. -/
import Derived.Test.YtdohmkanpdhmaaaWireSpec
namespace Go.Proofs.Ytdohmkanpdhmaaa
open Go.RowKit
set_option linter.unusedVariables false
set_option linter.unusedSimpArgs false

theorem bytes_ext {a b : ByteArray} (h : a.data.toList = b.data.toList) : a = b := ByteArray.ext (Array.toList_inj.1 h)
theorem extract_list (s : ByteArray) (a b : Nat) : (s.extract a b).data.toList = (s.data.toList.drop a).take (b - a) := by
  rw [ByteArray.data_extract, Array.toList_extract]
theorem append_list (s t : ByteArray) : (s ++ t).data.toList = s.data.toList ++ t.data.toList := by
  rw [ByteArray.data_append, Array.toList_append]
theorem cut_app (s t : ByteArray) (n : Int) (hn : n = s.size) : (⟨s ++ t, false⟩ : Rd).cut n = (s, ⟨t, false⟩) := by
  subst hn
  have hs : (s ++ t).size = s.size + t.size := ByteArray.size_append
  have hc : ¬ (false = true ∨ (s.size : Int) < 0 ∨ ((s ++ t).size : Int) < s.size) := by rw [hs]; simp; omega
  unfold Rd.cut cutS cutR cutX
  rw [if_neg hc, if_neg hc, if_neg hc, Int.toNat_natCast]
  have hl := dataL s
  congr 2
  · refine bytes_ext ?_
    rw [extract_list, append_list, List.drop_zero, Nat.sub_zero, ← hl, List.take_left]
  · congr 1
    refine bytes_ext ?_
    rw [extract_list, append_list, ← hl, List.drop_left, hs]
    refine List.take_of_length_le ?_
    rw [dataL, hl]; omega
theorem beNum_numB (n : Int) (h0 : 0 ≤ n) (h1 : n ≤ 2147483647) : beNum (numB n).data.toList = n := by
  rw [← ByteArray.toList_eq, numB_list n h0 h1]
  have e : ∀ a : Int, 0 ≤ a → a < 256 → ((UInt8.ofNat a.toNat).toNat : Int) = a := fun a h h' => by
    rw [UInt8.toNat_ofNat', Nat.mod_eq_of_lt (by omega)]; omega
  simp only [beNum, List.foldl_cons, List.foldl_nil]
  rw [e _ (by omega) (by omega), e _ (by omega) (by omega), e _ (by omega) (by omega), e _ (by omega) (by omega)]
  omega
theorem num_app (n : Int) (t : ByteArray) (h0 : 0 ≤ n) (h1 : n ≤ 2147483647) : (⟨numB n ++ t, false⟩ : Rd).num = (n, ⟨t, false⟩) := by
  have hc := cut_app (numB n) t 4 (by rw [numB_size]; rfl)
  unfold Rd.cut at hc
  simp only [Prod.mk.injEq, Rd.mk.injEq] at hc
  obtain ⟨c1, c2, c3⟩ := hc
  unfold Rd.num numS numX
  simp only
  rw [c1, c2, c3, beNum_numB n h0 h1]
  simp; omega
theorem text_app (s t : ByteArray) (h : s.size ≤ 2147483647) : (⟨textB s ++ t, false⟩ : Rd).text = (s, ⟨t, false⟩) := by
  unfold Rd.text textB
  rw [ByteArray.append_assoc, num_app _ _ (by omega) (by omega)]
  exact cut_app s t _ rfl
theorem mark_app (c : UInt8) (t : ByteArray) : (⟨⟨#[c]⟩ ++ t, false⟩ : Rd).mark ⟨#[c]⟩ = ⟨t, false⟩ := by
  unfold Rd.mark
  rw [cut_app ⟨#[c]⟩ t 1 rfl]
  simp
/-- A request's bytes. -/
def Rq.B (r : Rq) : ByteArray := ⟨#[82]⟩ ++ numB r.c ++ numB r.s ++ textB r.l ++ textB r.k ++ textB r.v
theorem right_bounds {r : Rq} (h : r.right = true) : 0 ≤ r.c ∧ r.c < 4 ∧ 1 ≤ r.s ∧ r.s ≤ 2147483647 ∧ 1 ≤ r.l.size ∧ r.l.size ≤ 200 ∧ r.k.size ≤ 50 ∧ r.v.size ≤ 100 := by
  simp [Rq.right] at h; omega
/-- A right request's bytes, whatever stands behind them, are read as that request. -/
theorem req_app (r : Rq) (t : ByteArray) (h : r.right = true) : ((⟨r.B ++ t, false⟩ : Rd).mark ⟨#[82]⟩).req = (r, ⟨t, false⟩) := by
  obtain ⟨h1, h2, h3, h4, h5, h6, h7, h8⟩ := right_bounds h
  unfold Rq.B
  simp only [ByteArray.append_assoc]
  rw [mark_app]
  unfold Rd.req
  simp only
  rw [num_app _ _ h1 (by omega)]
  simp only
  rw [num_app _ _ (by omega) h4]
  simp only
  rw [text_app _ _ (by omega)]
  simp only
  rw [text_app _ _ (by omega)]
  simp only
  rw [text_app _ _ (by omega)]
/-- Two right requests of which one's bytes begin the other's are the same. -/
theorem req_prefix {a b : Rq} (ha : a.right = true) (hb : b.right = true) {t u : ByteArray} (h : a.B ++ t = b.B ++ u) : a = b := by
  have h1 := req_app a t ha
  rw [h, req_app b u hb] at h1
  exact (Prod.mk.inj h1).1.symm
theorem req_size {a : Rq} {x : ByteArray} (h : a.B = x) : 1 ≤ x.size := by
  subst h
  unfold Rq.B
  simp only [ByteArray.size_append]
  have : (⟨#[82]⟩ : ByteArray).size = 1 := rfl
  omega
theorem cut_apart (x : ByteArray) (n : Nat) (h : n ≤ x.size) : x = x.extract 0 n ++ x.extract n x.size := by
  refine bytes_ext ?_
  rw [append_list, extract_list, extract_list, List.drop_zero, Nat.sub_zero]
  conv => lhs; rw [← List.take_append_drop n x.data.toList]
  congr 1
  refine (List.take_of_length_le ?_).symm
  have := dataL x
  simp
theorem extract_all (x : ByteArray) : x.extract 0 x.size = x := by
  refine bytes_ext ?_
  rw [extract_list, List.drop_zero, Nat.sub_zero]
  exact List.take_of_length_le (by simp)
theorem req_pre {a b : Rq} (ha : a.right = true) (hb : b.right = true) {x y : ByteArray} (hx : a.B = x) (hy : b.B = y) {n : Nat} (hn : min x.size y.size = n) (e : x.extract 0 n = y.extract 0 n) : a = b := by
  rcases Nat.le_total x.size y.size with h | h
  · have hn' : n = x.size := by omega
    subst hn'
    rw [extract_all] at e
    refine req_prefix (t := y.extract x.size y.size) (u := ByteArray.empty) ha hb ?_
    rw [hx, hy, ByteArray.append_empty]
    conv => rhs; rw [cut_apart y x.size h]
    rw [← e]
  · have hn' : n = y.size := by omega
    subst hn'
    rw [extract_all] at e
    refine req_prefix (u := x.extract y.size x.size) (t := ByteArray.empty) ha hb ?_
    rw [hx, hy, ByteArray.append_empty]
    have := cut_apart x y.size h
    rw [e] at this
    exact this
end Go.Proofs.Ytdohmkanpdhmaaa
