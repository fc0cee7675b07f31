/- What package wire computes, as plain functions on bytes. No conditions. -/
import Derived.Test.YtknjbkbbhgjnlaaToolA
namespace Go.Proofs.Ytknjbkbbhgjnlaa
open Go.RowKit

def lit (l : List Nat) : ByteArray := ⟨(l.map UInt8.ofNat).toArray⟩
/-- A number's four bytes. -/
def numB (n : Int) : ByteArray := let m := if n < 0 ∨ 2147483647 < n then 0 else n
  strOfNums [m / 16777216, m / 65536 % 256, m / 256 % 256, m % 256]
def textB (s : ByteArray) : ByteArray := numB s.size ++ s
/-- A reader's cut: the bytes, what is left, whether it is bad. -/
def cutS (b : ByteArray) (bad : Bool) (n : Int) : ByteArray := if bad = true ∨ n < 0 ∨ (b.size : Int) < n then ByteArray.empty else b.extract 0 n.toNat
def cutR (b : ByteArray) (bad : Bool) (n : Int) : ByteArray := if bad = true ∨ n < 0 ∨ (b.size : Int) < n then b else b.extract n.toNat b.size
def cutX (b : ByteArray) (bad : Bool) (n : Int) : Bool := if bad = true ∨ n < 0 ∨ (b.size : Int) < n then true else false
theorem cutS_le (b : ByteArray) (bad : Bool) (n : Nat) : (cutS b bad n).size ≤ n := by
  unfold cutS
  split
  · simp
  · simp [ByteArray.size_extract]; omega
/-- The number whose bytes, the greatest first, these are. -/
def beNum (l : List UInt8) : Int := l.foldl (fun n c => n * 256 + (c.toNat : Int)) 0
theorem beNum_snoc (l : List UInt8) (c : UInt8) : beNum (l ++ [c]) = beNum l * 256 + c.toNat := by simp [beNum]
theorem beNum_go (l : List UInt8) : ∀ a : Int, 0 ≤ a → 0 ≤ l.foldl (fun n c => n * 256 + (c.toNat : Int)) a ∧ l.foldl (fun n c => n * 256 + (c.toNat : Int)) a < (a + 1) * 256 ^ l.length := by
  induction l with
  | nil => intro a h; simp; omega
  | cons c l ih =>
    intro a h
    have hc := c.toNat_lt
    have h1 := ih (a * 256 + c.toNat) (by omega)
    refine ⟨h1.1, Int.lt_of_lt_of_le h1.2 ?_⟩
    rw [List.length_cons, Int.pow_succ, Int.mul_comm (256 ^ l.length) 256, ← Int.mul_assoc]
    exact Int.mul_le_mul_of_nonneg_right (by omega) (Int.pow_nonneg (by omega))
theorem beNum_bound (l : List UInt8) : 0 ≤ beNum l ∧ beNum l < 256 ^ l.length := by
  have := beNum_go l 0 (Int.le_refl 0)
  simpa [beNum] using this
theorem beNum_small (s : ByteArray) (k : Nat) (h : k ≤ 3) : beNum (s.data.toList.take k) < 36028797018963968 := by
  have h1 := (beNum_bound (s.data.toList.take k)).2
  have h2 : (s.data.toList.take k).length ≤ 3 := Nat.le_trans (List.length_take_le _ _) h
  generalize (s.data.toList.take k).length = n at h1 h2
  match n, h2 with
  | 0, _ => omega
  | 1, _ => omega
  | 2, _ => omega
  | 3, _ => omega
theorem beNum_next (s : ByteArray) (k : Nat) (h : k < s.size) : beNum (s.data.toList.take (k + 1)) = beNum (s.data.toList.take k) * 256 + s[k].toNat := by
  have : s.data.toList.take (k + 1) = s.data.toList.take k ++ [s[k]] := by
    rw [List.take_succ_eq_append_getElem (by simpa using h)]; rfl
  rw [this, beNum_snoc]
def numS (b : ByteArray) (bad : Bool) : Int := beNum (cutS b bad 4).data.toList
def numX (b : ByteArray) (bad : Bool) : Bool := cutX b bad 4 || decide (2147483647 < beNum (cutS b bad 4).data.toList)

/-- A reader: what is left, and whether it is bad. -/
structure Rd where
  b : ByteArray
  x : Bool
def Rd.A (r : Rd) : Array Value := #[.string r.b, .bool r.x]
def Rd.cut (r : Rd) (n : Int) : ByteArray × Rd := (cutS r.b r.x n, ⟨cutR r.b r.x n, cutX r.b r.x n⟩)
def Rd.num (r : Rd) : Int × Rd := (numS r.b r.x, ⟨cutR r.b r.x 4, numX r.b r.x⟩)
def Rd.text (r : Rd) : ByteArray × Rd := r.num.2.cut r.num.1
def Rd.mark (r : Rd) (c : ByteArray) : Rd := if r.x then r else ⟨(r.cut 1).2.b, !decide ((r.cut 1).1 = c)⟩
def Rd.done (r : Rd) : Bool := !r.x && decide (r.b = ByteArray.empty)

/-- A request. -/
structure Rq where
  c : Int
  s : Int
  l : ByteArray
  k : ByteArray
  v : ByteArray
def Rq.A (r : Rq) : Array Value := #[.int .i64 r.c, .int .i64 r.s, .string r.l, .string r.k, .string r.v]
def Rq.zero : Rq := ⟨0, 0, ByteArray.empty, ByteArray.empty, ByteArray.empty⟩
def Rq.right (r : Rq) : Bool := decide (0 ≤ r.c) && decide (r.c < 4) && decide (1 ≤ r.s) && decide (r.s ≤ 2147483647) && decide (1 ≤ (r.l.size : Int)) && decide ((r.l.size : Int) ≤ 200) && decide ((r.k.size : Int) ≤ 50) && decide ((r.v.size : Int) ≤ 100) && (!decide (r.k = ByteArray.empty) || decide (r.v = ByteArray.empty))
/-- The five fields, read one behind the other. -/
def Rd.req (r : Rd) : Rq × Rd :=
  let a := r.num; let b := a.2.num; let c := b.2.text; let d := c.2.text; let e := d.2.text
  (⟨a.1, b.1, c.1, d.1, e.1⟩, e.2)
def readReq (b : ByteArray) : Rq × Int :=
  let x := ((⟨b, false⟩ : Rd).mark (lit [82])).req
  if x.2.done && x.1.right then (x.1, 0) else (Rq.zero, 2)
/-- A list's bytes, as far as its first texts. -/
def listL (n : Nat) (l : List ByteArray) : List UInt8 := (76 :: (numB n).data.toList) ++ l.flatMap fun s => (textB s).data.toList
def listB (l : List ByteArray) : ByteArray := ⟨(listL l.length l).toArray⟩
theorem listL_snoc (n : Nat) (l : List ByteArray) (s : ByteArray) : listL n (l ++ [s]) = listL n l ++ (textB s).data.toList := by simp [listL]
theorem listL_take (l : List ByteArray) (k : Nat) (h : k < l.length) : listL l.length (l.take (k + 1)) = listL l.length (l.take k) ++ (textB l[k]).data.toList := by
  rw [List.take_succ_eq_append_getElem h, listL_snoc]
theorem listL_le (l : List ByteArray) (k : Nat) : (listL l.length (l.take k)).length ≤ (listL l.length l).length := by
  have : l.flatMap (fun s => (textB s).data.toList) = (l.take k).flatMap (fun s => (textB s).data.toList) ++ (l.drop k).flatMap (fun s => (textB s).data.toList) := by
    rw [← List.flatMap_append, List.take_append_drop]
  unfold listL
  rw [this]
  simp
theorem dataL (s : ByteArray) : s.data.toList.length = s.size := by rw [Array.length_toList]; rfl
theorem numB_size (n : Int) : (numB n).size = 4 := by simp [numB, strOfNums_size]
theorem textB_size (s : ByteArray) : (textB s).size = s.size + 4 := by unfold textB; rw [ByteArray.size_append, numB_size]; omega
theorem numB_list (n : Int) (h0 : 0 ≤ n) (h1 : n ≤ 2147483647) : (numB n).toList = [UInt8.ofNat (n / 16777216).toNat, UInt8.ofNat (n / 65536 % 256).toNat, UInt8.ofNat (n / 256 % 256).toNat, UInt8.ofNat (n % 256).toNat] := by
  rw [ByteArray.toList_eq]
  unfold numB
  rw [if_neg (by omega)]
  rfl
theorem u8_lt (a b : Int) (ha : 0 ≤ a) (ha' : a < 256) (hb : 0 ≤ b) (hb' : b < 256) : UInt8.ofNat a.toNat < UInt8.ofNat b.toNat ↔ a < b := by
  rw [UInt8.lt_iff_toNat_lt, UInt8.toNat_ofNat', UInt8.toNat_ofNat', Nat.mod_eq_of_lt (by omega), Nat.mod_eq_of_lt (by omega)]
  omega
theorem u8_eq (a b : Int) (ha : 0 ≤ a) (ha' : a < 256) (hb : 0 ≤ b) (hb' : b < 256) : UInt8.ofNat a.toNat = UInt8.ofNat b.toNat ↔ a = b := by
  rw [← UInt8.toNat_inj, UInt8.toNat_ofNat', UInt8.toNat_ofNat', Nat.mod_eq_of_lt (by omega), Nat.mod_eq_of_lt (by omega)]
  omega
theorem numB_less (a b : Int) (ha : 0 ≤ a) (ha' : a ≤ 2147483647) (hb : 0 ≤ b) (hb' : b ≤ 2147483647) : Op.bytesLess (numB a).toList (numB b).toList = decide (a < b) := by
  rw [numB_list a ha ha', numB_list b hb hb', Bool.eq_iff_iff, decide_eq_true_iff]
  simp only [Op.bytesLess]
  have h1 := u8_lt (a / 16777216) (b / 16777216) (by omega) (by omega) (by omega) (by omega)
  have h2 := u8_lt (a / 65536 % 256) (b / 65536 % 256) (by omega) (by omega) (by omega) (by omega)
  have h3 := u8_lt (a / 256 % 256) (b / 256 % 256) (by omega) (by omega) (by omega) (by omega)
  have h4 := u8_lt (a % 256) (b % 256) (by omega) (by omega) (by omega) (by omega)
  have e1 := u8_eq (a / 16777216) (b / 16777216) (by omega) (by omega) (by omega) (by omega)
  have e2 := u8_eq (a / 65536 % 256) (b / 65536 % 256) (by omega) (by omega) (by omega) (by omega)
  have e3 := u8_eq (a / 256 % 256) (b / 256 % 256) (by omega) (by omega) (by omega) (by omega)
  simp [h1, h2, h3, h4, e1, e2, e3]
  omega
theorem numB_inj (a b : Int) (ha : 0 ≤ a) (ha' : a ≤ 2147483647) (hb : 0 ≤ b) (hb' : b ≤ 2147483647) : ((numB a).toList == (numB b).toList) = (a == b) := by
  rw [numB_list a ha ha', numB_list b hb hb', Bool.eq_iff_iff, beq_iff_eq, beq_iff_eq]
  have e1 := u8_eq (a / 16777216) (b / 16777216) (by omega) (by omega) (by omega) (by omega)
  have e2 := u8_eq (a / 65536 % 256) (b / 65536 % 256) (by omega) (by omega) (by omega) (by omega)
  have e3 := u8_eq (a / 256 % 256) (b / 256 % 256) (by omega) (by omega) (by omega) (by omega)
  have e4 := u8_eq (a % 256) (b % 256) (by omega) (by omega) (by omega) (by omega)
  simp [e1, e2, e3, e4]
  omega
end Go.Proofs.Ytknjbkbbhgjnlaa
