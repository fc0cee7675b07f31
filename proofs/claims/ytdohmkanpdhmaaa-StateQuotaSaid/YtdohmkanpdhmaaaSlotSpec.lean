/- What package slot computes, as plain functions. No conditions. -/
import Derived.Test.YtdohmkanpdhmaaaWords
namespace Go.Proofs.Ytdohmkanpdhmaaa
open Go.RowKit
/-- A place: what it has promised, the ballot accepted, the value. -/
structure SL where
  p : Int
  b : Int
  v : ByteArray
def SL.A (s : SL) : Array Value := #[.int .i64 s.p, .int .i64 s.b, .string s.v]
def balB (b : Int) : Bool := decide (1 ≤ b) && decide (b ≤ 2147483647)
def SL.promise (s : SL) (n : Int) : SL × Bool := if balB n = true ∧ ¬ n ≤ s.p then (⟨n, s.b, s.v⟩, true) else (s, false)
def SL.accept (s : SL) (n : Int) (v : ByteArray) : SL × Bool := if balB n = true ∧ ¬ n < s.p then (⟨n, n, v⟩, true) else (s, false)
/-- May a place be? -/
def SL.right (s : SL) : Bool := decide (0 ≤ s.p) && decide (s.p ≤ 2147483647) && decide (0 ≤ s.b) && decide (s.b ≤ s.p) && (!decide (s.b = 0) || decide (s.v = ByteArray.empty)) && decide ((s.v.size : Int) ≤ 1000)
def SLB (r : SL × Bool) : Value := .tuple #[.agg r.1.A, .bool r.2]

theorem twice_facts {s x y z : SL} {b c : Int} {v : ByteArray} {ok ok2 ok3 : Bool} (h0 : s.right = true) (h1 : s.accept b v = (x, ok)) (h2 : x.accept b v = (y, ok2)) (h3 : x.promise c = (z, ok3)) :
    (ok = true → ok2 = true ∧ y = x) ∧ (ok = false → x = s) ∧ z.b = x.b ∧ z.v = x.v ∧ ok3 = (decide (x.p < c) && decide (c ≤ 2147483647)) := by
  have hp : 0 ≤ s.p := by simp [SL.right] at h0; omega
  have hx : 0 ≤ x.p ∧ (ok = true → ok2 = true ∧ y = x) ∧ (ok = false → x = s) := by
    unfold SL.accept at h1
    split at h1
    · rename_i hc
      obtain ⟨rfl, rfl⟩ := Prod.mk.inj h1
      have hb : 1 ≤ b := by have := hc.1; simp [balB] at this; omega
      refine ⟨by simp; omega, fun _ => ?_, by simp⟩
      unfold SL.accept at h2
      rw [if_pos ⟨hc.1, by simp⟩] at h2
      obtain ⟨rfl, rfl⟩ := Prod.mk.inj h2
      exact ⟨rfl, rfl⟩
    · obtain ⟨rfl, rfl⟩ := Prod.mk.inj h1
      exact ⟨hp, by simp, fun _ => rfl⟩
  refine ⟨hx.2.1, hx.2.2, ?_⟩
  unfold SL.promise at h3
  split at h3
  · rename_i hc
    obtain ⟨rfl, rfl⟩ := Prod.mk.inj h3
    refine ⟨rfl, rfl, ?_⟩
    have := hc.1
    simp [balB] at this
    simp; omega
  · rename_i hc
    obtain ⟨rfl, rfl⟩ := Prod.mk.inj h3
    refine ⟨rfl, rfl, ?_⟩
    simp [balB] at hc
    simp
    omega

/-- What a call leaves, in short: granted, or all as it was. -/
def RiseR (p q : Int) (u : ByteArray) (n : Int) (ok : Bool) (x y : Int) (z : ByteArray) : Prop :=
  (ok = true ∧ x = n ∧ p ≤ n ∧ q ≤ y ∧ y ≤ n) ∨ (ok = false ∧ x = p ∧ y = q ∧ z = u)
theorem rise_promise {p q n p1 q1 : Int} {u u1 : ByteArray} {ok : Bool} (hq : q ≤ p) (h : SL.promise ⟨p, q, u⟩ n = (⟨p1, q1, u1⟩, ok)) : RiseR p q u n ok p1 q1 u1 := by
  unfold SL.promise at h
  split at h
  · rename_i hc
    simp only [Prod.mk.injEq, SL.mk.injEq] at h
    obtain ⟨⟨rfl, rfl, rfl⟩, rfl⟩ := h
    have := hc.2
    simp only at this
    exact .inl ⟨rfl, rfl, by omega, by omega, by omega⟩
  · simp only [Prod.mk.injEq, SL.mk.injEq] at h
    obtain ⟨⟨rfl, rfl, rfl⟩, rfl⟩ := h
    exact .inr ⟨rfl, rfl, rfl, rfl⟩
theorem rise_accept {p q n p1 q1 : Int} {u v u1 : ByteArray} {ok : Bool} (hq : q ≤ p) (h : SL.accept ⟨p, q, u⟩ n v = (⟨p1, q1, u1⟩, ok)) : RiseR p q u n ok p1 q1 u1 := by
  unfold SL.accept at h
  split at h
  · rename_i hc
    simp only [Prod.mk.injEq, SL.mk.injEq] at h
    obtain ⟨⟨rfl, rfl, rfl⟩, rfl⟩ := h
    have := hc.2
    simp only at this
    exact .inl ⟨rfl, rfl, by omega, by omega, by omega⟩
  · simp only [Prod.mk.injEq, SL.mk.injEq] at h
    obtain ⟨⟨rfl, rfl, rfl⟩, rfl⟩ := h
    exact .inr ⟨rfl, rfl, rfl, rfl⟩
end Go.Proofs.Ytdohmkanpdhmaaa
