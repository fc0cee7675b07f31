/- Places and ballots that come in. No conditions. -/
import Derived.Test.YtdohmkanpdhmaaaKinds
import Derived.Test.YtdohmkanpdhmaaaSlotSpec
namespace Go.Proofs.Ytdohmkanpdhmaaa
open Go.ChangeShapes Go.WideShapes Go.RowKit Go.Deep
set_option linter.unusedVariables false
theorem slotKind {H : Type} {enc : TypeId × Value → H} {w : World} {fuel : Nat} {cs : List Value} {x : DataW H × List MemPlace} (h : DataW.trod enc Try.prog w 0 (fun _ => true) true fuel 23 cs = some x) :
    ∃ s : SL, cs = s.A.toList ∧ s.v.size ≤ 9223372036854775807 := by
  have K := Opens.struct (tot := 3) Try.underlying23 (by kernel_rfl) (OpensF.cons (off' := 1) rfl rfl (by kernel_rfl) (Opens.int Try.underlying3) (OpensF.cons (off' := 2) rfl rfl (by kernel_rfl) (Opens.int Try.underlying3) (OpensF.last rfl rfl (by kernel_rfl) (Opens.str Try.underlying9))))
  obtain ⟨⟨p, b, v⟩, ⟨c0, _, rfl, h0, c1, c2, rfl, h1, h2⟩, _, _, hv⟩ := K.out h
  obtain rfl := h0
  obtain rfl := h1
  obtain rfl := h2
  exact ⟨⟨p, b, v⟩, rfl, hv⟩
theorem pairKind {H : Type} {enc : TypeId × Value → H} {w : World} {fuel : Nat} {cs : List Value} {x : DataW H × List MemPlace} (h : DataW.trod enc Try.prog w 0 (fun _ => true) true fuel 24 cs = some x) :
    ∃ b c : Int, cs = [.int .i64 b, .int .i64 c] ∧ True := by
  obtain ⟨l, hk, _⟩ := (Opens.arr (d := Kn.int .i64) Try.underlying24 (by kernel_rfl) (by kernel_rfl) (Opens.int Try.underlying3)).out h
  obtain ⟨hl, rfl⟩ := Kn.vec_one hk
  match l, hl with
  | [b, c], _ => exact ⟨b, c, rfl, trivial⟩

/-- A call: an acceptance (else a promise), its ballot, its value. -/
structure SO where
  a : Bool
  n : Int
  v : ByteArray
def SO.K : Kn SO := (Kn.bool.pair ((Kn.int .i64).pair Kn.str)).via fun o => (o.a, o.n, o.v)
theorem opsKind : Opens Try.prog 31 SO.K.sl (fun _ => True) := by
  have K := Opens.struct (tot := 3) Try.underlying37 (by kernel_rfl) (OpensF.cons (off' := 1) rfl rfl (by kernel_rfl) (Opens.bool Try.underlying4) (OpensF.cons (off' := 2) rfl rfl (by kernel_rfl) (Opens.int Try.underlying3) (OpensF.last rfl rfl (by kernel_rfl) (Opens.str Try.underlying9))))
  have K2 := K.via (fun o : SO => (o.a, o.n, o.v)) (fun x => ⟨x.1, x.2.1, x.2.2⟩) (fun _ => rfl) (ok' := fun _ => True) (fun _ _ => trivial)
  have K3 := Opens.slice (d := SO.K) Try.underlying31 (by kernel_rfl) (by decide) K2
  exact ⟨fun h => by obtain ⟨a, h1, _⟩ := K3.out h; exact ⟨a, h1, trivial⟩⟩
/-- A call's cells in a row. -/
theorem SO.at_ {w : World} {A : Option Addr} {xs : List SO} (h : SO.K.Rows w A xs) {k : Nat} (hk : k < xs.length) : ∃ ad, A = some ad ∧ ad.block < w.heap.size ∧ w.cell? (ad.add (k * 3)) = some (.bool xs[k].a) ∧
    w.cell? ⟨(ad.add (k * 3)).block, (ad.add (k * 3)).off + 1, none⟩ = some (.int .i64 xs[k].n) ∧ w.cell? ⟨(ad.add (k * 3)).block, (ad.add (k * 3)).off + 2, none⟩ = some (.string xs[k].v) := by
  obtain ⟨ad, c, e, hlt, ⟨c0, _, rfl, h0, c1, c2, rfl, h1, h2⟩, f0, f1⟩ := h.fields hk
  obtain rfl := h0
  obtain rfl := h1
  obtain rfl := h2
  exact ⟨ad, e, hlt, f0 _ rfl, f1 0 _ rfl, f1 1 _ rfl⟩
/-- What a call does. -/
def SL.do_ (s : SL) (o : SO) : SL × Bool := if o.a then s.accept o.n o.v else s.promise o.n
end Go.Proofs.Ytdohmkanpdhmaaa
