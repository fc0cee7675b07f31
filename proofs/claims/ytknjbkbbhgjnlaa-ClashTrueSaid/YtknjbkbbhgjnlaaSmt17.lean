/- Package smt: Root of a map. Conditions: at most 2^20 entries; keys of less than 256 bytes, values of at most 2^30. -/
import Derived.Test.YtknjbkbbhgjnlaaSmt15
import Derived.Test.YtknjbkbbhgjnlaaSmt16
namespace Go.Proofs.Ytknjbkbbhgjnlaa
open Go.RowKit
set_option linter.unusedVariables false
set_option linter.unusedSimpArgs false
/-- The items of a map, as a row. -/
def ItemsF (f : ByteArray → Option ByteArray) (n : Nat) : Fact := fun v w => ∃ (A : Option Addr) (q : List KV) (c : Nat), v = .slice A q.length c ∧ q.length ≤ c ∧ q.length ≤ n ∧ Listed f q ∧ IK.Rows w A q
theorem ItemsF.later {f : ByteArray → Option ByteArray} {n : Nat} (v : Value) (w w' : World) (h : Later w w') (k : ItemsF f n v w) : ItemsF f n v w' := by
  obtain ⟨A, q, c, h1, h2, h3, h4, h5⟩ := k
  exact ⟨A, q, c, h1, h2, h3, h4, h5.below h⟩
/-- Keys and values of a size that may be hashed. -/
def Fok (f : ByteArray → Option ByteArray) : Prop := ∀ k v, f k = some v → k.size < 256 ∧ v.size ≤ 1073741824
theorem Fok.kv {f : ByteArray → Option ByteArray} (h : Fok f) {q : List KV} (hq : Listed f q) : KVok q := fun p hp => h p.1 p.2 ((hq.2 p.1 p.2).1 hp)
set_option maxHeartbeats 4000000 in
set_option maxRecDepth 100000 in
theorem sRoot_calls (b n : Nat) (f : ByteArray → Option ByteArray) (q0 : List KV) (hq0 : Listed f q0) (w : World) (hm : MapW w b n f) (hn : n ≤ 1048576) (hok : Fok f) :
    Calls Try.prog 19 #[.agg (arr .u32 (K64 ++ H8.L)), .map (some b)] w fun e w' => e = .returned (.string (rootS 256 q0)) ∧ Later w w' := by
  have CE := fun w => sempties_calls w
  have CI := fun W (h : MapW W b n f) => items_calls b n f W h hn (fun k v h => by have := (hok k v h).1; omega)
  have RT : ∀ (q : List KV), Listed f q → q.length ≤ n → ∀ A c ge W, q.length ≤ c → Whole W ge 41 (sarr (downL (emp shaN) 256)) → IK.Rows W A q →
      Calls Try.prog 56 #[.agg (arr .u32 (K64 ++ H8.L)), .pointer (some ⟨ge, 0, none⟩), .slice A q.length c, .int .i64 0] W fun e w' => e = .returned (.string (rootS 256 q0)) ∧ Later W w' := by
    intro q hq hl A c ge W hc hE hR
    rw [← rootS_perm 256 hq.1 (hq.perm hq0)]
    exact sroot_calls ge 256 q A c W (Nat.le_refl _) (by omega) (hok.kv hq) hc hE hR
  have hsz := tb_size
  generalize arr .u32 (K64 ++ H8.L) = tb at *
  have hEs : (sarr (downL (emp shaN) 256)).size = 257 := by rw [sarr_size, downL_length _ (by decide)]
  have hone := sarr_one (downL (emp shaN) 256)
  have hi9 : (Try.prog.info? 41).map (·.size) = some (sarr e257).size := by rw [sarr_size, e257_length]; kernel_rfl
  have hi8 : (sarr (downL (emp shaN) 256)).size = (sarr e257).size := by rw [hEs, sarr_size, e257_length]
  have hz := zero257s
  have h1 := Whole.new w 29 tb
  have hB : Later w (w.alloc (.cells tb 29)) := (Later.refl w).alloc _
  replace CE := Lib.hid CE
  replace CI := Lib.hid CI
  replace RT := Lib.hid RT
  replace hEs := Lib.hid hEs
  generalize sarr (downL (emp shaN) 256) = EE at *
  generalize rootS 256 q0 = R at *
  clear hq0 hok
  go_enter Try.func19, Try.ntmps19
  go_upto_region 1 with (fail)
  generalize w.alloc (.cells tb 29) = W0 at *
  go_upto_region 2 with (first | ((with_reducible apply wl_loadW (ty := 29) h1 Try.underlying29); rfl; rfl; rfl; exact hsz) | ((with_reducible refine (CE.out _).mono ?_); rintro e wE ⟨rfl, hbE⟩; replace h1 := Later.whole hbE h1; replace hB := hB.trans hbE; have hgg : w.heap.size < wE.heap.size := h1.lt; have hE := Whole.new wE 41 (sarr e257); replace h1 := h1.alloc (.cells (sarr e257) 41); replace hB : Later w (wE.alloc (.cells (sarr e257) 41)) := hB.alloc _) | ((with_reducible apply wl_storeW (ty := 41) hE); rfl; rfl; rfl; exact hi9; exact hi8; exact hone; intro w7 hE7 hg7 hz7; replace h1 := Whole.only h1 hg7 (fun q => by have := Option.some.inj q; omega); replace hB : Later w w7 := below_only' hB hg7 (by omega)))
  clear hE hg7 hz7 hbE CE hz hone hi8 hi9
  refine wp_region_grow 5 13 (by kernel_rfl) (by kernel_rfl) rfl (fun w2 hl2 => ?_)
  simp only [List.take_succ_cons, List.take_zero, List.drop_succ_cons, List.drop_zero]
  generalize ha : Act.mk _ _ = a0
  have k1 : a0.eval (.tmp 1) = .map (some b) := by subst ha; rfl
  have k2 : a0.eval (.tmp 2) = .pointer (some ⟨w.heap.size, 0, none⟩) := by subst ha; rfl
  have k5 : a0.eval (.tmp 5) = .pointer (some ⟨wE.heap.size, 0, none⟩) := by subst ha; rfl
  have ks : a0.tmps.size = 13 := by subst ha; rfl
  have ha0 := ha.symm
  clear ha
  refine wpG_loadW (hl2.whole h1) Try.underlying29 rfl (hsz) (fun a w hk => (hk 2 rfl : a.eval (.tmp 2) = a0.eval (.tmp 2)).trans k2) ?_
  refine wpG_loadW (hl2.whole h1) Try.underlying29 rfl (hsz) (fun a w hk => (hk 2 rfl : a.eval (.tmp 2) = a0.eval (.tmp 2)).trans k2) ?_
  refine wpG_move (fun a w hk => (hk 1 rfl : a.eval (.tmp 1) = a0.eval (.tmp 1)).trans k1) ?_
  refine wpG_callF (ItemsF f n) (ItemsF.later) Try.func57 (by kernel_rfl) (by kernel_rfl) (fun a wx hlx hk => by have e9 : a.eval (.tmp 9) = _ := hk 9 rfl; have e10 : a.eval (.tmp 10) = _ := hk 10 rfl; simp only [List.map_toArray, List.map_cons, List.map_nil, e9, e10]; exact ((CI.out wx (hm.later (Later.trans hB (hl2.trans hlx)))).mono fun e w' hh => by obtain ⟨A, q, c, he, h2, h3, h4, h5, h6⟩ := hh; exact ⟨_, he, ⟨A, q, c, rfl, h2, h3, h4, h5⟩, h6⟩)) ?_
  refine wpG_callF (Is (.string R)) (fun _ _ _ _ h => h) Try.func56 (by kernel_rfl) (by kernel_rfl) (fun a wx hlx hk => by have e1 : a.eval (.tmp 8) = _ := hk 8 rfl; have e5 : a.eval (.tmp 5) = _ := (hk 5 rfl : a.eval (.tmp 5) = a0.eval (.tmp 5)).trans k5; obtain ⟨A, q, c, e2, hc, hqn, hlq, hR⟩ := (hk 11 rfl : ItemsF f n (a.eval (.tmp 11)) wx); simp only [List.map_toArray, List.map_cons, List.map_nil, e1, e5, e2]; exact (RT.out q hlq hqn A c wE.heap.size wx hc (Later.whole (hl2.trans hlx) hE7) hR).mono fun e w' h => ⟨_, h.1, rfl, h.2⟩) ?_
  refine wpG_nil (fun w2' hl2' => ?_)
  refine fin_is ?_
  refine fin_is ?_
  refine fin_is ?_
  refine fin_some (fun v11 hv11 => ?_)
  refine fin_is ?_
  refine fin_nil ?_
  subst ha0
  clear k1 k2 k5 ks
  simp only [Act.put, List.setIfInBounds_toArray, List.set_cons_succ, List.set_cons_zero]
  go_wp2_with (fail)
  go_returns
  go_light
  exact ⟨rfl, Later.trans hB (hl2.trans hl2')⟩
end Go.Proofs.Ytknjbkbbhgjnlaa
