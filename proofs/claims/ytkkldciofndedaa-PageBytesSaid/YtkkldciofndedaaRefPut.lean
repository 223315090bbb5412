/- the reference's Put. -/
import Derived.Test.YtkkldciofndedaaRefWith
namespace Go.Proofs.Ytkkldciofndedaa
open Go.RowKit

/-- the reference's answer: a page and an error, in one struct -/
def GotPost (k l : Int) (ss : List ByteArray) (err : Int) (w : World) (e : Ending) (w' : World) : Prop :=
  ∃ A c, e = .returned (.agg #[.int .i64 k, .int .i64 l, .slice A ss.length c, .int .i64 err]) ∧
    w'.ownsRow w.heap.size 9 1 (.slice A ss.length c) ss.length (ss.map Value.string) ∧ Ext w w'
def RPutPost (k l : Int) (ss : List ByteArray) (slot : Int) (s : ByteArray) (w : World) : Ending → World → Prop :=
  if putErr k l ss slot s = 0 then GotPost k l (plainL (withL ss slot.toNat s)) 0 w else GotPost 0 0 [] (putErr k l ss slot s) w
theorem GotPost.zero {err : Int} {w w' : World} (h : Ext w w') : GotPost 0 0 [] err w (.returned (.agg #[.int .i64 0, .int .i64 0, .slice none 0 0, .int .i64 err])) w' :=
  ⟨none, 0, rfl, World.ownsRow_nil _ _ _ _, h⟩
theorem got_held {w W : World} {k l : Int} {A : Option Addr} {n c : Nat}
    (h : Ext ((w.alloc (.cells #[.int .i64 k, .int .i64 l, .slice A n c] 26)).alloc (.cells #[.int .i64 0, .int .i64 0, .slice none 0 0, .int .i64 0] 49)) W) :
    (W.cell? ⟨w.heap.size, 0, none⟩ = some (.int .i64 k) ∧ W.cell? ⟨w.heap.size, 1, none⟩ = some (.int .i64 l) ∧ W.cell? ⟨w.heap.size, 2, none⟩ = some (.slice A n c)) ∧
    (W.cell? ⟨w.heap.size + 1, 0, none⟩ = some (.int .i64 0) ∧ W.cell? ⟨w.heap.size + 1, 1, none⟩ = some (.int .i64 0) ∧ W.cell? ⟨w.heap.size + 1, 2, none⟩ = some (.slice none 0 0) ∧ W.cell? ⟨w.heap.size + 1, 3, none⟩ = some (.int .i64 0)) ∧
    (W.frozen? ⟨w.heap.size + 1, 0, none⟩ = false ∧ W.frozen? ⟨w.heap.size + 1, 1, none⟩ = false ∧ W.frozen? ⟨w.heap.size + 1, 2, none⟩ = false ∧ W.frozen? ⟨w.heap.size + 1, 3, none⟩ = false) ∧ w.heap.size + 1 < W.heap.size :=
  ⟨⟨h.two0.1 0, h.two0.1 1, h.two0.1 2⟩, ⟨h.two.1 0, h.two.1 1, h.two.1 2, h.two.1 3⟩, ⟨h.two.2.1 0, h.two.2.1 1, h.two.2.1 2, h.two.2.1 3⟩, h.two.2.2⟩

set_option maxRecDepth 100000 in
set_option maxHeartbeats 1000000 in
theorem rput_not (k l : Int) (A : Option Addr) (c : Nat) (ss : List ByteArray) (slot : Int) (s : ByteArray) (w : World) (h : At w A (ss.map Value.string)) (hs : Small ss) (hc : ss.length ≤ c) (hr : rightB k l ss = false) :
    Calls Try.prog 23 #[.agg #[.int .i64 k, .int .i64 l, .slice A ss.length c], .int .i64 slot, .string s] w (GotPost 0 0 [] 22 w) := by
  have H := Lib.hid h; clear h
  have HR := Lib.hid hr; clear hr
  have HS := Lib.hid hs; clear hs
  have X0 := Lib.hid (((Ext.refl w).alloc (.cells #[.int .i64 k, .int .i64 l, .slice A ss.length c] 26)).alloc (.cells #[.int .i64 0, .int .i64 0, .slice none 0 0, .int .i64 0] 49))
  go_enter Try.func23, Try.ntmps23
  go_wp2_with (go_at_call 43; refine (rright_any _ _ _ _ _ _ _ rfl (H.out.ext X0.out) HS.out hc).mono ?_; rw [HR.out]; rintro e w1 ⟨rfl, hx⟩; have X1 := Lib.hid (X0.out.trans hx); obtain ⟨_, ⟨q0, q1, q2, q3⟩, ⟨f0, f1, f2, f3⟩, hzz⟩ := got_held hx; clear hx)
  refine bodyPost_ret (v := .agg #[.int .i64 0, .int .i64 0, .slice none 0 0, .int .i64 22]) (by simp [results, Try.results23, go_sem, q0, q1, q2, q3]) rfl (GotPost.zero ?_)
  repeat (first | exact X1.out | refine Ext.set ?_ (by simp) _)

set_option maxRecDepth 100000 in
set_option maxHeartbeats 1000000 in
theorem rput_item (k l : Int) (A : Option Addr) (c : Nat) (ss : List ByteArray) (slot : Int) (s : ByteArray) (w : World) (h : At w A (ss.map Value.string)) (hs : Small ss) (hc : ss.length ≤ c) (hr : rightB k l ss = true)
    (hb : slot < 0 ∨ 24 ≤ slot ∨ 400 < s.size) (hss : s.size ≤ 9223372036854775807) :
    Calls Try.prog 23 #[.agg #[.int .i64 k, .int .i64 l, .slice A ss.length c], .int .i64 slot, .string s] w (GotPost 0 0 [] 21 w) := by
  have H := Lib.hid h; clear h
  have HR := Lib.hid hr; clear hr
  have HS := Lib.hid hs; clear hs
  have X0 := Lib.hid (((Ext.refl w).alloc (.cells #[.int .i64 k, .int .i64 l, .slice A ss.length c] 26)).alloc (.cells #[.int .i64 0, .int .i64 0, .slice none 0 0, .int .i64 0] 49))
  have h3 : slot < 0 ∨ (0 ≤ slot ∧ 24 ≤ slot) ∨ (0 ≤ slot ∧ slot < 24 ∧ 400 < (s.size : Int)) := by omega
  clear hb
  rcases h3 with h1 | ⟨h0, h1⟩ | ⟨h0, h1, h2⟩
  all_goals
    go_enter Try.func23, Try.ntmps23
    go_wp2_with (go_at_call 43; refine (rright_any _ _ _ _ _ _ _ rfl (H.out.ext X0.out) HS.out hc).mono ?_; rw [HR.out]; rintro e w1 ⟨rfl, hx⟩; have X1 := Lib.hid (X0.out.trans hx); obtain ⟨_, ⟨q0, q1, q2, q3⟩, ⟨f0, f1, f2, f3⟩, hzz⟩ := got_held hx; clear hx)
    refine bodyPost_ret (v := .agg #[.int .i64 0, .int .i64 0, .slice none 0 0, .int .i64 21]) (by simp [results, Try.results23, go_sem, q0, q1, q2, q3]) rfl (GotPost.zero ?_)
    repeat (first | exact X1.out | refine Ext.set ?_ (by simp) _)

theorem rput_20 {k l : Int} {ss : List ByteArray} {K : Nat} {s : ByteArray} {w : World} (hr : rightB k l ss = true) (hK : K < 24) (hs : s.size ≤ 400) (hz : 512 < sizeL (plainL (withL ss K s))) (hp : sizeL (plainL (withL ss K s)) = sizeL (withL ss K s)) :
    RPutPost k l ss K s w = GotPost 0 0 [] 20 w := by
  have e : putErr k l ss K s = 20 := by
    rw [putErr, hr, if_neg (by simp), if_neg (by omega), Int.toNat_natCast, if_pos (by omega)]
  rw [RPutPost, e, if_neg (by decide)]
theorem rput_0 {k l : Int} {ss : List ByteArray} {K : Nat} {s : ByteArray} {w : World} (hr : rightB k l ss = true) (hK : K < 24) (hs : s.size ≤ 400) (hz : sizeL (plainL (withL ss K s)) ≤ 512) (hp : sizeL (plainL (withL ss K s)) = sizeL (withL ss K s)) :
    RPutPost k l ss K s w = GotPost k l (plainL (withL ss K s)) 0 w := by
  have e : putErr k l ss K s = 0 := by
    rw [putErr, hr, if_neg (by simp), if_neg (by omega), Int.toNat_natCast, if_neg (by omega)]
  rw [RPutPost, e, if_pos rfl, Int.toNat_natCast]
theorem trimN_take (ss : List ByteArray) (n : Nat) (h : n ≤ trimN ss n) : ∀ m, n ≤ m → trimN (ss.take m) n = n := by
  intro m hm
  rcases n with _ | n
  · rfl
  · have h1 : (ss.getD n ByteArray.empty).toList.isEmpty = false := by
      rw [trimN_succ] at h
      split at h
      · have := trimN_le ss n; omega
      · rename_i hne; exact Bool.eq_false_iff.2 hne
    rw [trimN_succ]
    have h2 : (ss.take m).getD n ByteArray.empty = ss.getD n ByteArray.empty := by
      simp only [List.getD, List.getElem?_take]
      rw [if_pos (by omega)]
    rw [h2, h1]
    rfl
theorem trimN_idem (ss : List ByteArray) : ∀ n, trimN ss (trimN ss n) = trimN ss n
  | 0 => rfl
  | n + 1 => by
    rw [trimN_succ]
    split
    · exact trimN_idem ss n
    · rename_i h; rw [trimN_succ, if_neg h]
theorem plain_plain (ss : List ByteArray) : plainL (plainL ss) = plainL ss := by
  have h := trimN_take ss (trimN ss ss.length) (by rw [trimN_idem]; exact Nat.le_refl _) (trimN ss ss.length) (Nat.le_refl _)
  have hl := plainL_len ss
  unfold plainL at hl ⊢
  rw [hl, h, List.take_take, Nat.min_self]

set_option maxRecDepth 100000 in
set_option maxHeartbeats 2000000 in
theorem rput_main (k l : Int) (A : Option Addr) (c : Nat) (ss : List ByteArray) (K : Nat) (s : ByteArray) (w : World) (h : At w A (ss.map Value.string)) (hs : Small ss) (hc : ss.length ≤ c) (hr : rightB k l ss = true)
    (hK : K < 24) (hss : s.size ≤ 400) :
    Calls Try.prog 23 #[.agg #[.int .i64 k, .int .i64 l, .slice A ss.length c], .int .i64 K, .string s] w (RPutPost k l ss K s w) := by
  have H := Lib.hid h; clear h
  have hv24 := (right_parts hr).2.2.1
  have HR := Lib.hid hr; clear hr
  have HS := Lib.hid hs; clear hs
  have HW := Lib.hid (small_with hv24 K hK s hss)
  have hi1 : ¬ (K : Int) < 0 := by omega
  have hi2 : (K : Int) < 24 := by omega
  have hi3 : ¬ 400 < (s.size : Int) := by omega
  have X0 := Lib.hid (((Ext.refl w).alloc (.cells #[.int .i64 k, .int .i64 l, .slice A ss.length c] 26)).alloc (.cells #[.int .i64 0, .int .i64 0, .slice none 0 0, .int .i64 0] 49))
  have Hpp := Lib.hid (plain_plain (withL ss K s))
  obtain ⟨z, hz⟩ : ∃ z, z = sizeL (plainL (withL ss K s)) := ⟨_, rfl⟩
  have Hz := Lib.hid hz
  clear hz
  have Hpz := Lib.hid (show sizeL (plainL (withL ss K s)) = sizeL (withL ss K s) by rw [sizeL, Hpp.out, sizeL])
  rcases Nat.lt_or_ge 512 z with h5 | h5
  · have h5' : 512 < (z : Int) := by omega
    go_enter Try.func23, Try.ntmps23
    go_wp2_with (first
      | (go_at_call 43; refine (rright_any _ _ _ _ _ _ _ rfl (H.out.ext X0.out) HS.out hc).mono ?_; rw [HR.out]; rintro e w1 ⟨rfl, hx⟩; have X1 := Lib.hid hx; obtain ⟨⟨p0, p1, p2⟩, _⟩ := got_held hx; clear hx)
      | (go_at_call 44; refine (rwith_any _ _ _ _ _ _ _ _ _ rfl (H.out.ext (X0.out.trans X1.out)) HS.out hc hK).mono ?_; rintro e w2 ⟨A2, c2, rfl, hown, hx⟩; have X2 := Lib.hid (X1.out.trans hx); have Hown := Lib.hid hown; clear hown hx)
      | (go_at_call 45; refine (rsize_any _ _ _ _ _ _ _ rfl ((At.of_own Hown.out).ext ((Ext.refl w2).alloc _)) (Small.plain HW.out) (own_cap Hown.out)).mono ?_; rw [← Hz.out]; rintro e w3 ⟨rfl, hx⟩; have X3 := Lib.hid ((X2.out.alloc (.cells #[.int .i64 k, .int .i64 l, .slice A2 (plainL (withL ss K s)).length c2] 26)).trans hx); obtain ⟨_, ⟨q0, q1, q2, q3⟩, ⟨f0, f1, f2, f3⟩, hzz⟩ := got_held X3.out; clear hx))
    refine bodyPost_ret (v := .agg #[.int .i64 0, .int .i64 0, .slice none 0 0, .int .i64 20]) (by simp [results, Try.results23, go_sem, q0, q1, q2, q3]) rfl ?_
    rw [rput_20 HR.out hK hss (by rw [← Hz.out]; exact h5) Hpz.out]
    refine GotPost.zero ?_
    have X4 := X0.out.trans X3.out
    repeat (first | exact X4 | refine Ext.set ?_ (by simp) _)
  · have h5' : (z : Int) ≤ 512 := by omega
    go_enter Try.func23, Try.ntmps23
    go_wp2_with (first
      | (go_at_call 43; refine (rright_any _ _ _ _ _ _ _ rfl (H.out.ext X0.out) HS.out hc).mono ?_; rw [HR.out]; rintro e w1 ⟨rfl, hx⟩; have X1 := Lib.hid hx; obtain ⟨⟨p0, p1, p2⟩, _⟩ := got_held hx; clear hx)
      | (go_at_call 44; refine (rwith_any _ _ _ _ _ _ _ _ _ rfl (H.out.ext (X0.out.trans X1.out)) HS.out hc hK).mono ?_; rintro e w2 ⟨A2, c2, rfl, hown, hx⟩; have X2 := Lib.hid (X1.out.trans hx); have Hown := Lib.hid hown; clear hown hx)
      | (go_at_call 45; refine (rsize_any _ _ _ _ _ _ _ rfl ((At.of_own Hown.out).ext ((Ext.refl w2).alloc _)) (Small.plain HW.out) (own_cap Hown.out)).mono ?_; rw [← Hz.out]; rintro e w3 ⟨rfl, hx⟩; have X3 := Lib.hid ((X2.out.alloc (.cells #[.int .i64 k, .int .i64 l, .slice A2 (plainL (withL ss K s)).length c2] 26)).trans hx); obtain ⟨_, ⟨q0, q1, q2, q3⟩, ⟨f0, f1, f2, f3⟩, hzz⟩ := got_held X3.out; have r0 : w3.cell? ⟨w2.heap.size, 0, none⟩ = some (.int .i64 k) := hx.cell_new 0; have r1 : w3.cell? ⟨w2.heap.size, 1, none⟩ = some (.int .i64 l) := hx.cell_new 1; have r2 : w3.cell? ⟨w2.heap.size, 2, none⟩ = some (.slice A2 (plainL (withL ss K s)).length c2) := hx.cell_new 2; have Hown3 := Lib.hid (own_ext (own_mono (base' := w.heap.size + 2) Hown.out (by have := X1.out.size2; exact this)) (((Ext.refl w2).alloc _).trans hx)); clear hx))
    refine bodyPost_ret (v := .agg #[.int .i64 k, .int .i64 l, .slice A2 (plainL (withL ss K s)).length c2, .int .i64 0]) (by simp [results, Try.results23, go_sem, q0, q1, q2, q3]) rfl ?_
    rw [rput_0 HR.out hK hss (by rw [← Hz.out]; exact h5) Hpz.out]
    have X4 := X0.out.trans X3.out
    refine ⟨A2, c2, rfl, own_mono (base := w.heap.size + 2) ?_ (by omega), ?_⟩
    · repeat (first | exact Hown3.out | refine ownsRow_setCell_below ?_ (by simp) _)
    · repeat (first | exact X4 | refine Ext.set ?_ (by simp) _)

theorem rput_any (k l : Int) (A : Option Addr) (n c : Nat) (ss : List ByteArray) (slot : Int) (s : ByteArray) (w : World) (hn : n = ss.length) (h : At w A (ss.map Value.string)) (hs : Small ss) (hc : n ≤ c) (hss : s.size ≤ 9223372036854775807) :
    Calls Try.prog 23 #[.agg #[.int .i64 k, .int .i64 l, .slice A n c], .int .i64 slot, .string s] w (RPutPost k l ss slot s w) := by
  subst hn
  rcases hr : rightB k l ss with _ | _
  · have e : putErr k l ss slot s = 22 := by rw [putErr, if_pos hr]
    rw [RPutPost, e, if_neg (by decide)]
    exact rput_not k l A c ss slot s w h hs hc hr
  · by_cases hb : slot < 0 ∨ 24 ≤ slot ∨ 400 < s.size
    · have e : putErr k l ss slot s = 21 := by rw [putErr, hr, if_neg (by simp), if_pos hb]
      rw [RPutPost, e, if_neg (by decide)]
      exact rput_item k l A c ss slot s w h hs hc hr hb hss
    · obtain ⟨K, rfl⟩ := Int.eq_ofNat_of_zero_le (show 0 ≤ slot by omega)
      exact rput_main k l A c ss K s w h hs hc hr (by omega) (by omega)
end Go.Proofs.Ytkkldciofndedaa
