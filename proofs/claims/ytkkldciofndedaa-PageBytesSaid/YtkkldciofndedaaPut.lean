/- page.Put. -/
import Derived.Test.YtkkldciofndedaaFree
import Derived.Deep.RegionHeld3
namespace Go.Proofs.Ytkkldciofndedaa
open Go.RowKit

theorem Ext.two {w w1 : World} {o : Obj} {cs : Array Value} {t : TypeId} (h : Ext ((w.alloc o).alloc (.cells cs t)) w1) :
    (∀ i, w1.cell? ⟨w.heap.size + 1, i, none⟩ = cs[i]?) ∧ (∀ i, w1.frozen? ⟨w.heap.size + 1, i, none⟩ = false) ∧ w.heap.size + 1 < w1.heap.size := by
  have e : (w.alloc o).heap.size = w.heap.size + 1 := World.size_alloc w o
  have h1 := fun i => h.cell_new i
  have h2 := fun i => h.frozen_new i
  have h3 := h.lt_new
  rw [e] at h1 h2 h3
  exact ⟨h1, h2, h3⟩
/-- the first of two new blocks -/
theorem Ext.two0 {w w1 : World} {o : Obj} {cs : Array Value} {t : TypeId} (h : Ext ((w.alloc (.cells cs t)).alloc o) w1) :
    (∀ i, w1.cell? ⟨w.heap.size, i, none⟩ = cs[i]?) ∧ (∀ i, w1.frozen? ⟨w.heap.size, i, none⟩ = false) :=
  have h0 : Ext (w.alloc (.cells cs t)) w1 := ((Ext.refl _).alloc o).trans h
  ⟨fun i => h0.cell_new i, fun i => h0.frozen_new i⟩
def padTo (l : List ByteArray) (n : Nat) : List ByteArray := l ++ List.replicate (n - l.length) ByteArray.empty
/-- the items with one put in -/
def withL (ss : List ByteArray) (slot : Nat) (s : ByteArray) : List ByteArray := (padTo (plainL ss) (slot + 1)).set slot s
def putErr (k l : Int) (ss : List ByteArray) (slot : Int) (s : ByteArray) : Int :=
  if rightB k l ss = false then 22 else if slot < 0 ∨ 24 ≤ slot ∨ 400 < s.size then 21 else if 512 < sizeL (withL ss slot.toNat s) then 20 else 0
/-- a page and an error, the page's items in new memory -/
def PgPost (k l : Int) (ss : List ByteArray) (err : Int) (w : World) (e : Ending) (w' : World) : Prop :=
  ∃ A c, e = .returned (.tuple #[.agg #[.int .i64 k, .int .i64 l, .slice A ss.length c], .int .i64 err]) ∧
    w'.ownsRow w.heap.size 9 1 (.slice A ss.length c) ss.length (ss.map Value.string) ∧ Ext w w'
def PutPost (k l : Int) (ss : List ByteArray) (slot : Int) (s : ByteArray) (w : World) : Ending → World → Prop :=
  if putErr k l ss slot s = 0 then PgPost k l (plainL (withL ss slot.toNat s)) 0 w else PgPost 0 0 [] (putErr k l ss slot s) w

theorem PgPost.zero {err : Int} {w w' : World} (h : Ext w w') : PgPost 0 0 [] err w (.returned (.tuple #[.agg #[.int .i64 0, .int .i64 0, .slice none 0 0], .int .i64 err])) w' :=
  ⟨none, 0, rfl, World.ownsRow_nil _ _ _ _, h⟩

set_option maxRecDepth 100000 in
set_option maxHeartbeats 1000000 in
theorem put_not (k l : Int) (A : Option Addr) (c : Nat) (ss : List ByteArray) (slot : Int) (s : ByteArray) (w : World) (h : At w A (ss.map Value.string)) (hs : Small ss) (hr : rightB k l ss = false) :
    Calls Try.prog 18 #[.agg #[.int .i64 k, .int .i64 l, .slice A ss.length c], .int .i64 slot, .string s] w (PgPost 0 0 [] 22 w) := by
  have H := Lib.hid h; clear h
  have HR := Lib.hid hr; clear hr
  have HS := Lib.hid hs; clear hs
  have X0 := Lib.hid (((Ext.refl w).alloc (.cells #[.int .i64 k, .int .i64 l, .slice A ss.length c] 26)).alloc (.cells #[.int .i64 0, .int .i64 0, .slice none 0 0] 26))
  go_enter Try.func18, Try.ntmps18
  go_wp2_with (go_at_call 42; refine (right_any _ _ _ _ _ _ (H.out.ext X0.out) HS.out).mono ?_; rw [HR.out]; rintro e w1 ⟨rfl, hx⟩; have X1 := Lib.hid (X0.out.trans hx); have q0 : w1.cell? ⟨w.heap.size + 1, 0, none⟩ = some (.int .i64 0) := hx.two.1 0; have q1 : w1.cell? ⟨w.heap.size + 1, 1, none⟩ = some (.int .i64 0) := hx.two.1 1; have q2 : w1.cell? ⟨w.heap.size + 1, 2, none⟩ = some (.slice none 0 0) := hx.two.1 2; have f0 := hx.two.2.1 0; have f1 := hx.two.2.1 1; have f2 := hx.two.2.1 2; have hz1 := hx.two.2.2; clear hx)
  refine bodyPost_ret (v := .tuple #[.agg #[.int .i64 0, .int .i64 0, .slice none 0 0], .int .i64 22]) (by simp [results, Try.results18, go_sem, q0, q1, q2]) rfl (PgPost.zero ?_)
  repeat (first | exact X1.out | refine Ext.set ?_ (by simp) _)

set_option maxRecDepth 100000 in
set_option maxHeartbeats 1000000 in
theorem put_item (k l : Int) (A : Option Addr) (c : Nat) (ss : List ByteArray) (slot : Int) (s : ByteArray) (w : World) (h : At w A (ss.map Value.string)) (hs : Small ss) (hr : rightB k l ss = true)
    (hb : slot < 0 ∨ 24 ≤ slot ∨ 400 < s.size) (hss : s.size ≤ 9223372036854775807) :
    Calls Try.prog 18 #[.agg #[.int .i64 k, .int .i64 l, .slice A ss.length c], .int .i64 slot, .string s] w (PgPost 0 0 [] 21 w) := by
  have H := Lib.hid h; clear h
  have HR := Lib.hid hr; clear hr
  have HS := Lib.hid hs; clear hs
  have X0 := Lib.hid (((Ext.refl w).alloc (.cells #[.int .i64 k, .int .i64 l, .slice A ss.length c] 26)).alloc (.cells #[.int .i64 0, .int .i64 0, .slice none 0 0] 26))
  have h3 : slot < 0 ∨ (0 ≤ slot ∧ 24 ≤ slot) ∨ (0 ≤ slot ∧ slot < 24 ∧ 400 < (s.size : Int)) := by omega
  clear hb
  rcases h3 with h1 | ⟨h0, h1⟩ | ⟨h0, h1, h2⟩
  all_goals
    go_enter Try.func18, Try.ntmps18
    go_wp2_with (go_at_call 42; refine (right_any _ _ _ _ _ _ (H.out.ext X0.out) HS.out).mono ?_; rw [HR.out]; rintro e w1 ⟨rfl, hx⟩; have X1 := Lib.hid (X0.out.trans hx); have q0 : w1.cell? ⟨w.heap.size + 1, 0, none⟩ = some (.int .i64 0) := hx.two.1 0; have q1 : w1.cell? ⟨w.heap.size + 1, 1, none⟩ = some (.int .i64 0) := hx.two.1 1; have q2 : w1.cell? ⟨w.heap.size + 1, 2, none⟩ = some (.slice none 0 0) := hx.two.1 2; have f0 := hx.two.2.1 0; have f1 := hx.two.2.1 1; have f2 := hx.two.2.1 2; have hz1 := hx.two.2.2; clear hx)
    refine bodyPost_ret (v := .tuple #[.agg #[.int .i64 0, .int .i64 0, .slice none 0 0], .int .i64 21]) (by simp [results, Try.results18, go_sem, q0, q1, q2]) rfl (PgPost.zero ?_)
    repeat (first | exact X1.out | refine Ext.set ?_ (by simp) _)

theorem small_with {ss : List ByteArray} (h : ss.length ≤ 24 ∧ ∀ s ∈ ss, s.size ≤ 400) (K : Nat) (hK : K < 24) (s : ByteArray) (hs : s.size ≤ 400) : Small (withL ss K s) := by
  have hp := plainL_len ss
  have ht := trimN_le ss ss.length
  refine ⟨by simp only [withL, padTo, List.length_set, List.length_append, List.length_replicate]; omega, fun x hx => ?_⟩
  have hx' : x = s ∨ x ∈ padTo (plainL ss) (K + 1) := by
    rcases List.mem_or_eq_of_mem_set hx with h | h
    · exact .inr h
    · exact .inl h
  rcases hx' with rfl | hx'
  · omega
  · rcases List.mem_append.1 hx' with h1 | h1
    · have := h.2 x (List.mem_of_mem_take h1); omega
    · have := (List.mem_replicate.1 h1).2
      subst this
      simp
theorem right_parts {k l : Int} {ss : List ByteArray} (h : rightB k l ss = true) : (0 ≤ k ∧ k ≤ 2) ∧ (0 ≤ l ∧ l ≤ 2147483647) ∧ (ss.length ≤ 24 ∧ ∀ s ∈ ss, s.size ≤ 400) ∧ sizeL ss ≤ 512 := by
  simp only [rightB, Bool.and_eq_true, decide_eq_true_eq, Bool.not_eq_true', longB, List.any_eq_false, Nat.not_lt] at h
  exact ⟨⟨h.1, h.2.1⟩, ⟨h.2.2.1, h.2.2.2.1⟩, ⟨h.2.2.2.2.1, h.2.2.2.2.2.1⟩, h.2.2.2.2.2.2⟩
def lenOf : Value → Nat | .slice _ n _ => n | _ => 0
theorem own_pos {w : World} {base : Nat} {e : TypeId} {A : Option Addr} {n c : Nat} {xs : List Value} (h : w.ownsRow base e 1 (.slice A n c) n xs) (hn : 0 < n) :
    ∃ g, A = some ⟨g, 0, none⟩ ∧ base ≤ g ∧ g < w.heap.size := by
  rcases h.2 with ⟨hv, h0⟩ | ⟨g, cap, cur, hv, hb, hg, _⟩
  · omega
  · injection hv with h1
    exact ⟨g, h1, hb, (Array.getElem?_eq_some_iff.1 hg).1⟩

theorem size_n (A : Option Addr) (n c : Nat) (ss : List ByteArray) (w : World) (hn : n = ss.length) (h : At w A (ss.map Value.string)) (hs : Small ss) :
    Calls Try.prog 40 #[.slice A n c] w fun e w' => e = .returned (.int .i64 (sizeL ss)) ∧ Ext w w' := by
  subst hn; exact size_any A c ss w h hs
theorem plain_n (A : Option Addr) (n c : Nat) (ss : List ByteArray) (w : World) (hn : n = ss.length) (h : At w A (ss.map Value.string)) (hl : ss.length ≤ 100000) :
    Calls Try.prog 41 #[.slice A n c] w fun e w' => e = .returned (.slice (some ⟨w.heap.size, 0, none⟩) (plainL ss).length (plainL ss).length) ∧
      w'.ownsRow w.heap.size 9 1 (.slice (some ⟨w.heap.size, 0, none⟩) (plainL ss).length (plainL ss).length) (plainL ss).length ((plainL ss).map Value.string) ∧ Ext w w' := by
  subst hn; exact plain_any A c ss w h hl
theorem with_stored {wr : World} {base g m c K : Nat} {ss : List ByteArray} {s : ByteArray}
    (h : wr.ownsRow base 9 1 (.slice (some ⟨g, 0, none⟩) m c) m ((plainL ss ++ List.replicate (m - (plainL ss).length) ByteArray.empty).map Value.string))
    (h1 : (plainL ss).length ≤ m) (h2 : m ≤ (plainL ss).length ∨ m ≤ K + 1) (h3 : K < m) :
    (wr.setCell ⟨g, K, none⟩ (.string s)).ownsRow base 9 1 (.slice (some ⟨g, 0, none⟩) m c) m ((withL ss K s).map Value.string) := by
  have e : m - (plainL ss).length = K + 1 - (plainL ss).length := by omega
  have := (h.stored K (.string s)).1
  rw [e, ← List.map_set] at this
  exact this

theorem put_held {w W : World} {k l : Int} {A : Option Addr} {n c : Nat}
    (h : Ext ((w.alloc (.cells #[.int .i64 k, .int .i64 l, .slice A n c] 26)).alloc (.cells #[.int .i64 0, .int .i64 0, .slice none 0 0] 26)) W) :
    W.cell? ⟨w.heap.size, 0, none⟩ = some (.int .i64 k) ∧ W.cell? ⟨w.heap.size, 1, none⟩ = some (.int .i64 l) ∧ W.cell? ⟨w.heap.size + 1, 0, none⟩ = some (.int .i64 0) ∧ W.cell? ⟨w.heap.size + 1, 1, none⟩ = some (.int .i64 0) ∧
      W.cell? ⟨w.heap.size + 1, 2, none⟩ = some (.slice none 0 0) ∧ W.frozen? ⟨w.heap.size + 1, 0, none⟩ = false ∧ W.frozen? ⟨w.heap.size + 1, 1, none⟩ = false ∧ W.frozen? ⟨w.heap.size + 1, 2, none⟩ = false :=
  ⟨h.two0.1 0, h.two0.1 1, h.two.1 0, h.two.1 1, h.two.1 2, h.two.2.1 0, h.two.2.1 1, h.two.2.1 2⟩

theorem put_20 {k l : Int} {ss : List ByteArray} {K : Nat} {s : ByteArray} {w : World} (hr : rightB k l ss = true) (hK : K < 24) (hs : s.size ≤ 400) (hz : 512 < sizeL (withL ss K s)) :
    PutPost k l ss K s w = PgPost 0 0 [] 20 w := by
  have e : putErr k l ss K s = 20 := by
    rw [putErr, hr, if_neg (by simp), if_neg (by omega), Int.toNat_natCast, if_pos hz]
  rw [PutPost, e, if_neg (by decide)]
theorem put_0 {k l : Int} {ss : List ByteArray} {K : Nat} {s : ByteArray} {w : World} (hr : rightB k l ss = true) (hK : K < 24) (hs : s.size ≤ 400) (hz : sizeL (withL ss K s) ≤ 512) :
    PutPost k l ss K s w = PgPost k l (plainL (withL ss K s)) 0 w := by
  have e : putErr k l ss K s = 0 := by
    rw [putErr, hr, if_neg (by simp), if_neg (by omega), Int.toNat_natCast, if_neg (by omega)]
  rw [PutPost, e, if_pos rfl, Int.toNat_natCast]
theorem pad_step {w2 : World} {base n : Nat} {v' : Value} {pl : List ByteArray} {u : Value} (hu : u = .string ByteArray.empty) (h : w2.ownsRow base 9 1 v' (n + 1) ((pl ++ List.replicate (n - pl.length) ByteArray.empty).map Value.string ++ [u])) (hl : pl.length ≤ n) :
    w2.ownsRow base 9 1 v' (n + 1) ((pl ++ List.replicate (n + 1 - pl.length) ByteArray.empty).map Value.string) := by
  subst hu
  have e : n + 1 - pl.length = (n - pl.length) + 1 := by omega
  rw [e, List.replicate_succ', ← List.append_assoc, List.map_append (l₂ := [ByteArray.empty])]
  exact h

/-- the relation of the loop that fills up with empty items -/
def PadRel (pl : List ByteArray) (K : Nat) (w1 : World) (v : Value) (wr : World) : Prop :=
  ∃ m A c, v = .slice A m c ∧ pl.length ≤ m ∧ (m ≤ pl.length ∨ m ≤ K + 1) ∧ wr.ownsRow w1.heap.size 9 1 (.slice A m c) m ((pl ++ List.replicate (m - pl.length) ByteArray.empty).map Value.string) ∧ Ext w1 wr

set_option maxRecDepth 100000 in
set_option maxHeartbeats 2000000 in
theorem put_main (k l : Int) (A : Option Addr) (c : Nat) (ss : List ByteArray) (K : Nat) (s : ByteArray) (w : World) (h : At w A (ss.map Value.string)) (hs : Small ss) (hr : rightB k l ss = true)
    (hK : K < 24) (hss : s.size ≤ 400) :
    Calls Try.prog 18 #[.agg #[.int .i64 k, .int .i64 l, .slice A ss.length c], .int .i64 K, .string s] w (PutPost k l ss K s w) := by
  have H := Lib.hid h; clear h
  have hpl := plainL_len ss
  have htr := trimN_le ss ss.length
  have hl24 := (right_parts hr).2.2.1.1
  have hp24 : (plainL ss).length ≤ 24 := by omega
  have hv24 := (right_parts hr).2.2.1
  clear hpl htr hl24
  have HR := Lib.hid hr; clear hr
  have HS := Lib.hid hs; clear hs
  obtain ⟨i0, hi0, hz0, hz1, hz2⟩ := info_parts Try.infoStr
  have X0 := Lib.hid (((Ext.refl w).alloc (.cells #[.int .i64 k, .int .i64 l, .slice A ss.length c] 26)).alloc (.cells #[.int .i64 0, .int .i64 0, .slice none 0 0] 26))
  go_enter Try.func18, Try.ntmps18
  go_wp2_with (first
    | (go_at_call 42; refine (right_any _ _ _ _ _ _ (H.out.ext X0.out) HS.out).mono ?_; rw [HR.out]; rintro e w1 ⟨rfl, hx⟩; have X1 := Lib.hid (X0.out.trans hx); have HX := Lib.hid hx; have p2 : w1.cell? ⟨w.heap.size, 2, none⟩ = some (.slice A ss.length c) := hx.two0.1 2; have hzz := hx.two.2.2; clear hx)
    | (go_at_call 41; refine (plain_any _ _ _ _ (H.out.ext X1.out) HS.out.1).mono ?_; rintro e w2 ⟨rfl, hown, hx⟩; have Hown := Lib.hid hown; have X2 := Lib.hid hx; clear hown hx))
  go_loopw [8] (fun v wr => PadRel (plainL ss) K w1 v wr) (fun v _ => K + 1 - lenOf v)
  case atStart => exact ⟨_, _, _, rfl, Nat.le_refl _, .inl (Nat.le_refl _), by simpa using Hown.out, X2.out⟩
  case round =>
    obtain ⟨m, A', c', rfl, hm1, hm2, hown, hx⟩ := hrel
    have Hw := Lib.hid hown
    have XR := Lib.hid hx
    clear hown hx
    rcases Nat.lt_or_ge K m with hlt | hge
    · obtain ⟨g, rfl, hg1, hg2⟩ := own_pos Hw.out (by omega)
      have hme : m = (withL ss K s).length := by simp [withL, padTo]; omega
      have ho := (At.of_own Hw.out).get0 (k := K) (by simp; omega)
      have hfz := Hw.out.frozenAt (xs := (plainL ss ++ List.replicate (m - (plainL ss).length) ByteArray.empty).map Value.string) K
      have hst := with_stored (s := s) Hw.out hm1 hm2 hlt
      generalize ((plainL ss ++ List.replicate (m - (plainL ss).length) ByteArray.empty).map Value.string)[K]'(by simp; omega) = ov at ho
      have Hst := Lib.hid hst
      have Hme := Lib.hid hme
      clear hst hme
      obtain ⟨z, hz⟩ : ∃ z, z = sizeL (withL ss K s) := ⟨_, rfl⟩
      have Hz := Lib.hid hz
      clear hz
      rcases Nat.lt_or_ge 512 z with h5 | h5
      · have h5' : 512 < (z : Int) := by omega
        go_wp2_with (go_at_call 40; refine (size_n _ _ _ _ _ Hme.out (At.of_own Hst.out) (small_with hv24 K hK s hss)).mono ?_; rw [← Hz.out]; rintro e w3 ⟨rfl, hx⟩; have hx3 := HX.out.trans ((XR.out.set (p := ⟨g, K, none⟩) hg1 (.string s)).trans hx); have X3 := Lib.hid (X0.out.trans hx3); obtain ⟨_, _, q0, q1, q2, f0, f1, f2⟩ := put_held hx3; have hz3 := hx3.two.2.2; clear hx hx3)
        refine bodyPost_ret (v := .tuple #[.agg #[.int .i64 0, .int .i64 0, .slice none 0 0], .int .i64 20]) (by simp [results, Try.results18, go_sem, q0, q1, q2]) rfl ?_
        rw [put_20 HR.out hK hss (by rw [← Hz.out]; exact h5)]
        refine PgPost.zero ?_
        repeat (first | exact X3.out | refine Ext.set ?_ (by simp) _)
      · have h5' : (z : Int) ≤ 512 := by omega
        go_wp2_with (go_at_call 40; refine (size_n _ _ _ _ _ Hme.out (At.of_own Hst.out) (small_with hv24 K hK s hss)).mono ?_; rw [← Hz.out]; rintro e w3 ⟨rfl, hx⟩; have hx3 := HX.out.trans ((XR.out.set (p := ⟨g, K, none⟩) hg1 (.string s)).trans hx); have X3 := Lib.hid hx3; have X3' := Lib.hid hx; obtain ⟨p0, p1, q0, q1, q2, f0, f1, f2⟩ := put_held hx3; have hz3 := hx3.two.2.2; clear hx hx3)
        have hatl := (At.of_own Hst.out).ext X3'.out
        have Hat := Lib.hid hatl
        clear hatl
        go_region_held3 (fun W => W.cell? ⟨w.heap.size, 0, none⟩ = some (.int .i64 k) ∧ W.cell? ⟨w.heap.size, 1, none⟩ = some (.int .i64 l))
          (first | exact ⟨p0, p1⟩ | exact ⟨p0', p1'⟩ | go_keep)
          (first | (go_at_call 41; refine (plain_n _ _ _ _ _ Hme.out (Hat.out.ext (Ext.refl _).drew) (small_with hv24 K hK s hss).1).mono ?_; rintro e w4 ⟨rfl, hown4, hx4⟩; have X4 := Lib.hid (X3.out.drew.trans hx4); obtain ⟨p0', p1', q0', q1', q2', f0', f1', f2'⟩ := put_held X4.out; have Hown4 := Lib.hid hown4; clear hx4 hown4))
        go_wp2
        refine bodyPost_ret (v := .tuple #[.agg #[.int .i64 k, .int .i64 l, .slice (some ⟨w3.heap.size, 0, none⟩) (plainL (withL ss K s)).length (plainL (withL ss K s)).length], .int .i64 0]) (by simp [results, Try.results18, go_sem, q0', q1', q2']) rfl ?_
        rw [put_0 HR.out hK hss (by rw [← Hz.out]; exact h5)]
        refine ⟨_, _, rfl, own_mono (ownsRow_setCell_below (ownsRow_setCell_below (ownsRow_setCell_below Hown4.out hz3 _) hz3 _) hz3 _) (by show _ ≤ w3.heap.size; omega), ?_⟩
        have X5 := X0.out.trans X4.out
        repeat (first | exact X5 | refine Ext.set ?_ (by simp) _)
    · go_wp2_with (at_builtin; go_must (refine wpList_append_own _ rfl (.tmp 32) (.tmp 33) 22 rfl w1.heap.size 9 i0 _ 1 16 Try.underlying22 hi0 hz0 hz1 hz2 rfl (by decide) _ _ _ rfl (Hw.out.alloc _) ⟨wr.heap.size, 0, none⟩ 1 1 [.string ⟨#[]⟩] rfl rfl (cell_one_new _ _ _) (by intro u hu; simp at hu; subst hu; rfl) (by simp only [maxLen]; omega) (by omega) (by have := XR.out.size; simp; omega) ?_); intro v' w4 hown' hg' _; have HO := Lib.hid hown'; have HG := Lib.hid hg'; clear hown' hg')
      go_roundw
      case rel =>
        obtain ⟨A2, c2, rfl, _⟩ := own_form HO.out
        exact ⟨m + 1, A2, c2, rfl, by omega, .inr (by omega), pad_step rfl HO.out hm1, ((XR.out.alloc _).grown HG.out (own_block Hw.out))⟩
      case measure =>
        obtain ⟨A2, c2, rfl, _⟩ := own_form HO.out
        simp [lenOf]; omega

theorem put_any (k l : Int) (A : Option Addr) (n c : Nat) (ss : List ByteArray) (slot : Int) (s : ByteArray) (w : World) (hn : n = ss.length) (h : At w A (ss.map Value.string)) (hs : Small ss) (hss : s.size ≤ 9223372036854775807) :
    Calls Try.prog 18 #[.agg #[.int .i64 k, .int .i64 l, .slice A n c], .int .i64 slot, .string s] w (PutPost k l ss slot s w) := by
  subst hn
  rcases hr : rightB k l ss with _ | _
  · have e : putErr k l ss slot s = 22 := by rw [putErr, if_pos hr]
    rw [PutPost, e, if_neg (by decide)]
    exact put_not k l A c ss slot s w h hs hr
  · by_cases hb : slot < 0 ∨ 24 ≤ slot ∨ 400 < s.size
    · have e : putErr k l ss slot s = 21 := by rw [putErr, hr, if_neg (by simp), if_pos hb]
      rw [PutPost, e, if_neg (by decide)]
      exact put_item k l A c ss slot s w h hs hr hb hss
    · obtain ⟨K, rfl⟩ := Int.eq_ofNat_of_zero_le (show 0 ≤ slot by omega)
      exact put_main k l A c ss K s w h hs hr (by omega) (by omega)
end Go.Proofs.Ytkkldciofndedaa
