/- the reference's Plain and Size. -/
import Derived.Test.YtkkldciofndedaaPut
import Derived.Test.YtkkldciofndedaaAppend
namespace Go.Proofs.Ytkkldciofndedaa
open Go.RowKit

/-- a page, its items in new memory -/
def PgOne (k l : Int) (ss : List ByteArray) (w : World) (e : Ending) (w' : World) : Prop :=
  ∃ A c, e = .returned (.agg #[.int .i64 k, .int .i64 l, .slice A ss.length c]) ∧ w'.ownsRow w.heap.size 9 1 (.slice A ss.length c) ss.length (ss.map Value.string) ∧ Ext w w'

theorem after_lit {w w5 : World} {k l : Int} {A : Option Addr} {n c : Nat}
    (hg : (((w.alloc (.cells #[.int .i64 k, .int .i64 l, .slice A n c] 26)).alloc (.cells #[.int .i64 0, .int .i64 0, .slice none 0 0] 26)).alloc (.cells #[] 9)).drew.grownBy w5 (Value.ownBlock (.slice (some ⟨w.heap.size + 2, 0, none⟩) 0 0))) :
    Ext ((w.alloc (.cells #[.int .i64 k, .int .i64 l, .slice A n c] 26)).alloc (.cells #[.int .i64 0, .int .i64 0, .slice none 0 0] 26)) w5 :=
  (((Ext.refl _).alloc _).drew).grown hg (by intro k hk; simp [Value.ownBlock] at hk; subst hk; simp)

theorem At.take_map {w : World} {A : Option Addr} {α : Type} {f : α → Value} {xs : List α} (h : At w A (xs.map f)) (n : Nat) : At w A ((xs.take n).map f) := by
  rw [List.map_take]; exact h.take n
theorem rplain_end {w w5 : World} {k l : Int} {ss : List ByteArray} {A : Option Addr} {m c : Nat} {x y z : Value} (ht : m = trimN ss ss.length)
    (h : w5.ownsRow (w.heap.size + 2) 9 1 (.slice A m c) m ((ss.take m).map Value.string)) (hx : Ext w w5) :
    PgOne k l (plainL ss) w (.returned (.agg #[.int .i64 k, .int .i64 l, .slice A m c])) (((w5.setCell ⟨w.heap.size + 1, 0, none⟩ x).setCell ⟨w.heap.size + 1, 1, none⟩ y).setCell ⟨w.heap.size + 1, 2, none⟩ z) := by
  have hl : (plainL ss).length = m := by rw [plainL_len, ht]
  refine ⟨A, c, by rw [hl], ?_, ?_⟩
  · rw [hl]
    have e : plainL ss = ss.take m := by rw [plainL, ht]
    rw [e]
    exact own_mono (ownsRow_setCell_below (ownsRow_setCell_below (ownsRow_setCell_below h (by simp) _) (by simp) _) (by simp) _) (by omega)
  · exact ((hx.set (by simp) _).set (by simp) _).set (by simp) _

set_option maxRecDepth 100000 in
set_option maxHeartbeats 1000000 in
theorem rplain_any (k l : Int) (A : Option Addr) (c : Nat) (ss : List ByteArray) (w : World) (h : At w A (ss.map Value.string)) (hl : ss.length ≤ 100000) (hc : ss.length ≤ c) :
    Calls Try.prog 55 #[.agg #[.int .i64 k, .int .i64 l, .slice A ss.length c]] w (PgOne k l (plainL ss) w) := by
  obtain ⟨i0, hi0, hz0, hz1, hz2⟩ := info_parts Try.infoStr
  have H := Lib.hid h; clear h
  have X0 := Lib.hid (((Ext.refl w).alloc (.cells #[.int .i64 k, .int .i64 l, .slice A ss.length c] 26)).alloc (.cells #[.int .i64 0, .int .i64 0, .slice none 0 0] 26))
  go_enter Try.func55, Try.ntmps55
  go_wp2
  go_loop [3] (fun i => ∃ j : Nat, j ≤ ss.length ∧ i = .int .i64 j ∧ trimN ss j = trimN ss ss.length) (fun i => (intOf i).toNat)
  case atStart => exact ⟨_, Nat.le_refl _, rfl, rfl⟩
  case round =>
    obtain ⟨j, hj, rfl, ht⟩ := hrel
    have Ht := Lib.hid ht; clear ht
    rcases j with _ | j
    · go_wp2
      go_region_held3 (fun W => W.cell? ⟨w.heap.size, 0, none⟩ = some (.int .i64 k) ∧ W.cell? ⟨w.heap.size, 1, none⟩ = some (.int .i64 l) ∧ W.cell? ⟨w.heap.size, 2, none⟩ = some (.slice A ss.length c))
        (first | go_keep | exact ⟨p0, p1, p2⟩)
        ((refine stp_append _ (by rfl) (.tmp 24) (.tmp 28) _ (by rfl) (w.heap.size + 2) 9 i0 _ 16 Try.underlying22 hi0 hz0 hz1 hz2 rfl _ 0 [] (by rfl) (own_lit0 (by simp) (by simp)) _ 0 _ [] (by rfl) (by rfl) (At.nil _ _) (by simp) (by simp [maxLen]) (by simp) (by simp) ?_; intro v5 w5 hown5 hg5 _; simp only [Nat.add_zero, List.nil_append] at hown5; obtain ⟨A5, c5, rfl, _⟩ := own_form hown5; have X5 := Lib.hid (after_lit (w := w) (k := k) (l := l) (A := A) (n := ss.length) (c := c) hg5); obtain ⟨p0, p1, q0, q1, q2, f0, f1, f2⟩ := put_held X5.out; have p2 : w5.cell? ⟨w.heap.size, 2, none⟩ = _ := X5.out.two0.1 2; have Hown5 := Lib.hid hown5; clear hown5 hg5))
      go_wp2
      refine bodyPost_ret (v := .agg #[.int .i64 k, .int .i64 l, .slice A5 0 c5]) (by simp [results, Try.results55, go_sem, q0, q1, q2]) rfl ?_
      exact rplain_end (m := 0) Ht.out Hown5.out (X0.out.trans X5.out)
    · have hs : (ss.map Value.string)[j]? = some (.string (ss.getD j ByteArray.empty)) := by simp [List.getD, List.getElem?_eq_getElem (show j < ss.length by omega)]
      obtain ⟨ad, rfl, hb, hcell⟩ := (H.out.ext X0.out) _ _ hs
      clear hs
      obtain ⟨s, hs⟩ : ∃ s, s = ss.getD j ByteArray.empty := ⟨_, rfl⟩
      rw [← hs] at hcell
      have Hs := Lib.hid hs; clear hs
      rcases he : s.toList.isEmpty with _ | _
      · have He := Lib.hid (show trimN ss ss.length = j + 1 by rw [← Ht.out, trimN_succ, ← Hs.out, he]; rfl)
        have hc0 : ¬ c = 0 := by omega
        have hj1 : (0 : Int) ≤ (j : Int) + 1 := by omega
        have hj2 : (j : Int) + 1 ≤ (c : Int) := by omega
        go_wp2
        go_region_held3 (fun W => W.cell? ⟨w.heap.size, 0, none⟩ = some (.int .i64 k) ∧ W.cell? ⟨w.heap.size, 1, none⟩ = some (.int .i64 l) ∧ W.cell? ⟨w.heap.size, 2, none⟩ = some (.slice (some ad) ss.length c))
          (first | go_keep | exact ⟨p0, p1, p2⟩)
          ((refine stp_append _ (by rfl) (.tmp 24) (.tmp 28) _ (by rfl) (w.heap.size + 2) 9 i0 _ 16 Try.underlying22 hi0 hz0 hz1 hz2 rfl _ 0 [] (by rfl) (own_lit0 (by simp) (by simp)) (some ad) (j + 1) _ ((ss.take (j + 1)).map Value.string) (by rfl) (by simp; omega) (by exact (At.take_map (H.out.ext X0.out) (j + 1)).ext ((Ext.refl _).alloc _).drew) (str_one _) (by simp only [maxLen]; omega) (by omega) (by simp) ?_; intro v5 w5 hown5 hg5 _; simp only [Nat.zero_add, List.nil_append] at hown5; obtain ⟨A5, c5, rfl, _⟩ := own_form hown5; have X5 := Lib.hid (after_lit (w := w) (k := k) (l := l) (A := some ad) (n := ss.length) (c := c) hg5); obtain ⟨p0, p1, q0, q1, q2, f0, f1, f2⟩ := put_held X5.out; have p2 : w5.cell? ⟨w.heap.size, 2, none⟩ = _ := X5.out.two0.1 2; have Hown5 := Lib.hid hown5; clear hown5 hg5))
        go_wp2
        refine bodyPost_ret (v := .agg #[.int .i64 k, .int .i64 l, .slice A5 (j + 1) c5]) (by simp [results, Try.results55, go_sem, q0, q1, q2]) rfl ?_
        exact rplain_end (m := j + 1) He.out.symm Hown5.out (X0.out.trans X5.out)
      · go_wp2
        go_round
        case rel => exact ⟨j, by omega, rfl, by rw [← Ht.out, trimN_succ, ← Hs.out, if_pos he]⟩
        case measure => simp [intOf]

theorem own_cap {w : World} {base : Nat} {e : TypeId} {A : Option Addr} {n m c : Nat} {xs : List Value} (h : w.ownsRow base e 1 (.slice A n c) m xs) : n ≤ c := by
  rcases h.2 with ⟨hv, _⟩ | ⟨g, cap, cur, hv, hb, hg, hc, _⟩
  · injection hv with _ h2 h3; omega
  · injection hv with _ h2 h3; omega

set_option maxRecDepth 100000 in
set_option maxHeartbeats 1000000 in
theorem rsize_any (k l : Int) (A : Option Addr) (n c : Nat) (ss : List ByteArray) (w : World) (hn : n = ss.length) (h : At w A (ss.map Value.string)) (hs : Small ss) (hc : n ≤ c) :
    Calls Try.prog 45 #[.agg #[.int .i64 k, .int .i64 l, .slice A n c]] w fun e w' => e = .returned (.int .i64 (sizeL ss)) ∧ Ext w w' := by
  subst hn
  have H := Lib.hid h; clear h
  have hl := hs.1
  have HS := Lib.hid hs; clear hs
  have X0 := Lib.hid ((Ext.refl w).alloc (.cells #[.int .i64 k, .int .i64 l, .slice A ss.length c] 26))
  go_enter Try.func45, Try.ntmps45
  go_wp2_with (go_at_call 55; refine (rplain_any _ _ _ _ _ _ (H.out.ext X0.out) hl hc).mono ?_; rintro e w1 ⟨A1, c1, rfl, hown, hx⟩; have Hown := Lib.hid hown; have X1 := Lib.hid (X0.out.trans hx); clear hown hx)
  have hsm := Small.plain HS.out
  have hpl : (plainL ss).length ≤ 100000 := hsm.1
  have Hp := Lib.hid hsm; clear hsm
  obtain ⟨ps, hps⟩ : ∃ ps, ps = plainL ss := ⟨_, rfl⟩
  rw [← hps] at Hown Hp hpl ⊢
  have Hps := Lib.hid hps; clear hps
  have HA := Lib.hid ((At.of_own Hown.out).ext ((Ext.refl w1).alloc (.cells #[.int .i64 k, .int .i64 l, .slice A1 ps.length c1] 26)))
  go_loop [3, 5] (fun n i => ∃ j : Nat, j ≤ ps.length ∧ i = .int .i64 j ∧ n = .int .i64 ((14 + sizeT (ps.take j) : Nat) : Int)) (fun _ i => ps.length - (intOf i).toNat)
  case atStart => exact ⟨0, Nat.zero_le _, rfl, rfl⟩
  case round =>
    obtain ⟨j, hj, rfl, rfl⟩ := hrel
    have hb := Small.take Hp.out j
    rcases Nat.lt_or_ge j ps.length with hlt | hge
    · obtain ⟨ad, rfl, _, hcell⟩ := HA.out.get (k := j) (by simpa using hlt)
      rw [List.getElem_map] at hcell
      have hsz : (ps[j]).size ≤ 1000000 := Hp.out.2 _ (List.getElem_mem hlt)
      have Hn := Lib.hid (sizeT_take_succ ps j hlt)
      obtain ⟨s, hs⟩ : ∃ s, s = ps[j] := ⟨_, rfl⟩
      rw [← hs] at hsz Hn hcell
      clear hs
      obtain ⟨t, ht⟩ : ∃ t, t = sizeT (ps.take j) := ⟨_, rfl⟩
      rw [← ht] at Hn hb ⊢
      clear ht
      go_wp2
      go_round
      case rel => exact ⟨j + 1, by omega, by go_num, by rw [Hn.out]; go_num⟩
      case measure => simp [intOf]; omega
    · obtain rfl : j = ps.length := by omega
      go_wp2
      go_ret
      exact ⟨ret_int (by rw [sizeL, ← Hps.out]; omega), X1.out.alloc _⟩
end Go.Proofs.Ytkkldciofndedaa
