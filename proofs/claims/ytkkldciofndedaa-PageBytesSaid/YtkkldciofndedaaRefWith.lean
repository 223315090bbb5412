/- the reference's with. -/
import Derived.Test.YtkkldciofndedaaRefFree
import Derived.Test.YtkkldciofndedaaBlk
namespace Go.Proofs.Ytkkldciofndedaa
open Go.RowKit

theorem rplain_n (k l : Int) (A : Option Addr) (n c : Nat) (ss : List ByteArray) (w : World) (hn : n = ss.length) (h : At w A (ss.map Value.string)) (hl : ss.length ≤ 100000) (hc : n ≤ c) :
    Calls Try.prog 55 #[.agg #[.int .i64 k, .int .i64 l, .slice A n c]] w (PgOne k l (plainL ss) w) := by
  subst hn; exact rplain_any k l A c ss w h hl hc
def WithRel (pl : List ByteArray) (K : Nat) (k l : Int) (B base : Nat) (W0 wr : World) : Prop :=
  ∃ m A c, Blk wr B 26 #[.int .i64 k, .int .i64 l, .slice A m c] ∧ pl.length ≤ m ∧ (m ≤ pl.length ∨ m ≤ K + 1) ∧
    wr.ownsRow base 9 1 (.slice A m c) m ((pl ++ List.replicate (m - pl.length) ByteArray.empty).map Value.string) ∧ Ext W0 wr
def padLeft (w : World) (B K : Nat) : Nat := match w.cell? ⟨B, 2, none⟩ with | some (.slice _ n _) => K + 1 - n | _ => 0

set_option maxRecDepth 100000 in
set_option maxHeartbeats 2000000 in
theorem rwith_any (k l : Int) (A : Option Addr) (n c : Nat) (ss : List ByteArray) (K : Nat) (s : ByteArray) (w : World) (hn : n = ss.length) (h : At w A (ss.map Value.string)) (hs : Small ss) (hc : n ≤ c) (hK : K < 24) :
    Calls Try.prog 44 #[.agg #[.int .i64 k, .int .i64 l, .slice A n c], .int .i64 K, .string s] w (PgOne k l (plainL (withL ss K s)) w) := by
  subst hn
  have H := Lib.hid h; clear h
  have hp24 := (Small.plain hs).1
  have hl := hs.1
  have HS := Lib.hid hs; clear hs
  obtain ⟨i0, hi0, hz0, hz1, hz2⟩ := info_parts Try.infoStr
  have X0 := Lib.hid (((Ext.refl w).alloc (.cells #[.int .i64 k, .int .i64 l, .slice A ss.length c] 26)).alloc (.cells #[.int .i64 0, .int .i64 0, .slice none 0 0] 26))
  go_enter Try.func44, Try.ntmps44
  go_wp2_with (go_at_call 55; refine (rplain_any _ _ _ _ _ _ (H.out.ext X0.out) hl hc).mono ?_; rintro e w1 ⟨A1, c1, rfl, hown, hx⟩; have Hown := Lib.hid hown; have X1 := Lib.hid hx; have hzz := hx.two.2.2; clear hown hx)
  go_loopw [15] (fun _ wr => WithRel (plainL ss) K k l w1.heap.size (w.heap.size + 2) ((w.alloc (.cells #[.int .i64 k, .int .i64 l, .slice A ss.length c] 26)).alloc (.cells #[.int .i64 0, .int .i64 0, .slice none 0 0] 26)) wr) (fun _ wr => padLeft wr w1.heap.size K)
  case atStart => exact ⟨_, A1, c1, Blk.new _ _ _, Nat.le_refl _, .inl (Nat.le_refl _), by simpa using (own_mono (base' := w.heap.size + 2) Hown.out (by simp)).alloc _, X1.out.alloc _⟩
  case round =>
    obtain ⟨m, A', c', hblk, hm1, hm2, hown, hx⟩ := hrel
    have Hw := Lib.hid hown
    have XR := Lib.hid hx
    have HB := Lib.hid hblk
    have b0 : wr.cell? ⟨w1.heap.size, 0, none⟩ = some (.int .i64 k) := hblk.cell 0
    have b1 : wr.cell? ⟨w1.heap.size, 1, none⟩ = some (.int .i64 l) := hblk.cell 1
    have b2 : wr.cell? ⟨w1.heap.size, 2, none⟩ = some (.slice A' m c') := hblk.cell 2
    have e2 := hblk.frozen 2
    have hbz := hblk.lt
    clear hown hx hblk
    rcases Nat.lt_or_ge K m with hlt | hge
    · obtain ⟨g, rfl, hg1, hg2⟩ := own_pos Hw.out (by omega)
      have hme : m = (withL ss K s).length := by simp [withL, padTo]; omega
      have ho := (At.of_own Hw.out).get0 (k := K) (by simp; omega)
      have hfz := Hw.out.frozenAt (xs := (plainL ss ++ List.replicate (m - (plainL ss).length) ByteArray.empty).map Value.string) K
      have hwl : (withL ss K s).length ≤ 100000 := by omega
      have hst := with_stored (s := s) Hw.out hm1 hm2 hlt
      generalize ((plainL ss ++ List.replicate (m - (plainL ss).length) ByteArray.empty).map Value.string)[K]'(by simp; omega) = ov at ho
      obtain ⟨cur, hcur, _⟩ := own_blk Hw.out
      have hne := hcur.ne_ HB.out (by decide)
      have HB2 := Lib.hid (HB.out.far (p := ⟨g, K, none⟩) hne.symm (.string s))
      have Hst := Lib.hid hst
      have Hme := Lib.hid hme
      have Hcap := Lib.hid (own_cap Hw.out)
      clear hst hme hcur
      go_wp2_with (go_at_call 55; refine (rplain_n _ _ _ _ _ _ _ Hme.out (At.of_own Hst.out) hwl Hcap.out).mono ?_; rintro e w3 ⟨A3, c3, rfl, hown, hx⟩; have hx3 := (XR.out.set (p := ⟨g, K, none⟩) (by simpa only [World.size_alloc] using hg1) (.string s)).trans hx; have X3 := Lib.hid hx3; obtain ⟨_, _, q0, q1, q2, f0, f1, f2⟩ := put_held hx3; have Hown3 := Lib.hid hown; clear hown hx hx3)
      refine bodyPost_ret (v := .agg #[.int .i64 k, .int .i64 l, .slice A3 (plainL (withL ss K s)).length c3]) (by simp [results, Try.results44, go_sem, q0, q1, q2]) rfl ?_
      refine ⟨A3, c3, rfl, ?_, ((((X0.out.trans X3.out).set (by simp) _).set (by simp) _).set (by simp) _)⟩
      have hz : w.heap.size + 1 < (wr.setCell ⟨g, K, none⟩ (.string s)).heap.size := by have := XR.out.size2; simp only [World.setCell, Array.size_modify]; omega
      exact own_mono (ownsRow_setCell_below (ownsRow_setCell_below (ownsRow_setCell_below Hown3.out hz _) hz _) hz _) (by omega)
    · go_wp2_with (at_builtin; go_must (refine wpl_append _ rfl (.tmp 16) (.tmp 17) 22 rfl (w.heap.size + 2) 9 i0 _ 16 Try.underlying22 hi0 hz0 hz1 hz2 rfl _ _ _ rfl (Hw.out.alloc _) (some ⟨wr.heap.size, 0, none⟩) 1 1 [.string ⟨#[]⟩] rfl rfl (At.one_new _ _ _) (by intro u hu; simp at hu; subst hu; rfl) (by simp only [maxLen]; omega) (by omega) (by have := XR.out.size2; simp only [World.size_alloc]; omega) ?_; intro v' w4 hown' hg' _; obtain ⟨A4, c4, rfl, _⟩ := own_form hown'; have hn4 := own_ne (Hw.out.alloc (.cells #[.string ⟨#[]⟩] 9)) (HB.out.alloc (.cells #[.string ⟨#[]⟩] 9)) (by decide); have hb4 := (HB.out.alloc (.cells #[.string ⟨#[]⟩] 9)).grown hg' hn4; have r2 : w4.cell? ⟨w1.heap.size, 2, none⟩ = some (.slice A' m c') := hb4.cell 2; have g2 := hb4.frozen 2; have HO := Lib.hid hown'; have HG := Lib.hid hg'; have HB4 := Lib.hid hb4; clear hown' hg' hb4 hn4))
      go_roundw
      case rel => exact ⟨m + 1, A4, c4, HB4.out.set_ 2 _, by omega, .inr (by omega), own_set (pad_step rfl HO.out hm1) (own_ne HO.out HB4.out (by decide)) 2 _, ((XR.out.alloc _).grown HG.out (fun k hk => by have := own_block Hw.out k hk; simpa only [World.size_alloc] using this)).set (by have := X1.out.size2; simp only [World.size_alloc]; omega) _⟩
      case measure =>
        have r3 : (w4.setCell ⟨w1.heap.size, 2, none⟩ (.slice A4 (m + 1) c4)).cell? ⟨w1.heap.size, 2, none⟩ = some (.slice A4 (m + 1) c4) := (HB4.out.set_ 2 _).cell 2
        simp only [padLeft, r3, b2]
        omega
end Go.Proofs.Ytkkldciofndedaa
