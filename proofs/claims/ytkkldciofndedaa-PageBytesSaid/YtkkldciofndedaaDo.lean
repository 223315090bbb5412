/- page.Do. -/
import Derived.Test.YtkkldciofndedaaAlg
namespace Go.Proofs.Ytkkldciofndedaa
open Go.RowKit
set_option linter.unusedVariables false

theorem three_cells {w w1 : World} {a b c : Array Value} {s t u : TypeId} (h : Ext (((w.alloc (.cells a s)).alloc (.cells b t)).alloc (.cells c u)) w1) :
    Blk w1 w.heap.size s a ∧ Blk w1 (w.heap.size + 1) t b ∧ Blk w1 (w.heap.size + 1 + 1) u c :=
  ⟨(((Blk.new' rfl).alloc _).alloc _).ext h, ((Blk.new' (by simp)).alloc _).ext h, (Blk.new' (by simp)).ext h⟩

def doLsn (k l : Int) (ss : List ByteArray) (slot : Int) (s : ByteArray) (lsn : Int) : Int := if putErr k l ss slot s = 0 then lsn else 0

theorem do_end {w w2 : World} {A2 : Option Addr} {c2 : Nat} {I : List ByteArray} {er : Int} {z0 z1 z2 : Value} (ho : w2.ownsRow w.heap.size 9 1 (.slice A2 I.length c2) I.length (I.map Value.string))
    (hb : Blk w2 (w.heap.size + 1 + 1) 26 #[z0, z1, z2]) (hx : Ext w w2) (k l : Int) (A : Option Addr) (m c : Nat) (o : Obj) :
    PgPost k l I er w (.returned (.tuple #[.agg #[.int .i64 k, .int .i64 l, .slice A2 I.length c2], .int .i64 er]))
      ((((w2.setCell ⟨w.heap.size + 1 + 1, 0, none⟩ (.int .i64 k)).setCell ⟨w.heap.size + 1 + 1, 1, none⟩ (.int .i64 l)).setCell ⟨w.heap.size + 1 + 1, 2, none⟩ (.slice A m c)).alloc o) := by
  have hne := own_ne ho hb (by decide)
  exact ⟨A2, c2, rfl, own_ext (own_set (own_set (own_set ho hne 0 _) hne 1 _) hne 2 _) ((Ext.refl _).alloc _), (((hx.set (by simp; omega) _).set (by simp; omega) _).set (by simp; omega) _).alloc _⟩

set_option maxRecDepth 100000 in
set_option maxHeartbeats 2000000 in
theorem do_right (k l : Int) (A : Option Addr) (n c : Nat) (ss : List ByteArray) (pg slot : Int) (s : ByteArray) (lsn : Int) (w : World) (hn : n = ss.length) (h : At w A (ss.map Value.string)) (hr : rightB k l ss = true) (hss : s.size ≤ 9223372036854775807)
    (hl : 0 ≤ lsn ∧ lsn ≤ 2147483647) (hsl : slot ≠ -1) :
    Calls Try.prog 21 #[.agg #[.int .i64 k, .int .i64 l, .slice A n c], .agg #[.int .i64 pg, .int .i64 slot, .string s], .int .i64 lsn] w
      (PgPost (putKind k l ss slot s) (doLsn k l ss slot s lsn) (putItems k l ss slot s) (putErr k l ss slot s) w) := by
  subst hn
  have H := Lib.hid h; clear h
  have HR := Lib.hid hr; clear hr
  have HS := Lib.hid (right_small HR.out)
  have X0 := Lib.hid ((((Ext.refl w).alloc (.cells #[.int .i64 k, .int .i64 l, .slice A ss.length c] 26)).alloc (.cells #[.int .i64 pg, .int .i64 slot, .string s] 41)).alloc (.cells #[.int .i64 0, .int .i64 0, .slice none 0 0] 26))
  obtain ⟨hl0, hl1⟩ := hl
  have hsb : (slot == -1) = false := by simpa using hsl
  clear hsl
  go_enter Try.func21, Try.ntmps21
  go_wp2_with fail
  refine (right_any _ _ _ _ _ _ (H.out.ext X0.out) HS.out).mono ?_
  rw [HR.out]
  rintro e w1 ⟨rfl, hx⟩
  obtain ⟨b3, b4, b6⟩ := three_cells hx
  have B6 := Lib.hid b6
  have X1 := Lib.hid (X0.out.trans hx)
  have p0 : w1.cell? ⟨w.heap.size, 0, none⟩ = some (.int .i64 k) := b3.cell 0
  have p1 : w1.cell? ⟨w.heap.size, 1, none⟩ = some (.int .i64 l) := b3.cell 1
  have p2 : w1.cell? ⟨w.heap.size, 2, none⟩ = some (.slice A ss.length c) := b3.cell 2
  have q0 : w1.cell? ⟨w.heap.size + 1, 0, none⟩ = some (.int .i64 pg) := b4.cell 0
  have q1 : w1.cell? ⟨w.heap.size + 1, 1, none⟩ = some (.int .i64 slot) := b4.cell 1
  have q2 : w1.cell? ⟨w.heap.size + 1, 2, none⟩ = some (.string s) := b4.cell 2
  clear hx b3 b4 b6
  go_wp2_with fail
  refine (put_any _ _ _ _ _ _ _ _ _ rfl (H.out.ext X1.out) HS.out hss).mono ?_
  rw [put_eq]
  rintro e w2 ⟨A2, c2, rfl, hown, hx⟩
  have C6 := Lib.hid ((B6.out.ext hx).alloc (.cells #[.int .i64 (putKind k l ss slot s), .int .i64 (putLsn k l ss slot s), .slice A2 (putItems k l ss slot s).length c2] 26))
  have D6 := Lib.hid (B6.out.ext hx)
  have X2 := Lib.hid (X1.out.trans hx)
  have Hown := Lib.hid (own_mono hown X1.out.size)
  clear hx hown p0 p1 p2 q0 q1 q2 B6 X1
  have q0 : w2.cell? ⟨w.heap.size + 1 + 1, 0, none⟩ = some (.int .i64 0) := D6.out.cell 0
  have q1 : w2.cell? ⟨w.heap.size + 1 + 1, 1, none⟩ = some (.int .i64 0) := D6.out.cell 1
  have q2 : w2.cell? ⟨w.heap.size + 1 + 1, 2, none⟩ = some (.slice none 0 0) := D6.out.cell 2
  have f0 := D6.out.frozen 0
  have f1 := D6.out.frozen 1
  have f2 := D6.out.frozen 2
  have hz6 := D6.out.lt
  by_cases he : putErr k l ss slot s = 0
  · have e1 : putKind k l ss slot s = k := by rw [putKind, if_pos he]
    have e2 : putLsn k l ss slot s = l := by rw [putLsn, if_pos he]
    obtain ⟨I, hI⟩ : ∃ x, x = putItems k l ss slot s := ⟨_, rfl⟩
    have e3 : doLsn k l ss slot s lsn = lsn := by rw [doLsn, if_pos he]
    rw [he, e1, e2, e3, ← hI]
    rw [← hI] at Hown
    have E := Lib.hid (And.intro e1 (And.intro e3 (And.intro hI he)))
    clear he e1 e2 e3 hI C6
    go_must (go_wp2)
    refine bodyPost_ret (v := .tuple #[.agg #[.int .i64 k, .int .i64 lsn, .slice A2 I.length c2], .int .i64 0]) (by simp [results, Try.results21, go_sem, q0, q1, q2, hz6]) rfl ?_
    rw [E.out.1, E.out.2.1, ← E.out.2.2.1, E.out.2.2.2]
    exact do_end Hown.out D6.out X2.out k lsn A2 I.length c2 _
  · obtain ⟨q, hq⟩ : ∃ q, q = putErr k l ss slot s := ⟨_, rfl⟩
    have e1 : putKind k l ss slot s = 0 := by rw [putKind, if_neg he]
    have e2 : putLsn k l ss slot s = 0 := by rw [putLsn, if_neg he]
    have e3 : doLsn k l ss slot s lsn = 0 := by rw [doLsn, if_neg he]
    obtain ⟨I, hI⟩ : ∃ x, x = putItems k l ss slot s := ⟨_, rfl⟩
    rw [← hq] at he
    rw [e1, e2, ← hq, ← hI]
    rw [← hI] at Hown
    have E := Lib.hid (And.intro e1 (And.intro e3 (And.intro hI hq)))
    have hqb : (q == 0) = false := by simpa using he
    clear he e1 e2 e3 hI hq C6
    go_must (go_wp2)
    refine bodyPost_ret (v := .tuple #[.agg #[.int .i64 0, .int .i64 0, .slice A2 I.length c2], .int .i64 q]) (by simp [results, Try.results21, go_sem, q0, q1, q2, hz6]) rfl ?_
    rw [E.out.1, E.out.2.1, ← E.out.2.2.1, ← E.out.2.2.2]
    exact do_end Hown.out D6.out X2.out 0 0 A2 I.length c2 _
end Go.Proofs.Ytkkldciofndedaa
