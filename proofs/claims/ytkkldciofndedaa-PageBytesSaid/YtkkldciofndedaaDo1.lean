/- page.Do: the ways that hand back no items. -/
import Derived.Test.YtkkldciofndedaaDo
namespace Go.Proofs.Ytkkldciofndedaa
open Go.RowKit
set_option linter.unusedVariables false

theorem do_none {w w2 : World} {er : Int} {z0 z1 z2 : Value} (hb : Blk w2 (w.heap.size + 1 + 1) 26 #[z0, z1, z2]) (hx : Ext w w2) (k l : Int) :
    PgPost k l [] er w (.returned (.tuple #[.agg #[.int .i64 k, .int .i64 l, .slice none 0 0], .int .i64 er]))
      (((w2.setCell ⟨w.heap.size + 1 + 1, 0, none⟩ (.int .i64 k)).setCell ⟨w.heap.size + 1 + 1, 1, none⟩ (.int .i64 l)).setCell ⟨w.heap.size + 1 + 1, 2, none⟩ (.slice none 0 0)) :=
  ⟨none, 0, rfl, World.ownsRow_nil _ _ _ _, ((hx.set (by simp; omega) _).set (by simp; omega) _).set (by simp; omega) _⟩

set_option maxRecDepth 100000 in
set_option maxHeartbeats 2000000 in
theorem do_kind_ok (k l : Int) (A : Option Addr) (n c : Nat) (ss : List ByteArray) (pg : Int) (s : ByteArray) (lsn : Int) (w : World) (hn : n = ss.length) (h : At w A (ss.map Value.string)) (hsm : Small ss) (hr : rightB k l ss = true)
    (hl : 0 ≤ lsn ∧ lsn ≤ 2147483647) (hs1 : s.size = 1) (hb : (s[0]'(by omega)).toNat ≤ 2) :
    Calls Try.prog 21 #[.agg #[.int .i64 k, .int .i64 l, .slice A n c], .agg #[.int .i64 pg, .int .i64 (-1), .string s], .int .i64 lsn] w (PgPost ((s[0]'(by omega)).toNat : Nat) lsn [] 0 w) := by
  subst hn
  have H := Lib.hid h; clear h
  have HR := Lib.hid hr; clear hr
  have HS := Lib.hid hsm; clear hsm
  have X0 := Lib.hid ((((Ext.refl w).alloc (.cells #[.int .i64 k, .int .i64 l, .slice A ss.length c] 26)).alloc (.cells #[.int .i64 pg, .int .i64 (-1), .string s] 41)).alloc (.cells #[.int .i64 0, .int .i64 0, .slice none 0 0] 26))
  obtain ⟨hl0, hl1⟩ := hl
  obtain ⟨b, hbe⟩ : ∃ b, b = (s[0]'(by omega)).toNat := ⟨_, rfl⟩
  rw [← hbe] at hb ⊢
  have hbi : ¬ (2 < (b : Int)) := by omega
  have hbe' : (s[0]'(by omega)).toNat = b := hbe.symm
  clear hbe hb
  go_enter Try.func21, Try.ntmps21
  go_wp2_with fail
  refine (right_any _ _ _ _ _ _ (H.out.ext X0.out) HS.out).mono ?_
  rw [HR.out]
  rintro e w1 ⟨rfl, hx⟩
  obtain ⟨b3, b4, b6⟩ := three_cells hx
  have B6 := Lib.hid b6
  have X1 := Lib.hid (X0.out.trans hx)
  have q0 : w1.cell? ⟨w.heap.size + 1, 0, none⟩ = some (.int .i64 pg) := b4.cell 0
  have q1 : w1.cell? ⟨w.heap.size + 1, 1, none⟩ = some (.int .i64 (-1)) := b4.cell 1
  have q2 : w1.cell? ⟨w.heap.size + 1, 2, none⟩ = some (.string s) := b4.cell 2
  have g0 : w1.cell? ⟨w.heap.size + 1 + 1, 0, none⟩ = some (.int .i64 0) := b6.cell 0
  have g1 : w1.cell? ⟨w.heap.size + 1 + 1, 1, none⟩ = some (.int .i64 0) := b6.cell 1
  have g2 : w1.cell? ⟨w.heap.size + 1 + 1, 2, none⟩ = some (.slice none 0 0) := b6.cell 2
  have f0 := b6.frozen 0
  have f1 := b6.frozen 1
  have f2 := b6.frozen 2
  clear hx b3 b4 b6
  go_wp2
  refine bodyPost_ret (v := .tuple #[.agg #[.int .i64 b, .int .i64 lsn, .slice none 0 0], .int .i64 0]) (by simp [results, Try.results21, go_sem, g0, g1, g2]) rfl ?_
  exact do_none B6.out X1.out b lsn

set_option maxRecDepth 100000 in
set_option maxHeartbeats 2000000 in
theorem do_kind_bad (k l : Int) (A : Option Addr) (n c : Nat) (ss : List ByteArray) (pg : Int) (s : ByteArray) (lsn : Int) (w : World) (hn : n = ss.length) (h : At w A (ss.map Value.string)) (hsm : Small ss) (hr : rightB k l ss = true)
    (hl : 0 ≤ lsn ∧ lsn ≤ 2147483647) (hs1 : s.size = 1) (hb : 2 < (s[0]'(by omega)).toNat) :
    Calls Try.prog 21 #[.agg #[.int .i64 k, .int .i64 l, .slice A n c], .agg #[.int .i64 pg, .int .i64 (-1), .string s], .int .i64 lsn] w (PgPost 0 0 [] 21 w) := by
  subst hn
  have H := Lib.hid h; clear h
  have HR := Lib.hid hr; clear hr
  have HS := Lib.hid hsm; clear hsm
  have X0 := Lib.hid ((((Ext.refl w).alloc (.cells #[.int .i64 k, .int .i64 l, .slice A ss.length c] 26)).alloc (.cells #[.int .i64 pg, .int .i64 (-1), .string s] 41)).alloc (.cells #[.int .i64 0, .int .i64 0, .slice none 0 0] 26))
  obtain ⟨hl0, hl1⟩ := hl
  obtain ⟨b, hbe⟩ : ∃ b, b = (s[0]'(by omega)).toNat := ⟨_, rfl⟩
  rw [← hbe] at hb
  have hbi : (2 < (b : Int)) := by omega
  have hbe' : (s[0]'(by omega)).toNat = b := hbe.symm
  clear hbe hb
  go_enter Try.func21, Try.ntmps21
  go_wp2_with fail
  refine (right_any _ _ _ _ _ _ (H.out.ext X0.out) HS.out).mono ?_
  rw [HR.out]
  rintro e w1 ⟨rfl, hx⟩
  obtain ⟨b3, b4, b6⟩ := three_cells hx
  have B6 := Lib.hid b6
  have X1 := Lib.hid (X0.out.trans hx)
  have q0 : w1.cell? ⟨w.heap.size + 1, 0, none⟩ = some (.int .i64 pg) := b4.cell 0
  have q1 : w1.cell? ⟨w.heap.size + 1, 1, none⟩ = some (.int .i64 (-1)) := b4.cell 1
  have q2 : w1.cell? ⟨w.heap.size + 1, 2, none⟩ = some (.string s) := b4.cell 2
  have g0 : w1.cell? ⟨w.heap.size + 1 + 1, 0, none⟩ = some (.int .i64 0) := b6.cell 0
  have g1 : w1.cell? ⟨w.heap.size + 1 + 1, 1, none⟩ = some (.int .i64 0) := b6.cell 1
  have g2 : w1.cell? ⟨w.heap.size + 1 + 1, 2, none⟩ = some (.slice none 0 0) := b6.cell 2
  have f0 := b6.frozen 0
  have f1 := b6.frozen 1
  have f2 := b6.frozen 2
  clear hx b3 b4 b6
  go_wp2
  refine bodyPost_ret (v := .tuple #[.agg #[.int .i64 0, .int .i64 0, .slice none 0 0], .int .i64 21]) (by simp [results, Try.results21, go_sem, g0, g1, g2]) rfl ?_
  exact do_none B6.out X1.out 0 0

set_option maxRecDepth 100000 in
set_option maxHeartbeats 2000000 in
theorem do_kind_len (k l : Int) (A : Option Addr) (n c : Nat) (ss : List ByteArray) (pg : Int) (s : ByteArray) (lsn : Int) (w : World) (hn : n = ss.length) (h : At w A (ss.map Value.string)) (hsm : Small ss) (hr : rightB k l ss = true)
    (hl : 0 ≤ lsn ∧ lsn ≤ 2147483647) (hs1 : ¬ s.size = 1) :
    Calls Try.prog 21 #[.agg #[.int .i64 k, .int .i64 l, .slice A n c], .agg #[.int .i64 pg, .int .i64 (-1), .string s], .int .i64 lsn] w (PgPost 0 0 [] 21 w) := by
  subst hn
  have H := Lib.hid h; clear h
  have HR := Lib.hid hr; clear hr
  have HS := Lib.hid hsm; clear hsm
  have X0 := Lib.hid ((((Ext.refl w).alloc (.cells #[.int .i64 k, .int .i64 l, .slice A ss.length c] 26)).alloc (.cells #[.int .i64 pg, .int .i64 (-1), .string s] 41)).alloc (.cells #[.int .i64 0, .int .i64 0, .slice none 0 0] 26))
  obtain ⟨hl0, hl1⟩ := hl
  have hb : ((s.size : Int) != 1) = true := by simp; omega
  clear hs1
  go_enter Try.func21, Try.ntmps21
  go_wp2_with fail
  refine (right_any _ _ _ _ _ _ (H.out.ext X0.out) HS.out).mono ?_
  rw [HR.out]
  rintro e w1 ⟨rfl, hx⟩
  obtain ⟨b3, b4, b6⟩ := three_cells hx
  have B6 := Lib.hid b6
  have X1 := Lib.hid (X0.out.trans hx)
  have q0 : w1.cell? ⟨w.heap.size + 1, 0, none⟩ = some (.int .i64 pg) := b4.cell 0
  have q1 : w1.cell? ⟨w.heap.size + 1, 1, none⟩ = some (.int .i64 (-1)) := b4.cell 1
  have q2 : w1.cell? ⟨w.heap.size + 1, 2, none⟩ = some (.string s) := b4.cell 2
  have g0 : w1.cell? ⟨w.heap.size + 1 + 1, 0, none⟩ = some (.int .i64 0) := b6.cell 0
  have g1 : w1.cell? ⟨w.heap.size + 1 + 1, 1, none⟩ = some (.int .i64 0) := b6.cell 1
  have g2 : w1.cell? ⟨w.heap.size + 1 + 1, 2, none⟩ = some (.slice none 0 0) := b6.cell 2
  have f0 := b6.frozen 0
  have f1 := b6.frozen 1
  have f2 := b6.frozen 2
  clear hx b3 b4 b6
  go_wp2
  refine bodyPost_ret (v := .tuple #[.agg #[.int .i64 0, .int .i64 0, .slice none 0 0], .int .i64 21]) (by simp [results, Try.results21, go_sem, g0, g1, g2]) rfl ?_
  exact do_none B6.out X1.out 0 0

set_option maxRecDepth 100000 in
set_option maxHeartbeats 2000000 in
theorem do_lsn_low (k l : Int) (A : Option Addr) (n c : Nat) (ss : List ByteArray) (pg slot : Int) (s : ByteArray) (lsn : Int) (w : World) (hn : n = ss.length) (h : At w A (ss.map Value.string)) (hsm : Small ss) (hr : rightB k l ss = true)
    (hl : lsn < 0) :
    Calls Try.prog 21 #[.agg #[.int .i64 k, .int .i64 l, .slice A n c], .agg #[.int .i64 pg, .int .i64 slot, .string s], .int .i64 lsn] w (PgPost 0 0 [] 1 w) := by
  subst hn
  have H := Lib.hid h; clear h
  have HR := Lib.hid hr; clear hr
  have HS := Lib.hid hsm; clear hsm
  have X0 := Lib.hid ((((Ext.refl w).alloc (.cells #[.int .i64 k, .int .i64 l, .slice A ss.length c] 26)).alloc (.cells #[.int .i64 pg, .int .i64 slot, .string s] 41)).alloc (.cells #[.int .i64 0, .int .i64 0, .slice none 0 0] 26))
  go_enter Try.func21, Try.ntmps21
  go_wp2_with fail
  refine (right_any _ _ _ _ _ _ (H.out.ext X0.out) HS.out).mono ?_
  rw [HR.out]
  rintro e w1 ⟨rfl, hx⟩
  obtain ⟨b3, b4, b6⟩ := three_cells hx
  have B6 := Lib.hid b6
  have X1 := Lib.hid (X0.out.trans hx)
  have q0 : w1.cell? ⟨w.heap.size + 1, 0, none⟩ = some (.int .i64 pg) := b4.cell 0
  have q1 : w1.cell? ⟨w.heap.size + 1, 1, none⟩ = some (.int .i64 slot) := b4.cell 1
  have q2 : w1.cell? ⟨w.heap.size + 1, 2, none⟩ = some (.string s) := b4.cell 2
  have g0 : w1.cell? ⟨w.heap.size + 1 + 1, 0, none⟩ = some (.int .i64 0) := b6.cell 0
  have g1 : w1.cell? ⟨w.heap.size + 1 + 1, 1, none⟩ = some (.int .i64 0) := b6.cell 1
  have g2 : w1.cell? ⟨w.heap.size + 1 + 1, 2, none⟩ = some (.slice none 0 0) := b6.cell 2
  have f0 := b6.frozen 0
  have f1 := b6.frozen 1
  have f2 := b6.frozen 2
  clear hx b3 b4 b6
  go_wp2
  refine bodyPost_ret (v := .tuple #[.agg #[.int .i64 0, .int .i64 0, .slice none 0 0], .int .i64 1]) (by simp [results, Try.results21, go_sem, g0, g1, g2]) rfl ?_
  exact do_none B6.out X1.out 0 0

set_option maxRecDepth 100000 in
set_option maxHeartbeats 2000000 in
theorem do_lsn_high (k l : Int) (A : Option Addr) (n c : Nat) (ss : List ByteArray) (pg slot : Int) (s : ByteArray) (lsn : Int) (w : World) (hn : n = ss.length) (h : At w A (ss.map Value.string)) (hsm : Small ss) (hr : rightB k l ss = true)
    (hl : 2147483647 < lsn) :
    Calls Try.prog 21 #[.agg #[.int .i64 k, .int .i64 l, .slice A n c], .agg #[.int .i64 pg, .int .i64 slot, .string s], .int .i64 lsn] w (PgPost 0 0 [] 1 w) := by
  subst hn
  have H := Lib.hid h; clear h
  have HR := Lib.hid hr; clear hr
  have HS := Lib.hid hsm; clear hsm
  have X0 := Lib.hid ((((Ext.refl w).alloc (.cells #[.int .i64 k, .int .i64 l, .slice A ss.length c] 26)).alloc (.cells #[.int .i64 pg, .int .i64 slot, .string s] 41)).alloc (.cells #[.int .i64 0, .int .i64 0, .slice none 0 0] 26))
  have hl0 : ¬ lsn < 0 := by omega
  go_enter Try.func21, Try.ntmps21
  go_wp2_with fail
  refine (right_any _ _ _ _ _ _ (H.out.ext X0.out) HS.out).mono ?_
  rw [HR.out]
  rintro e w1 ⟨rfl, hx⟩
  obtain ⟨b3, b4, b6⟩ := three_cells hx
  have B6 := Lib.hid b6
  have X1 := Lib.hid (X0.out.trans hx)
  have q0 : w1.cell? ⟨w.heap.size + 1, 0, none⟩ = some (.int .i64 pg) := b4.cell 0
  have q1 : w1.cell? ⟨w.heap.size + 1, 1, none⟩ = some (.int .i64 slot) := b4.cell 1
  have q2 : w1.cell? ⟨w.heap.size + 1, 2, none⟩ = some (.string s) := b4.cell 2
  have g0 : w1.cell? ⟨w.heap.size + 1 + 1, 0, none⟩ = some (.int .i64 0) := b6.cell 0
  have g1 : w1.cell? ⟨w.heap.size + 1 + 1, 1, none⟩ = some (.int .i64 0) := b6.cell 1
  have g2 : w1.cell? ⟨w.heap.size + 1 + 1, 2, none⟩ = some (.slice none 0 0) := b6.cell 2
  have f0 := b6.frozen 0
  have f1 := b6.frozen 1
  have f2 := b6.frozen 2
  clear hx b3 b4 b6
  go_wp2
  refine bodyPost_ret (v := .tuple #[.agg #[.int .i64 0, .int .i64 0, .slice none 0 0], .int .i64 1]) (by simp [results, Try.results21, go_sem, g0, g1, g2]) rfl ?_
  exact do_none B6.out X1.out 0 0

set_option maxRecDepth 100000 in
set_option maxHeartbeats 2000000 in
theorem do_not (k l : Int) (A : Option Addr) (n c : Nat) (ss : List ByteArray) (pg slot : Int) (s : ByteArray) (lsn : Int) (w : World) (hn : n = ss.length) (h : At w A (ss.map Value.string)) (hsm : Small ss) (hr : rightB k l ss = false)
     :
    Calls Try.prog 21 #[.agg #[.int .i64 k, .int .i64 l, .slice A n c], .agg #[.int .i64 pg, .int .i64 slot, .string s], .int .i64 lsn] w (PgPost 0 0 [] 22 w) := by
  subst hn
  have H := Lib.hid h; clear h
  have HR := Lib.hid hr; clear hr
  have HS := Lib.hid hsm; clear hsm
  have X0 := Lib.hid ((((Ext.refl w).alloc (.cells #[.int .i64 k, .int .i64 l, .slice A ss.length c] 26)).alloc (.cells #[.int .i64 pg, .int .i64 slot, .string s] 41)).alloc (.cells #[.int .i64 0, .int .i64 0, .slice none 0 0] 26))
  go_enter Try.func21, Try.ntmps21
  go_wp2_with fail
  refine (right_any _ _ _ _ _ _ (H.out.ext X0.out) HS.out).mono ?_
  rw [HR.out]
  rintro e w1 ⟨rfl, hx⟩
  obtain ⟨b3, b4, b6⟩ := three_cells hx
  have B6 := Lib.hid b6
  have X1 := Lib.hid (X0.out.trans hx)
  have g0 : w1.cell? ⟨w.heap.size + 1 + 1, 0, none⟩ = some (.int .i64 0) := b6.cell 0
  have g1 : w1.cell? ⟨w.heap.size + 1 + 1, 1, none⟩ = some (.int .i64 0) := b6.cell 1
  have g2 : w1.cell? ⟨w.heap.size + 1 + 1, 2, none⟩ = some (.slice none 0 0) := b6.cell 2
  have f0 := b6.frozen 0
  have f1 := b6.frozen 1
  have f2 := b6.frozen 2
  clear hx b3 b4 b6
  go_wp2
  refine bodyPost_ret (v := .tuple #[.agg #[.int .i64 0, .int .i64 0, .slice none 0 0], .int .i64 22]) (by simp [results, Try.results21, go_sem, g0, g1, g2]) rfl ?_
  exact do_none B6.out X1.out 0 0

end Go.Proofs.Ytkkldciofndedaa
