/- the reference's Do. -/
import Derived.Test.YtkkldciofndedaaDo1
import Derived.Test.YtkkldciofndedaaMade
namespace Go.Proofs.Ytkkldciofndedaa
open Go.RowKit
set_option linter.unusedVariables false

theorem rdo_none {w w2 : World} {er : Int} {z0 z1 z2 z3 : Value} (hb : Blk w2 (w.heap.size + 1 + 1) 49 #[z0, z1, z2, z3]) (hx : Ext w w2) (k l : Int) :
    GotPost k l [] er w (.returned (.agg #[.int .i64 k, .int .i64 l, .slice none 0 0, .int .i64 er]))
      ((((w2.setCell ⟨w.heap.size + 1 + 1, 0, none⟩ (.int .i64 k)).setCell ⟨w.heap.size + 1 + 1, 1, none⟩ (.int .i64 l)).setCell ⟨w.heap.size + 1 + 1, 2, none⟩ (.slice none 0 0)).setCell ⟨w.heap.size + 1 + 1, 3, none⟩ (.int .i64 er)) :=
  ⟨none, 0, rfl, World.ownsRow_nil _ _ _ _, (((hx.set (by simp; omega) _).set (by simp; omega) _).set (by simp; omega) _).set (by simp; omega) _⟩
theorem rdo_end {w w2 : World} {A2 : Option Addr} {c2 : Nat} {I : List ByteArray} {z0 z1 z2 z3 : Value} (ho : w2.ownsRow w.heap.size 9 1 (.slice A2 I.length c2) I.length (I.map Value.string))
    (hb : Blk w2 (w.heap.size + 1 + 1) 49 #[z0, z1, z2, z3]) (hx : Ext w w2) (k l er : Int) (A : Option Addr) (m c : Nat) (o : Obj) :
    GotPost k l I er w (.returned (.agg #[.int .i64 k, .int .i64 l, .slice A2 I.length c2, .int .i64 er]))
      (((((w2.setCell ⟨w.heap.size + 1 + 1, 0, none⟩ (.int .i64 k)).setCell ⟨w.heap.size + 1 + 1, 1, none⟩ (.int .i64 l)).setCell ⟨w.heap.size + 1 + 1, 2, none⟩ (.slice A m c)).setCell ⟨w.heap.size + 1 + 1, 3, none⟩ (.int .i64 er)).alloc o) := by
  have hne := own_ne ho hb (by decide)
  exact ⟨A2, c2, rfl, own_ext (own_set (own_set (own_set (own_set ho hne 0 _) hne 1 _) hne 2 _) hne 3 _) ((Ext.refl _).alloc _), ((((hx.set (by simp; omega) _).set (by simp; omega) _).set (by simp; omega) _).set (by simp; omega) _).alloc _⟩

set_option maxRecDepth 100000 in
set_option maxHeartbeats 2000000 in
theorem rdo_kind_ok (k l : Int) (A : Option Addr) (n c : Nat) (ss : List ByteArray) (pg : Int) (s : ByteArray) (lsn : Int) (w : World) (hn : n = ss.length) (hc : n ≤ c) (h : At w A (ss.map Value.string)) (hsm : Small ss) (hr : rightB k l ss = true)
    (hl : 0 ≤ lsn ∧ lsn ≤ 2147483647) (hs1 : s.size = 1) (hb : (s[0]'(by omega)).toNat ≤ 2) :
    Calls Try.prog 24 #[.agg #[.int .i64 k, .int .i64 l, .slice A n c], .agg #[.int .i64 pg, .int .i64 (-1), .string s], .int .i64 lsn] w (GotPost ((s[0]'(by omega)).toNat : Nat) lsn [] 0 w) := by
  subst hn
  have H := Lib.hid h; clear h
  have HR := Lib.hid hr; clear hr
  have HS := Lib.hid hsm; clear hsm
  have X0 := Lib.hid ((((Ext.refl w).alloc (.cells #[.int .i64 k, .int .i64 l, .slice A ss.length c] 26)).alloc (.cells #[.int .i64 pg, .int .i64 (-1), .string s] 41)).alloc (.cells #[.int .i64 0, .int .i64 0, .slice none 0 0, .int .i64 0] 49))
  obtain ⟨hl0, hl1⟩ := hl
  obtain ⟨b, hbe⟩ : ∃ b, b = (s[0]'(by omega)).toNat := ⟨_, rfl⟩
  rw [← hbe] at hb ⊢
  have hbi : ¬ (2 < (b : Int)) := by omega
  have hbe' : (s[0]'(by omega)).toNat = b := hbe.symm
  clear hbe hb
  go_enter Try.func24, Try.ntmps24
  go_wp2_with fail
  refine (rright_any _ _ _ _ _ _ _ rfl (H.out.ext X0.out) HS.out hc).mono ?_
  rw [HR.out]
  rintro e w1 ⟨rfl, hx⟩
  obtain ⟨b3, b4, b6⟩ := three_cells hx
  have B6 := Lib.hid b6
  have X1 := Lib.hid (X0.out.trans hx)
  have q0 : w1.cell? ⟨w.heap.size + 1, 0, none⟩ = some (.int .i64 pg) := b4.cell 0
  have q1 : w1.cell? ⟨w.heap.size + 1, 1, none⟩ = some (.int .i64 (-1)) := b4.cell 1
  have q2 : w1.cell? ⟨w.heap.size + 1, 2, none⟩ = some (.string s) := b4.cell 2
  have g0 : w1.cell? ⟨w.heap.size + 1 + 1, 0, none⟩ = some (.int .i64 0) := b6.cell 0
  have g1 : w1.cell? ⟨w.heap.size + 1 + 1, 1, none⟩ = some (.int .i64 0) := b6.cell 1
  have g2 : w1.cell? ⟨w.heap.size + 1 + 1, 2, none⟩ = some (.slice none 0 0) := b6.cell 2
  have g3 : w1.cell? ⟨w.heap.size + 1 + 1, 3, none⟩ = some (.int .i64 0) := b6.cell 3
  have f0 := b6.frozen 0
  have f1 := b6.frozen 1
  have f2 := b6.frozen 2
  have f3 := b6.frozen 3
  clear hx b3 b4 b6
  go_wp2
  refine bodyPost_ret (v := .agg #[.int .i64 b, .int .i64 lsn, .slice none 0 0, .int .i64 0]) (by simp [results, Try.results24, go_sem, g0, g1, g2, g3]) rfl ?_
  exact rdo_none B6.out X1.out b lsn

set_option maxRecDepth 100000 in
set_option maxHeartbeats 2000000 in
theorem rdo_kind_bad (k l : Int) (A : Option Addr) (n c : Nat) (ss : List ByteArray) (pg : Int) (s : ByteArray) (lsn : Int) (w : World) (hn : n = ss.length) (hc : n ≤ c) (h : At w A (ss.map Value.string)) (hsm : Small ss) (hr : rightB k l ss = true)
    (hl : 0 ≤ lsn ∧ lsn ≤ 2147483647) (hs1 : s.size = 1) (hb : 2 < (s[0]'(by omega)).toNat) :
    Calls Try.prog 24 #[.agg #[.int .i64 k, .int .i64 l, .slice A n c], .agg #[.int .i64 pg, .int .i64 (-1), .string s], .int .i64 lsn] w (GotPost 0 0 [] 21 w) := by
  subst hn
  have H := Lib.hid h; clear h
  have HR := Lib.hid hr; clear hr
  have HS := Lib.hid hsm; clear hsm
  have X0 := Lib.hid ((((Ext.refl w).alloc (.cells #[.int .i64 k, .int .i64 l, .slice A ss.length c] 26)).alloc (.cells #[.int .i64 pg, .int .i64 (-1), .string s] 41)).alloc (.cells #[.int .i64 0, .int .i64 0, .slice none 0 0, .int .i64 0] 49))
  obtain ⟨hl0, hl1⟩ := hl
  obtain ⟨b, hbe⟩ : ∃ b, b = (s[0]'(by omega)).toNat := ⟨_, rfl⟩
  rw [← hbe] at hb
  have hbi : (2 < (b : Int)) := by omega
  have hbe' : (s[0]'(by omega)).toNat = b := hbe.symm
  clear hbe hb
  go_enter Try.func24, Try.ntmps24
  go_wp2_with fail
  refine (rright_any _ _ _ _ _ _ _ rfl (H.out.ext X0.out) HS.out hc).mono ?_
  rw [HR.out]
  rintro e w1 ⟨rfl, hx⟩
  obtain ⟨b3, b4, b6⟩ := three_cells hx
  have B6 := Lib.hid b6
  have X1 := Lib.hid (X0.out.trans hx)
  have q0 : w1.cell? ⟨w.heap.size + 1, 0, none⟩ = some (.int .i64 pg) := b4.cell 0
  have q1 : w1.cell? ⟨w.heap.size + 1, 1, none⟩ = some (.int .i64 (-1)) := b4.cell 1
  have q2 : w1.cell? ⟨w.heap.size + 1, 2, none⟩ = some (.string s) := b4.cell 2
  have g0 : w1.cell? ⟨w.heap.size + 1 + 1, 0, none⟩ = some (.int .i64 0) := b6.cell 0
  have g1 : w1.cell? ⟨w.heap.size + 1 + 1, 1, none⟩ = some (.int .i64 0) := b6.cell 1
  have g2 : w1.cell? ⟨w.heap.size + 1 + 1, 2, none⟩ = some (.slice none 0 0) := b6.cell 2
  have g3 : w1.cell? ⟨w.heap.size + 1 + 1, 3, none⟩ = some (.int .i64 0) := b6.cell 3
  have f0 := b6.frozen 0
  have f1 := b6.frozen 1
  have f2 := b6.frozen 2
  have f3 := b6.frozen 3
  clear hx b3 b4 b6
  go_wp2
  refine bodyPost_ret (v := .agg #[.int .i64 0, .int .i64 0, .slice none 0 0, .int .i64 21]) (by simp [results, Try.results24, go_sem, g0, g1, g2, g3]) rfl ?_
  exact rdo_none B6.out X1.out 0 0

set_option maxRecDepth 100000 in
set_option maxHeartbeats 2000000 in
theorem rdo_kind_len (k l : Int) (A : Option Addr) (n c : Nat) (ss : List ByteArray) (pg : Int) (s : ByteArray) (lsn : Int) (w : World) (hn : n = ss.length) (hc : n ≤ c) (h : At w A (ss.map Value.string)) (hsm : Small ss) (hr : rightB k l ss = true)
    (hl : 0 ≤ lsn ∧ lsn ≤ 2147483647) (hs1 : ¬ s.size = 1) :
    Calls Try.prog 24 #[.agg #[.int .i64 k, .int .i64 l, .slice A n c], .agg #[.int .i64 pg, .int .i64 (-1), .string s], .int .i64 lsn] w (GotPost 0 0 [] 21 w) := by
  subst hn
  have H := Lib.hid h; clear h
  have HR := Lib.hid hr; clear hr
  have HS := Lib.hid hsm; clear hsm
  have X0 := Lib.hid ((((Ext.refl w).alloc (.cells #[.int .i64 k, .int .i64 l, .slice A ss.length c] 26)).alloc (.cells #[.int .i64 pg, .int .i64 (-1), .string s] 41)).alloc (.cells #[.int .i64 0, .int .i64 0, .slice none 0 0, .int .i64 0] 49))
  obtain ⟨hl0, hl1⟩ := hl
  have hb : ((s.size : Int) != 1) = true := by simp; omega
  clear hs1
  go_enter Try.func24, Try.ntmps24
  go_wp2_with fail
  refine (rright_any _ _ _ _ _ _ _ rfl (H.out.ext X0.out) HS.out hc).mono ?_
  rw [HR.out]
  rintro e w1 ⟨rfl, hx⟩
  obtain ⟨b3, b4, b6⟩ := three_cells hx
  have B6 := Lib.hid b6
  have X1 := Lib.hid (X0.out.trans hx)
  have q0 : w1.cell? ⟨w.heap.size + 1, 0, none⟩ = some (.int .i64 pg) := b4.cell 0
  have q1 : w1.cell? ⟨w.heap.size + 1, 1, none⟩ = some (.int .i64 (-1)) := b4.cell 1
  have q2 : w1.cell? ⟨w.heap.size + 1, 2, none⟩ = some (.string s) := b4.cell 2
  have g0 : w1.cell? ⟨w.heap.size + 1 + 1, 0, none⟩ = some (.int .i64 0) := b6.cell 0
  have g1 : w1.cell? ⟨w.heap.size + 1 + 1, 1, none⟩ = some (.int .i64 0) := b6.cell 1
  have g2 : w1.cell? ⟨w.heap.size + 1 + 1, 2, none⟩ = some (.slice none 0 0) := b6.cell 2
  have g3 : w1.cell? ⟨w.heap.size + 1 + 1, 3, none⟩ = some (.int .i64 0) := b6.cell 3
  have f0 := b6.frozen 0
  have f1 := b6.frozen 1
  have f2 := b6.frozen 2
  have f3 := b6.frozen 3
  clear hx b3 b4 b6
  go_wp2
  refine bodyPost_ret (v := .agg #[.int .i64 0, .int .i64 0, .slice none 0 0, .int .i64 21]) (by simp [results, Try.results24, go_sem, g0, g1, g2, g3]) rfl ?_
  exact rdo_none B6.out X1.out 0 0

set_option maxRecDepth 100000 in
set_option maxHeartbeats 2000000 in
theorem rdo_lsn_low (k l : Int) (A : Option Addr) (n c : Nat) (ss : List ByteArray) (pg slot : Int) (s : ByteArray) (lsn : Int) (w : World) (hn : n = ss.length) (hc : n ≤ c) (h : At w A (ss.map Value.string)) (hsm : Small ss) (hr : rightB k l ss = true)
    (hl : lsn < 0) :
    Calls Try.prog 24 #[.agg #[.int .i64 k, .int .i64 l, .slice A n c], .agg #[.int .i64 pg, .int .i64 slot, .string s], .int .i64 lsn] w (GotPost 0 0 [] 1 w) := by
  subst hn
  have H := Lib.hid h; clear h
  have HR := Lib.hid hr; clear hr
  have HS := Lib.hid hsm; clear hsm
  have X0 := Lib.hid ((((Ext.refl w).alloc (.cells #[.int .i64 k, .int .i64 l, .slice A ss.length c] 26)).alloc (.cells #[.int .i64 pg, .int .i64 slot, .string s] 41)).alloc (.cells #[.int .i64 0, .int .i64 0, .slice none 0 0, .int .i64 0] 49))
  go_enter Try.func24, Try.ntmps24
  go_wp2_with fail
  refine (rright_any _ _ _ _ _ _ _ rfl (H.out.ext X0.out) HS.out hc).mono ?_
  rw [HR.out]
  rintro e w1 ⟨rfl, hx⟩
  obtain ⟨b3, b4, b6⟩ := three_cells hx
  have B6 := Lib.hid b6
  have X1 := Lib.hid (X0.out.trans hx)
  have q0 : w1.cell? ⟨w.heap.size + 1, 0, none⟩ = some (.int .i64 pg) := b4.cell 0
  have q1 : w1.cell? ⟨w.heap.size + 1, 1, none⟩ = some (.int .i64 slot) := b4.cell 1
  have q2 : w1.cell? ⟨w.heap.size + 1, 2, none⟩ = some (.string s) := b4.cell 2
  have g0 : w1.cell? ⟨w.heap.size + 1 + 1, 0, none⟩ = some (.int .i64 0) := b6.cell 0
  have g1 : w1.cell? ⟨w.heap.size + 1 + 1, 1, none⟩ = some (.int .i64 0) := b6.cell 1
  have g2 : w1.cell? ⟨w.heap.size + 1 + 1, 2, none⟩ = some (.slice none 0 0) := b6.cell 2
  have g3 : w1.cell? ⟨w.heap.size + 1 + 1, 3, none⟩ = some (.int .i64 0) := b6.cell 3
  have f0 := b6.frozen 0
  have f1 := b6.frozen 1
  have f2 := b6.frozen 2
  have f3 := b6.frozen 3
  clear hx b3 b4 b6
  go_wp2
  refine bodyPost_ret (v := .agg #[.int .i64 0, .int .i64 0, .slice none 0 0, .int .i64 1]) (by simp [results, Try.results24, go_sem, g0, g1, g2, g3]) rfl ?_
  exact rdo_none B6.out X1.out 0 0

set_option maxRecDepth 100000 in
set_option maxHeartbeats 2000000 in
theorem rdo_lsn_high (k l : Int) (A : Option Addr) (n c : Nat) (ss : List ByteArray) (pg slot : Int) (s : ByteArray) (lsn : Int) (w : World) (hn : n = ss.length) (hc : n ≤ c) (h : At w A (ss.map Value.string)) (hsm : Small ss) (hr : rightB k l ss = true)
    (hl : 2147483647 < lsn) :
    Calls Try.prog 24 #[.agg #[.int .i64 k, .int .i64 l, .slice A n c], .agg #[.int .i64 pg, .int .i64 slot, .string s], .int .i64 lsn] w (GotPost 0 0 [] 1 w) := by
  subst hn
  have H := Lib.hid h; clear h
  have HR := Lib.hid hr; clear hr
  have HS := Lib.hid hsm; clear hsm
  have X0 := Lib.hid ((((Ext.refl w).alloc (.cells #[.int .i64 k, .int .i64 l, .slice A ss.length c] 26)).alloc (.cells #[.int .i64 pg, .int .i64 slot, .string s] 41)).alloc (.cells #[.int .i64 0, .int .i64 0, .slice none 0 0, .int .i64 0] 49))
  have hl0 : ¬ lsn < 0 := by omega
  go_enter Try.func24, Try.ntmps24
  go_wp2_with fail
  refine (rright_any _ _ _ _ _ _ _ rfl (H.out.ext X0.out) HS.out hc).mono ?_
  rw [HR.out]
  rintro e w1 ⟨rfl, hx⟩
  obtain ⟨b3, b4, b6⟩ := three_cells hx
  have B6 := Lib.hid b6
  have X1 := Lib.hid (X0.out.trans hx)
  have q0 : w1.cell? ⟨w.heap.size + 1, 0, none⟩ = some (.int .i64 pg) := b4.cell 0
  have q1 : w1.cell? ⟨w.heap.size + 1, 1, none⟩ = some (.int .i64 slot) := b4.cell 1
  have q2 : w1.cell? ⟨w.heap.size + 1, 2, none⟩ = some (.string s) := b4.cell 2
  have g0 : w1.cell? ⟨w.heap.size + 1 + 1, 0, none⟩ = some (.int .i64 0) := b6.cell 0
  have g1 : w1.cell? ⟨w.heap.size + 1 + 1, 1, none⟩ = some (.int .i64 0) := b6.cell 1
  have g2 : w1.cell? ⟨w.heap.size + 1 + 1, 2, none⟩ = some (.slice none 0 0) := b6.cell 2
  have g3 : w1.cell? ⟨w.heap.size + 1 + 1, 3, none⟩ = some (.int .i64 0) := b6.cell 3
  have f0 := b6.frozen 0
  have f1 := b6.frozen 1
  have f2 := b6.frozen 2
  have f3 := b6.frozen 3
  clear hx b3 b4 b6
  go_wp2
  refine bodyPost_ret (v := .agg #[.int .i64 0, .int .i64 0, .slice none 0 0, .int .i64 1]) (by simp [results, Try.results24, go_sem, g0, g1, g2, g3]) rfl ?_
  exact rdo_none B6.out X1.out 0 0

set_option maxRecDepth 100000 in
set_option maxHeartbeats 2000000 in
theorem rdo_not (k l : Int) (A : Option Addr) (n c : Nat) (ss : List ByteArray) (pg slot : Int) (s : ByteArray) (lsn : Int) (w : World) (hn : n = ss.length) (hc : n ≤ c) (h : At w A (ss.map Value.string)) (hsm : Small ss) (hr : rightB k l ss = false)
     :
    Calls Try.prog 24 #[.agg #[.int .i64 k, .int .i64 l, .slice A n c], .agg #[.int .i64 pg, .int .i64 slot, .string s], .int .i64 lsn] w (GotPost 0 0 [] 22 w) := by
  subst hn
  have H := Lib.hid h; clear h
  have HR := Lib.hid hr; clear hr
  have HS := Lib.hid hsm; clear hsm
  have X0 := Lib.hid ((((Ext.refl w).alloc (.cells #[.int .i64 k, .int .i64 l, .slice A ss.length c] 26)).alloc (.cells #[.int .i64 pg, .int .i64 slot, .string s] 41)).alloc (.cells #[.int .i64 0, .int .i64 0, .slice none 0 0, .int .i64 0] 49))
  go_enter Try.func24, Try.ntmps24
  go_wp2_with fail
  refine (rright_any _ _ _ _ _ _ _ rfl (H.out.ext X0.out) HS.out hc).mono ?_
  rw [HR.out]
  rintro e w1 ⟨rfl, hx⟩
  obtain ⟨b3, b4, b6⟩ := three_cells hx
  have B6 := Lib.hid b6
  have X1 := Lib.hid (X0.out.trans hx)
  have g0 : w1.cell? ⟨w.heap.size + 1 + 1, 0, none⟩ = some (.int .i64 0) := b6.cell 0
  have g1 : w1.cell? ⟨w.heap.size + 1 + 1, 1, none⟩ = some (.int .i64 0) := b6.cell 1
  have g2 : w1.cell? ⟨w.heap.size + 1 + 1, 2, none⟩ = some (.slice none 0 0) := b6.cell 2
  have g3 : w1.cell? ⟨w.heap.size + 1 + 1, 3, none⟩ = some (.int .i64 0) := b6.cell 3
  have f0 := b6.frozen 0
  have f1 := b6.frozen 1
  have f2 := b6.frozen 2
  have f3 := b6.frozen 3
  clear hx b3 b4 b6
  go_wp2
  refine bodyPost_ret (v := .agg #[.int .i64 0, .int .i64 0, .slice none 0 0, .int .i64 22]) (by simp [results, Try.results24, go_sem, g0, g1, g2, g3]) rfl ?_
  exact rdo_none B6.out X1.out 0 0

set_option maxRecDepth 100000 in
set_option maxHeartbeats 2000000 in
theorem rdo_right (k l : Int) (A : Option Addr) (n c : Nat) (ss : List ByteArray) (pg slot : Int) (s : ByteArray) (lsn : Int) (w : World) (hn : n = ss.length) (hc : n ≤ c) (h : At w A (ss.map Value.string)) (hsm : Small ss) (hr : rightB k l ss = true)
    (hl : 0 ≤ lsn ∧ lsn ≤ 2147483647) (hsl : slot ≠ -1) (hss : s.size ≤ 9223372036854775807) :
    Calls Try.prog 24 #[.agg #[.int .i64 k, .int .i64 l, .slice A n c], .agg #[.int .i64 pg, .int .i64 slot, .string s], .int .i64 lsn] w (GotPost (putKind k l ss slot s) (doLsn k l ss slot s lsn) (putItems k l ss slot s) (putErr k l ss slot s) w) := by
  subst hn
  have H := Lib.hid h; clear h
  have HR := Lib.hid hr; clear hr
  have HS := Lib.hid hsm; clear hsm
  have X0 := Lib.hid ((((Ext.refl w).alloc (.cells #[.int .i64 k, .int .i64 l, .slice A ss.length c] 26)).alloc (.cells #[.int .i64 pg, .int .i64 slot, .string s] 41)).alloc (.cells #[.int .i64 0, .int .i64 0, .slice none 0 0, .int .i64 0] 49))
  obtain ⟨hl0, hl1⟩ := hl
  have hsb : (slot == -1) = false := by simpa using hsl
  clear hsl
  go_enter Try.func24, Try.ntmps24
  go_wp2_with fail
  refine (rright_any _ _ _ _ _ _ _ rfl (H.out.ext X0.out) HS.out hc).mono ?_
  rw [HR.out]
  rintro e w1 ⟨rfl, hx⟩
  obtain ⟨b3, b4, b6⟩ := three_cells hx
  have B6 := Lib.hid b6
  have X1 := Lib.hid (X0.out.trans hx)
  have p0 : w1.cell? ⟨w.heap.size, 0, none⟩ = some (.int .i64 k) := b3.cell 0
  have p1 : w1.cell? ⟨w.heap.size, 1, none⟩ = some (.int .i64 l) := b3.cell 1
  have p2 : w1.cell? ⟨w.heap.size, 2, none⟩ = some (.slice A ss.length c) := b3.cell 2
  have q0 : w1.cell? ⟨w.heap.size + 1, 0, none⟩ = some (.int .i64 pg) := b4.cell 0
  have q1 : w1.cell? ⟨w.heap.size + 1, 1, none⟩ = some (.int .i64 slot) := b4.cell 1
  have q2 : w1.cell? ⟨w.heap.size + 1, 2, none⟩ = some (.string s) := b4.cell 2
  clear hx b3 b4 b6
  go_wp2_with fail
  refine (rput_any _ _ _ _ _ _ _ _ _ rfl (H.out.ext X1.out) HS.out hc hss).mono ?_
  rw [rput_eq]
  rintro e w2 ⟨A2, c2, rfl, hown, hx⟩
  have D6 := Lib.hid (B6.out.ext hx)
  have X2 := Lib.hid (X1.out.trans hx)
  have Hown := Lib.hid (own_mono hown X1.out.size)
  clear hx hown p0 p1 p2 q0 q1 q2 B6 X1
  have q0 : w2.cell? ⟨w.heap.size + 1 + 1, 0, none⟩ = some (.int .i64 0) := D6.out.cell 0
  have q1 : w2.cell? ⟨w.heap.size + 1 + 1, 1, none⟩ = some (.int .i64 0) := D6.out.cell 1
  have q2 : w2.cell? ⟨w.heap.size + 1 + 1, 2, none⟩ = some (.slice none 0 0) := D6.out.cell 2
  have q3 : w2.cell? ⟨w.heap.size + 1 + 1, 3, none⟩ = some (.int .i64 0) := D6.out.cell 3
  have f0 := D6.out.frozen 0
  have f1 := D6.out.frozen 1
  have f2 := D6.out.frozen 2
  have f3 := D6.out.frozen 3
  have hz6 := D6.out.lt
  by_cases he : putErr k l ss slot s = 0
  · have e1 : putKind k l ss slot s = k := by rw [putKind, if_pos he]
    have e2 : putLsn k l ss slot s = l := by rw [putLsn, if_pos he]
    obtain ⟨I, hI⟩ : ∃ x, x = putItems k l ss slot s := ⟨_, rfl⟩
    have e3 : doLsn k l ss slot s lsn = lsn := by rw [doLsn, if_pos he]
    rw [he, e1, e2, ← hI]
    rw [← hI] at Hown
    have E := Lib.hid (And.intro e1 (And.intro e3 (And.intro hI he)))
    clear he e1 e2 e3 hI
    go_wp2
    refine bodyPost_ret (v := .agg #[.int .i64 k, .int .i64 lsn, .slice A2 I.length c2, .int .i64 0]) (by simp [results, Try.results24, go_sem, q0, q1, q2, q3, hz6]) rfl ?_
    rw [E.out.1, E.out.2.1, ← E.out.2.2.1, E.out.2.2.2]
    exact rdo_end Hown.out D6.out X2.out k lsn 0 A2 I.length c2 _
  · obtain ⟨q, hq⟩ : ∃ q, q = putErr k l ss slot s := ⟨_, rfl⟩
    have e1 : putKind k l ss slot s = 0 := by rw [putKind, if_neg he]
    have e2 : putLsn k l ss slot s = 0 := by rw [putLsn, if_neg he]
    have e3 : doLsn k l ss slot s lsn = 0 := by rw [doLsn, if_neg he]
    obtain ⟨I, hI⟩ : ∃ x, x = putItems k l ss slot s := ⟨_, rfl⟩
    rw [← hq] at he
    rw [e1, e2, ← hq, ← hI]
    rw [← hI] at Hown
    have E := Lib.hid (And.intro e1 (And.intro e3 (And.intro hI hq)))
    have hqb : (q == 0) = false := by simpa using he
    clear he e1 e2 e3 hI hq
    go_wp2
    refine bodyPost_ret (v := .agg #[.int .i64 0, .int .i64 0, .slice A2 I.length c2, .int .i64 q]) (by simp [results, Try.results24, go_sem, q0, q1, q2, q3, hz6]) rfl ?_
    rw [E.out.1, E.out.2.1, ← E.out.2.2.1, ← E.out.2.2.2]
    exact rdo_end Hown.out D6.out X2.out 0 0 q A2 I.length c2 _

end Go.Proofs.Ytkkldciofndedaa
