/- the law's made, page.Do. -/
import Derived.Test.YtkkldciofndedaaMade
namespace Go.Proofs.Ytkkldciofndedaa
open Go.RowKit
set_option linter.unusedVariables false

/-- the items of the valid page that Ask describes -/
def mkL (k l : Int) (ss : List ByteArray) : List ByteArray := madeL (kindF k) (lsnF l) ss (min ss.length 24)
theorem mkL_right (k l : Int) (ss : List ByteArray) : rightB (kindF k) (lsnF l) (mkL k l ss) = true := by
  unfold mkL
  generalize min ss.length 24 = n
  induction n with
  | zero => exact right_nil (kindF_bd k) (lsnF_bd l)
  | succ n ih =>
    rw [madeL_succ]
    split
    · rename_i h
      have := put_right ih h
      rwa [Int.toNat_natCast] at this
    · exact ih

set_option maxRecDepth 100000 in
set_option maxHeartbeats 1000000 in
theorem lmade_any (k l : Int) (A : Option Addr) (n c : Nat) (ss : List ByteArray) (w : World) (hn : n = ss.length) (h : At w A (ss.map Value.string)) (hl : ss.length ≤ 9223372036854775807) :
    Calls Try.prog 14 #[.agg #[.int .i64 k, .int .i64 l, .slice A n c]] w (PgOne (kindF k) (lsnF l) (mkL k l ss) w) := by
  subst hn
  have H := Lib.hid h; clear h
  have X0 := Lib.hid (((Ext.refl w).alloc (.cells #[.int .i64 k, .int .i64 l, .slice A ss.length c] 24)).alloc (.cells #[.int .i64 0, .int .i64 0, .slice none 0 0] 26))
  go_enter Try.func14, Try.ntmps14
  go_wp2_with (go_at_call 39; refine (made_any _ _ _ _ _ _ _ rfl (H.out.ext X0.out) hl).mono ?_; rintro e w1 ⟨A1, c1, rfl, hown, hx⟩; have hb := (Blk.new' (t := 26) (cs := #[.int .i64 0, .int .i64 0, .slice none 0 0]) (w := w.alloc (.cells #[.int .i64 k, .int .i64 l, .slice A ss.length c] 24)) (g := w.heap.size + 1) (by simp)).ext hx; have q0 : w1.cell? ⟨w.heap.size + 1, 0, none⟩ = some (.int .i64 0) := hb.cell 0; have q1 : w1.cell? ⟨w.heap.size + 1, 1, none⟩ = some (.int .i64 0) := hb.cell 1; have q2 : w1.cell? ⟨w.heap.size + 1, 2, none⟩ = some (.slice none 0 0) := hb.cell 2; have f0 := hb.frozen 0; have f1 := hb.frozen 1; have f2 := hb.frozen 2; have Hown := Lib.hid hown; have X1 := Lib.hid hx; have hzz := hx.size2; clear hown hx hb)
  refine bodyPost_ret (v := .agg #[.int .i64 (kindF k), .int .i64 (lsnF l), .slice A1 (madeL (kindF k) (lsnF l) ss (min ss.length 24)).length c1]) (by simp [results, Try.results14, go_sem, q0, q1, q2]) rfl ?_
  refine ⟨A1, c1, rfl, own_mono (base := w.heap.size + 2) (ownsRow_setCell_below (ownsRow_setCell_below (ownsRow_setCell_below (own_mono Hown.out (by simp)) (by simp) _) (by simp) _) (by simp) _) (by omega), ?_⟩
  exact (((X0.out.trans X1.out).set (by simp) _).set (by simp) _).set (by simp) _
end Go.Proofs.Ytkkldciofndedaa
