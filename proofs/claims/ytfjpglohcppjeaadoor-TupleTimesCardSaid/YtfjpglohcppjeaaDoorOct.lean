/- octet.size, octet.Put. -/
import Derived.Test.YtfjpglohcppjeaaDoorUpd2
import Derived.Test.YtfjpglohcppjeaaDoorRight
namespace Go.Proofs.YtfjpglohcppjeaaDoor
open Go.RowKit
set_option linter.unusedVariables false
set_option linter.unusedSimpArgs false

def sizeF (n : Int) : Int := max 0 (min n 8)
set_option maxRecDepth 100000 in
set_option maxHeartbeats 400000 in
theorem osize_any (n : Int) (w : World) : Calls Tryd.prog 96 #[.int .i64 n] w fun e w' => e = .returned (.int .i64 (sizeF n)) ∧ w = w' := by
  go_enter Tryd.func96, Tryd.ntmps96
  go_wp2
  all_goals
    go_ret
    exact ⟨ret_int (by unfold sizeF; omega), rfl⟩
/-- the eight bytes of a word, big endian -/
def oct8 (n : Int) : List Int := [IntKind.u64.wrap n / 72057594037927936 % 256, IntKind.u64.wrap n / 281474976710656 % 256, IntKind.u64.wrap n / 1099511627776 % 256, IntKind.u64.wrap n / 4294967296 % 256,
  IntKind.u64.wrap n / 16777216 % 256, IntKind.u64.wrap n / 65536 % 256, IntKind.u64.wrap n / 256 % 256, IntKind.u64.wrap n % 256]
def putS (n : Int) (k : Nat) : ByteArray := strOfNums ((oct8 n).drop (8 - k))
theorem putS_size (n : Int) (k : Nat) (hk : k ≤ 8) : (putS n k).size = k := by
  rw [putS, strOfNums_size, List.length_drop]
  show 8 - (8 - k) = k
  omega
theorem run_cv_oct (n : Int) (k : Nat) (hk : k ≤ 8) (m : Nat) (hm : m + k = 8) (W : World) (B : Nat) (hB : B = W.heap.size) (w : World) (t : TypeId) (hw : w = W.alloc (.cells ((oct8 n).map (Value.int .u8)).toArray t)) :
    (convert 42 9 (.slice (some ⟨B, m, none⟩) k k)).run Tryd.prog w = .ok (.string (putS n k)) w := by
  subst hB
  refine run_convert_bytes_arg _ 42 5 Tryd.underlying42 Tryd.underlying5 W.heap.size m k k ((oct8 n).drop (8 - k)) (by rw [List.length_drop]; show 8 - (8 - k) = k; omega) (fun i hi => ?_) 9 Tryd.underlying9
  rw [hw, World.cell?_alloc_at _ _ _ _ rfl]
  have hl : (oct8 n).length = 8 := rfl
  have hlt : m + i < (oct8 n).length := by omega
  rw [List.getElem?_toArray, List.getElem?_map, List.getElem?_eq_getElem hlt]
  have e : 8 - k = m := by omega
  rw [e, List.getD_eq_getElem?_getD, List.getElem?_drop, List.getElem?_eq_getElem hlt]
  rfl
set_option maxRecDepth 100000 in
set_option maxHeartbeats 4000000 in
theorem oput1_any (n : Int) (w : World) : Calls Tryd.prog 57 #[.int .i64 n, .int .i64 1] w (Ret1 (.string (putS n 1)) w) := by
  have hcv := run_cv_oct n 1 (by omega) 7 rfl w w.heap.size rfl _ 163 rfl
  simp only [oct8, List.map_cons, List.map_nil] at hcv
  have hs : sizeF 1 = 1 := by decide
  go_enter Tryd.func57, Tryd.ntmps57
  go_wp2_with fail
  refine wp_loop_rounds 9 ?_
  rw [rounds_succ]; go_wp2_with fail
  rw [rounds_succ]; go_wp2_with fail
  rw [rounds_succ]; go_wp2_with fail
  rw [rounds_succ]; go_wp2_with fail
  rw [rounds_succ]; go_wp2_with fail
  rw [rounds_succ]; go_wp2_with fail
  rw [rounds_succ]; go_wp2_with fail
  rw [rounds_succ]; go_wp2_with fail
  rw [rounds_succ]; go_wp2_with fail
  refine (osize_any _ _).mono ?_
  rw [hs]
  rintro e w1 ⟨rfl, rfl⟩
  clear hs
  go_wp2
  go_ret
  exact ⟨rfl, (Ext.refl w).alloc _⟩
set_option maxRecDepth 100000 in
set_option maxHeartbeats 4000000 in
theorem oput2_any (n : Int) (w : World) : Calls Tryd.prog 57 #[.int .i64 n, .int .i64 2] w (Ret1 (.string (putS n 2)) w) := by
  have hcv := run_cv_oct n 2 (by omega) 6 rfl w w.heap.size rfl _ 163 rfl
  simp only [oct8, List.map_cons, List.map_nil] at hcv
  have hs : sizeF 2 = 2 := by decide
  go_enter Tryd.func57, Tryd.ntmps57
  go_wp2_with fail
  refine wp_loop_rounds 9 ?_
  rw [rounds_succ]; go_wp2_with fail
  rw [rounds_succ]; go_wp2_with fail
  rw [rounds_succ]; go_wp2_with fail
  rw [rounds_succ]; go_wp2_with fail
  rw [rounds_succ]; go_wp2_with fail
  rw [rounds_succ]; go_wp2_with fail
  rw [rounds_succ]; go_wp2_with fail
  rw [rounds_succ]; go_wp2_with fail
  rw [rounds_succ]; go_wp2_with fail
  refine (osize_any _ _).mono ?_
  rw [hs]
  rintro e w1 ⟨rfl, rfl⟩
  clear hs
  go_wp2
  go_ret
  exact ⟨rfl, (Ext.refl w).alloc _⟩
set_option maxRecDepth 100000 in
set_option maxHeartbeats 4000000 in
theorem oput4_any (n : Int) (w : World) : Calls Tryd.prog 57 #[.int .i64 n, .int .i64 4] w (Ret1 (.string (putS n 4)) w) := by
  have hcv := run_cv_oct n 4 (by omega) 4 rfl w w.heap.size rfl _ 163 rfl
  simp only [oct8, List.map_cons, List.map_nil] at hcv
  have hs : sizeF 4 = 4 := by decide
  go_enter Tryd.func57, Tryd.ntmps57
  go_wp2_with fail
  refine wp_loop_rounds 9 ?_
  rw [rounds_succ]; go_wp2_with fail
  rw [rounds_succ]; go_wp2_with fail
  rw [rounds_succ]; go_wp2_with fail
  rw [rounds_succ]; go_wp2_with fail
  rw [rounds_succ]; go_wp2_with fail
  rw [rounds_succ]; go_wp2_with fail
  rw [rounds_succ]; go_wp2_with fail
  rw [rounds_succ]; go_wp2_with fail
  rw [rounds_succ]; go_wp2_with fail
  refine (osize_any _ _).mono ?_
  rw [hs]
  rintro e w1 ⟨rfl, rfl⟩
  clear hs
  go_wp2
  go_ret
  exact ⟨rfl, (Ext.refl w).alloc _⟩
set_option maxRecDepth 100000 in
set_option maxHeartbeats 4000000 in
theorem oput8_any (n : Int) (w : World) : Calls Tryd.prog 57 #[.int .i64 n, .int .i64 8] w (Ret1 (.string (putS n 8)) w) := by
  have hcv := run_cv_oct n 8 (by omega) 0 rfl w w.heap.size rfl _ 163 rfl
  simp only [oct8, List.map_cons, List.map_nil] at hcv
  have hs : sizeF 8 = 8 := by decide
  go_enter Tryd.func57, Tryd.ntmps57
  go_wp2_with fail
  refine wp_loop_rounds 9 ?_
  rw [rounds_succ]; go_wp2_with fail
  rw [rounds_succ]; go_wp2_with fail
  rw [rounds_succ]; go_wp2_with fail
  rw [rounds_succ]; go_wp2_with fail
  rw [rounds_succ]; go_wp2_with fail
  rw [rounds_succ]; go_wp2_with fail
  rw [rounds_succ]; go_wp2_with fail
  rw [rounds_succ]; go_wp2_with fail
  rw [rounds_succ]; go_wp2_with fail
  refine (osize_any _ _).mono ?_
  rw [hs]
  rintro e w1 ⟨rfl, rfl⟩
  clear hs
  go_wp2
  go_ret
  exact ⟨rfl, (Ext.refl w).alloc _⟩
end Go.Proofs.YtfjpglohcppjeaaDoor
