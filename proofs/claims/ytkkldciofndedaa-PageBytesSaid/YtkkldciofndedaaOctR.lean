/- The reference's Put; Text, the program's and the reference's. -/
import Derived.Test.YtkkldciofndedaaRdR
namespace Go.Proofs.Ytkkldciofndedaa
open Go.RowKit
set_option linter.unusedVariables false

theorem nums_append (a b : List Int) : strOfNums a ++ strOfNums b = strOfNums (a ++ b) := by
  apply ByteArray.ext
  rw [ByteArray.data_append]
  simp [strOfNums]
theorem run_cv_x (x : Int) (W : World) (B : Nat) (h : B = W.heap.size) : (convert 34 9 (.slice (some ⟨B, 0, none⟩) 1 1)).run Try.prog (W.alloc (.cells #[.int .u8 x] 5)) = .ok (.string (strOfNums [x])) (W.alloc (.cells #[.int .u8 x] 5)) :=
  run_convert_bytes_arg _ 34 5 Try.underlying34 Try.underlying5 B 0 1 1 [x] rfl (fun i hi => by
    obtain rfl : i = 0 := by omega
    subst h
    exact World.cell?_alloc_at _ _ _ _ rfl) 9 Try.underlying9
theorem u64_bd (n : Int) : 0 ≤ IntKind.u64.wrap n ∧ IntKind.u64.wrap n ≤ 18446744073709551615 := by
  rw [IntKind.wrap_u64]
  omega
theorem empty_lit (s : ByteArray) : s ++ (⟨#[]⟩ : ByteArray) = s := by
  apply ByteArray.ext
  rw [ByteArray.data_append]
  simp
set_option maxRecDepth 100000 in
set_option maxHeartbeats 2000000 in
theorem rput1_any (n : Int) (w : World) : Calls Try.prog 56 #[.int .i64 n, .int .i64 1] w (Ret1 (.string (putS n 1)) w) := by
  have HS := Lib.hid (show sizeF 1 = 1 by decide)
  have hcv := fun (x : Int) (W : World) (B : Nat) (h : B = W.heap.size) => run_cv_x x W B h
  obtain ⟨u, hu⟩ : ∃ u, u = IntKind.u64.wrap n := ⟨_, rfl⟩
  have hub := u64_bd n
  have HP := Lib.hid (show putS n 1 = strOfNums [u % 256] by rw [putS, oct8, ← hu, show u / 16777216 = u / 256 / 256 / 256 by omega, show u / 65536 = u / 256 / 256 by omega]; rfl)
  rw [← hu] at hub
  obtain ⟨hu0, hu1⟩ := hub
  go_enter Try.func56, Try.ntmps56
  go_wp2_with fail
  rw [← hu]
  clear hu
  refine wp_loop_rounds 2 ?_
  rw [rounds_succ]; go_wp2_with fail
  refine (rosize_any _ _).mono ?_
  rw [HS.out]
  rintro e w1 ⟨rfl, rfl⟩
  go_wp2_with fail
  rw [rounds_succ]; go_wp2_with fail
  refine (rosize_any _ _).mono ?_
  rw [HS.out]
  rintro e w1 ⟨rfl, rfl⟩
  go_wp2_with fail
  go_ret
  refine ⟨?_, by repeat (first | exact Ext.refl _ | refine Ext.alloc ?_ _)⟩
  rw [HP.out]
  show Ending.returned (.string (strOfNums [u % 256] ++ (⟨#[]⟩ : ByteArray))) = _
  simp only [empty_lit]
set_option maxRecDepth 100000 in
set_option maxHeartbeats 2000000 in
theorem rput2_any (n : Int) (w : World) : Calls Try.prog 56 #[.int .i64 n, .int .i64 2] w (Ret1 (.string (putS n 2)) w) := by
  have HS := Lib.hid (show sizeF 2 = 2 by decide)
  have hcv := fun (x : Int) (W : World) (B : Nat) (h : B = W.heap.size) => run_cv_x x W B h
  obtain ⟨u, hu⟩ : ∃ u, u = IntKind.u64.wrap n := ⟨_, rfl⟩
  have hub := u64_bd n
  have HP := Lib.hid (show putS n 2 = strOfNums [u / 256 % 256, u % 256] by rw [putS, oct8, ← hu, show u / 16777216 = u / 256 / 256 / 256 by omega, show u / 65536 = u / 256 / 256 by omega]; rfl)
  rw [← hu] at hub
  obtain ⟨hu0, hu1⟩ := hub
  go_enter Try.func56, Try.ntmps56
  go_wp2_with fail
  rw [← hu]
  clear hu
  refine wp_loop_rounds 3 ?_
  rw [rounds_succ]; go_wp2_with fail
  refine (rosize_any _ _).mono ?_
  rw [HS.out]
  rintro e w1 ⟨rfl, rfl⟩
  go_wp2_with fail
  rw [rounds_succ]; go_wp2_with fail
  refine (rosize_any _ _).mono ?_
  rw [HS.out]
  rintro e w1 ⟨rfl, rfl⟩
  go_wp2_with fail
  rw [rounds_succ]; go_wp2_with fail
  refine (rosize_any _ _).mono ?_
  rw [HS.out]
  rintro e w1 ⟨rfl, rfl⟩
  go_wp2_with fail
  go_ret
  refine ⟨?_, by repeat (first | exact Ext.refl _ | refine Ext.alloc ?_ _)⟩
  rw [HP.out]
  show Ending.returned (.string (strOfNums [u / 256 % 256] ++ (strOfNums [u % 256] ++ (⟨#[]⟩ : ByteArray)))) = _
  simp only [empty_lit, nums_append, List.cons_append, List.nil_append]
set_option maxRecDepth 100000 in
set_option maxHeartbeats 2000000 in
theorem rput4_any (n : Int) (w : World) : Calls Try.prog 56 #[.int .i64 n, .int .i64 4] w (Ret1 (.string (putS n 4)) w) := by
  have HS := Lib.hid (show sizeF 4 = 4 by decide)
  have hcv := fun (x : Int) (W : World) (B : Nat) (h : B = W.heap.size) => run_cv_x x W B h
  obtain ⟨u, hu⟩ : ∃ u, u = IntKind.u64.wrap n := ⟨_, rfl⟩
  have hub := u64_bd n
  have HP := Lib.hid (show putS n 4 = strOfNums [u / 256 / 256 / 256 % 256, u / 256 / 256 % 256, u / 256 % 256, u % 256] by rw [putS, oct8, ← hu, show u / 16777216 = u / 256 / 256 / 256 by omega, show u / 65536 = u / 256 / 256 by omega]; rfl)
  rw [← hu] at hub
  obtain ⟨hu0, hu1⟩ := hub
  go_enter Try.func56, Try.ntmps56
  go_wp2_with fail
  rw [← hu]
  clear hu
  refine wp_loop_rounds 5 ?_
  rw [rounds_succ]; go_wp2_with fail
  refine (rosize_any _ _).mono ?_
  rw [HS.out]
  rintro e w1 ⟨rfl, rfl⟩
  go_wp2_with fail
  rw [rounds_succ]; go_wp2_with fail
  refine (rosize_any _ _).mono ?_
  rw [HS.out]
  rintro e w1 ⟨rfl, rfl⟩
  go_wp2_with fail
  rw [rounds_succ]; go_wp2_with fail
  refine (rosize_any _ _).mono ?_
  rw [HS.out]
  rintro e w1 ⟨rfl, rfl⟩
  go_wp2_with fail
  rw [rounds_succ]; go_wp2_with fail
  refine (rosize_any _ _).mono ?_
  rw [HS.out]
  rintro e w1 ⟨rfl, rfl⟩
  go_wp2_with fail
  rw [rounds_succ]; go_wp2_with fail
  refine (rosize_any _ _).mono ?_
  rw [HS.out]
  rintro e w1 ⟨rfl, rfl⟩
  go_wp2_with fail
  go_ret
  refine ⟨?_, by repeat (first | exact Ext.refl _ | refine Ext.alloc ?_ _)⟩
  rw [HP.out]
  show Ending.returned (.string (strOfNums [u / 256 / 256 / 256 % 256] ++ (strOfNums [u / 256 / 256 % 256] ++ (strOfNums [u / 256 % 256] ++ (strOfNums [u % 256] ++ (⟨#[]⟩ : ByteArray)))))) = _
  simp only [empty_lit, nums_append, List.cons_append, List.nil_append]

/-- a string with its length ahead -/
def textB (s : ByteArray) : ByteArray := putS s.size 2 ++ s
theorem extract_all (s : ByteArray) : s.extract 0 s.size = s := by
  apply ByteArray.ext
  rw [ByteArray.data_extract]
  simp
set_option maxRecDepth 100000 in
set_option maxHeartbeats 1000000 in
theorem otextf_any (s : ByteArray) (w : World) (hs : s.size ≤ 65535) : Calls Try.prog 48 #[.string s] w (Ret1 (.string (textB s)) w) := by
  have h1 : (s.size : Int) ≤ 65535 := by omega
  have h2 : (if 65535 < (s.size : Int) then 65535 else (s.size : Int)) = (s.size : Int) := if_neg (by omega)
  have h3 := extract_all s
  have HT := Lib.hid (show textB s = putS s.size 2 ++ s from rfl)
  go_enter Try.func48, Try.ntmps48
  go_wp2_with fail
  refine (oput2_any _ _).mono ?_
  rintro e w1 ⟨rfl, hx⟩
  have X1 := Lib.hid hx
  clear hx h1 h2 h3
  obtain ⟨x, hx⟩ : ∃ x, x = putS s.size 2 := ⟨_, rfl⟩
  have hxs : x.size ≤ 2 := by rw [hx, putS_size _ _ (by omega)]; omega
  rw [← hx] at HT ⊢
  clear hx
  go_wp2
  go_ret
  exact ⟨by rw [HT.out]; rfl, X1.out⟩

set_option maxRecDepth 100000 in
set_option maxHeartbeats 1000000 in
theorem rtextf_any (s : ByteArray) (w : World) (hs : s.size ≤ 65535) : Calls Try.prog 57 #[.string s] w (Ret1 (.string (textB s)) w) := by
  have h1 : (s.size : Int) ≤ 65535 := by omega
  have h2 : (if 65535 < (s.size : Int) then 65535 else (s.size : Int)) = (s.size : Int) := if_neg (by omega)
  have h3 := extract_all s
  have HT := Lib.hid (show textB s = putS s.size 2 ++ s from rfl)
  go_enter Try.func57, Try.ntmps57
  go_wp2_with fail
  refine (rput2_any _ _).mono ?_
  rintro e w1 ⟨rfl, hx⟩
  have X1 := Lib.hid hx
  clear hx h1 h2 h3
  obtain ⟨x, hx⟩ : ∃ x, x = putS s.size 2 := ⟨_, rfl⟩
  have hxs : x.size ≤ 2 := by rw [hx, putS_size _ _ (by omega)]; omega
  rw [← hx] at HT ⊢
  clear hx
  go_wp2
  go_ret
  exact ⟨by rw [HT.out]; rfl, X1.out⟩

end Go.Proofs.Ytkkldciofndedaa
