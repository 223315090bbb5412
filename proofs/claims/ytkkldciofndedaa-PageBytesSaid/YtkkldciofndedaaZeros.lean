/- string(make([]byte, n)); the law's sanity. -/
import Derived.Test.YtkkldciofndedaaLawMade
namespace Go.Proofs.Ytkkldciofndedaa
open Go.RowKit
set_option linter.unusedVariables false

def zerosS (n : Nat) : ByteArray := strOfNums (List.replicate n 0)
theorem zerosS_size (n : Nat) : (zerosS n).size = n := by rw [zerosS, strOfNums_size, List.length_replicate]
theorem Try.infoU8 : (Try.prog.info? 5).map (fun i => (i.zero, i.size, i.bytes)) = some (some (.int .u8 0), 1, 1) := by kernel_rfl
theorem run_mk_bytes (n : Nat) (h : n ≤ 1000000) (W : World) : (Instr.makeSlice 34 (.int .i64 n) (.int .i64 n)).run Try.prog W =
    .ok (.slice (some ⟨W.heap.size, 0, none⟩) n n) (W.alloc (.cells (madeCells #[.int .u8 0] n) 5)) := by
  obtain ⟨i0, hi0, hz0, hz1, hz2⟩ := info_parts Try.infoU8
  have hr := run_make (P := Try.prog) W 34 5 i0 (.int .u8 0) Try.underlying34 hi0 hz0 .i64 .i64 n n (by omega) (by omega) (by rw [hz2]; omega) (by omega)
  rw [hz1] at hr
  simp only [Int.toNat_natCast, Nat.mul_one] at hr
  exact hr
theorem run_cv_bytes (n : Nat) (W : World) : (convert 34 9 (.slice (some ⟨W.heap.size, 0, none⟩) n n)).run Try.prog (W.alloc (.cells (madeCells #[.int .u8 0] n) 5)) =
    .ok (.string (zerosS n)) (W.alloc (.cells (madeCells #[.int .u8 0] n) 5)) := by
  refine run_convert_bytes_arg _ 34 5 Try.underlying34 Try.underlying5 W.heap.size 0 n n (List.replicate n 0) (by simp) (fun i hi => ?_) 9 Try.underlying9
  rw [Nat.zero_add, World.cell?_alloc_at _ _ _ _ rfl]
  have e : (madeCells #[Value.int .u8 0] n)[i]? = (madeCells #[Value.int .u8 0] n).toList[i]? := by simp
  rw [e, toList_madeCells_one]
  simp [hi, List.getD]

theorem new_right : rightB 1 0 [] = true := right_nil (by omega) (by omega)
theorem sizeL_nil : sizeL [] = 14 := rfl
theorem trim_one {s : ByteArray} (h : s.toList.isEmpty = false) : trimN [s] 1 = 1 := by
  rw [trimN_succ]
  simp [List.getD, h]
theorem plain_one {s : ByteArray} (h : s.toList.isEmpty = false) : plainL [s] = [s] := by
  have e : trimN [s] [s].length = 1 := trim_one h
  rw [plainL, e]; rfl
theorem size_one {s : ByteArray} (h : s.toList.isEmpty = false) : sizeL [s] = 16 + s.size := by
  rw [sizeL, plain_one h]; simp [sizeT]; omega
theorem with_nil (s : ByteArray) : withL [] 0 s = [s] := by simp [withL, padTo, plainL]
theorem ne_of_size {s : ByteArray} (h : 0 < s.size) : s.toList.isEmpty = false := by
  rw [ByteArray.toList_eq]
  have : 0 < s.data.toList.length := by simpa using h
  cases hl : s.data.toList with
  | nil => rw [hl] at this; simp at this
  | cons a l => rfl
theorem free_nil : freeF 1 0 [] 0 = 0 := by
  rw [freeF, new_right, if_pos rfl]
  rfl
theorem room_nil : roomF 1 0 [] = 400 := by
  rw [roomF, free_nil]
  rfl
theorem san_err {s : ByteArray} (h : s.size = 400) : putErr 1 0 [] 0 s = 0 := by
  have h1 := size_one (ne_of_size (s := s) (by omega))
  rw [putErr, new_right, if_neg (by simp), if_neg (by omega)]
  rw [show (0 : Int).toNat = 0 from rfl, with_nil, h1, if_neg (by omega)]
theorem san_items {s : ByteArray} (h : s.size = 400) : putItems 1 0 [] 0 s = [s] := by
  rw [putItems, if_pos (san_err h), show (0 : Int).toNat = 0 from rfl, with_nil, plain_one (ne_of_size (by omega))]
theorem san_room {s : ByteArray} (h : s.size = 400) : roomF 1 0 [s] = 94 := by
  have hne := ne_of_size (s := s) (by omega)
  have h1 := size_one hne
  have hr : rightB 1 0 [s] = true := by simp [rightB, longB, h1, h]
  have hf : freeF 1 0 [s] 0 = 1 := by
    rw [freeF, hr, if_pos rfl]
    show frL [s] 24 0 = 1
    rw [frL_succ, if_neg (by simp)]
    have : ([s].getD 0 ByteArray.empty).toList.isEmpty = false := by simpa [List.getD] using hne
    rw [this]
    show frL [s] 23 1 = 1
    rw [frL_succ, if_pos (by simp)]
    rfl
  rw [roomF, hf, plain_one hne, h1, h]
  rfl

theorem san_put {s : ByteArray} (h : s.size = 400) (W : World) : Calls Try.prog 18 #[.agg #[.int .i64 1, .int .i64 0, .slice none 0 0], .int .i64 0, .string s] W (PgPost 1 0 [s] 0 W) := by
  have := put_any 1 0 none 0 0 [] 0 s W rfl (At.nil _ _) ⟨by simp, by simp⟩ (by omega)
  rw [put_eq, san_items h, san_err h] at this
  have e1 : putKind 1 0 [] 0 s = 1 := by rw [putKind, if_pos (san_err h)]
  have e2 : putLsn 1 0 [] 0 s = 0 := by rw [putLsn, if_pos (san_err h)]
  rwa [e1, e2] at this
theorem san_room0 (W : World) : Calls Try.prog 15 #[.agg #[.int .i64 1, .int .i64 0, .slice none 0 0]] W (Ret1 (.int .i64 400) W) := by
  have := room_any 1 0 none 0 [] W (At.nil _ _) ⟨by simp, by simp⟩
  rwa [room_nil] at this
theorem san_room1 {s : ByteArray} (h : s.size = 400) {A : Option Addr} {c : Nat} (W : World) (hA : At W A [Value.string s]) : Calls Try.prog 15 #[.agg #[.int .i64 1, .int .i64 0, .slice A 1 c]] W (Ret1 (.int .i64 94) W) := by
  have := room_any 1 0 A c [s] W hA ⟨by simp, by simp [h]⟩
  rwa [san_room h] at this

set_option maxRecDepth 100000 in
set_option maxHeartbeats 1000000 in
theorem sanity_any (w : World) : Calls Try.prog 13 #[] w (Ret1 (.bool true) w) := by
  have hmk : ∀ W : World, (Instr.makeSlice 34 (.int .i64 400) (.int .i64 400)).run Try.prog W = .ok (.slice (some ⟨W.heap.size, 0, none⟩) 400 400) (W.alloc (.cells (madeCells #[.int .u8 0] 400) 5)) := fun W => run_mk_bytes 400 (by omega) W
  have hcv := fun W => run_cv_bytes 400 W
  obtain ⟨z, hz⟩ : ∃ z, z = zerosS 400 := ⟨_, rfl⟩
  have hzz : z.size = 400 := by rw [hz, zerosS_size]
  rw [← hz] at hcv
  clear hz
  have Hz := Lib.hid hzz
  clear hzz
  go_enter Try.func13, Try.ntmps13
  go_wp2_with fail
  refine (new_any _ _).mono ?_
  rintro e w1 ⟨rfl, hx⟩
  have X1 := Lib.hid (((Ext.refl w).alloc _).trans hx)
  clear hx
  go_wp2_with fail
  refine (san_put Hz.out _).mono ?_
  rintro e w2 ⟨A2, c2, rfl, hown, hx⟩
  have X2 := Lib.hid (X1.out.trans hx)
  have Hown := Lib.hid hown
  clear hx hown
  go_wp2_with fail
  refine (new_any _ _).mono ?_
  rintro e w3 ⟨rfl, hx⟩
  have X3 := Lib.hid hx
  clear hx
  go_wp2_with fail
  refine (san_room0 _).mono ?_
  rintro e w4 ⟨rfl, hx⟩
  have X4 := Lib.hid (X3.out.trans hx)
  have p0 : w4.cell? ⟨w2.heap.size, 0, none⟩ = some (.int .i64 1) := X4.out.cell_new 0
  have p1 : w4.cell? ⟨w2.heap.size, 1, none⟩ = some (.int .i64 0) := X4.out.cell_new 1
  have p2 : w4.cell? ⟨w2.heap.size, 2, none⟩ = some (.slice A2 1 c2) := X4.out.cell_new 2
  clear hx
  go_wp2_with fail
  refine (san_room1 Hz.out _ ((At.of_own Hown.out).ext (((Ext.refl w2).alloc _).trans X4.out))).mono ?_
  rintro e w5 ⟨rfl, hx⟩
  have X5 := Lib.hid (((X2.out.alloc _).trans X4.out).trans hx)
  clear hx
  go_wp2
  go_ret
  exact ⟨rfl, X5.out⟩
end Go.Proofs.Ytkkldciofndedaa
