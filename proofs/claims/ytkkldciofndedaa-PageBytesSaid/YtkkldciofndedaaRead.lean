/- page.Read. -/
import Derived.Test.YtkkldciofndedaaReadPlain
import Derived.Test.YtkkldciofndedaaUpd2
namespace Go.Proofs.Ytkkldciofndedaa
open Go.RowKit
set_option linter.unusedVariables false

theorem pg_zero {s : ByteArray} {er : Int} (h : readX s = ((0, 0), ([], er))) {w w' : World} (hx : Ext w w') :
    PgPost (readX s).1.1 (readX s).1.2 (readX s).2.1 (readX s).2.2 w (.returned (.tuple #[.agg #[.int .i64 0, .int .i64 0, .slice none 0 0], .int .i64 er])) w' := by
  rw [h]; exact PgPost.zero hx

set_option maxRecDepth 100000 in
set_option maxHeartbeats 2000000 in
theorem read_form (s : ByteArray) (w : World) (h : ¬ s.size = 512) (hs : s.size ≤ 9223372036854775807) :
    Calls Try.prog 37 #[.string s] w (PgPost (readX s).1.1 (readX s).1.2 (readX s).2.1 (readX s).2.2 w) := by
  have HX := Lib.hid (readX_form h)
  have h' : ¬ (s.size : Int) = 512 := by omega
  go_enter Try.func37, Try.ntmps37
  go_wp2
  refine bodyPost_ret (v := .tuple #[.agg #[.int .i64 0, .int .i64 0, .slice none 0 0], .int .i64 11]) (by simp [results, Try.results37, go_sem]) rfl ?_
  exact pg_zero HX.out ((Ext.refl w).alloc _)

theorem Rd.ext {t : TypeId} {w w' : World} {B : Nat} {s : ByteArray} {p : Nat} {f : Bool} (h : Rd t w B s p f) (hx : Ext w w') : Rd t w' B s p f := ⟨h.1.ext hx, h.2⟩


theorem numS_lt4 (s : ByteArray) (p : Nat) : numS s p 4 < 4294967296 := by
  have h := numL_lt (s.extract p (p + 4)).data.toList
  have h2 : (s.extract p (p + 4)).data.toList.length ≤ 4 := by
    have : (s.extract p (p + 4)).size ≤ 4 := by rw [ByteArray.size_extract]; omega
    show (bl (s.extract p (p + 4))).length ≤ 4
    rw [bl_len]; exact this
  have h3 : (256 : Nat) ^ (s.extract p (p + 4)).data.toList.length ≤ 256 ^ 4 := Nat.pow_le_pow_right (by omega) h2
  unfold numS
  omega

theorem numS_lt1 (s : ByteArray) (p : Nat) : numS s p 1 < 256 := by
  have h := numL_lt (s.extract p (p + 1)).data.toList
  have h2 : (s.extract p (p + 1)).data.toList.length ≤ 1 := by
    have : (s.extract p (p + 1)).size ≤ 1 := by rw [ByteArray.size_extract]; omega
    show (bl (s.extract p (p + 1))).length ≤ 1
    rw [bl_len]; exact this
  have h3 : (256 : Nat) ^ (s.extract p (p + 1)).data.toList.length ≤ 256 ^ 1 := Nat.pow_le_pow_right (by omega) h2
  unfold numS
  omega

set_option maxRecDepth 100000 in
set_option maxHeartbeats 4000000 in
theorem read_sum (s : ByteArray) (w : World) (hs : s.size = 512) (h2 : ¬ (numS s 0 4 = sumF (s.extract 4 512) ∧ s.extract 5 9 = s.extract 508 512)) :
    Calls Try.prog 37 #[.string s] w (PgPost (readX s).1.1 (readX s).1.2 (readX s).2.1 (readX s).2.2 w) := by
  have HX := Lib.hid (readX_sum hs h2)
  obtain ⟨sm, hsm⟩ : ∃ x, x = numS s 0 4 := ⟨_, rfl⟩
  obtain ⟨kk, hkk⟩ : ∃ x, x = ((numS s 4 1 : Nat) : Int) := ⟨_, rfl⟩
  obtain ⟨ll, hll⟩ : ∃ x, x = ((numS s 5 4 : Nat) : Int) := ⟨_, rfl⟩
  obtain ⟨b4, hb4⟩ : ∃ x, x = s.extract 4 512 := ⟨_, rfl⟩
  obtain ⟨e5, he5⟩ : ∃ x, x = s.extract 5 9 := ⟨_, rfl⟩
  obtain ⟨e8, he8⟩ : ∃ x, x = s.extract 508 512 := ⟨_, rfl⟩
  have HS0 := Lib.hid hsm
  have HS1 := Lib.hid hkk
  have HS2 := Lib.hid hll
  have HB4 := Lib.hid hb4
  have HE5 := Lib.hid he5
  have HE8 := Lib.hid he8
  have hb4s : b4.size ≤ 512 := by rw [hb4, ByteArray.size_extract]; omega
  obtain ⟨q4, hq4⟩ : ∃ x, x = sumF b4 := ⟨_, rfl⟩
  have HQ4 := Lib.hid hq4
  have hsm4 : sm < 4294967296 := by rw [hsm]; exact numS_lt4 s 0
  have hsmw : IntKind.u32.wrap (sm : Int) = sm := by rw [IntKind.wrap_u32]; omega
  rw [← hsm, ← he5, ← he8, ← hb4, ← hq4] at h2
  clear hsm hkk hll hb4 he5 he8 hq4
  go_enter Try.func37, Try.ntmps37
  by_cases hq0 : sm = q4
  · have hq2 := str_ne (fun e => h2 ⟨hq0, e⟩)
    subst hq0
    have hq : True := trivial
    clear h2
    go_wp2_with fail
    refine (oread_any _ _ (by omega)).mono ?_
    rintro e w1 ⟨rfl, hrd, hx⟩
    obtain ⟨B, hB⟩ : ∃ x, x = (w.alloc (.cells #[.int .i64 0, .int .i64 0, .slice none 0 0] 26)).heap.size := ⟨_, rfl⟩
    rw [← hB] at hrd ⊢
    have hBw : w.heap.size < B := by rw [hB]; simp
    have RD1 := Lib.hid hrd
    have X1 := Lib.hid (((Ext.refl w).alloc _).trans hx)
    have D1 := Lib.hid ((Blk.new' (w := w) rfl).ext hx)
    clear hrd hx hB
    go_wp2_with fail
    refine (num_ok B s 0 4 _ RD1.out (by omega) (by omega)).mono ?_
    rw [← HS0.out]
    rintro e w2 ⟨rfl, hrd, hu⟩
    have RD2 := Lib.hid hrd
    have X2 := Lib.hid (X1.out.upd hu (by simp; omega))
    have D2 := Lib.hid (D1.out.upd hu (by simp; omega))
    clear hrd hu
    go_wp2_with fail
    refine (num_ok B s 4 1 _ RD2.out (by omega) (by omega)).mono ?_
    rw [← HS1.out]
    rintro e w3 ⟨rfl, hrd, hu⟩
    have RD3 := Lib.hid hrd
    have X3 := Lib.hid (X2.out.upd hu (by simp; omega))
    have D3 := Lib.hid (D2.out.upd hu (by simp; omega))
    clear hrd hu
    go_wp2_with fail
    refine (num_ok B s 5 4 _ RD3.out (by omega) (by omega)).mono ?_
    rw [← HS2.out]
    rintro e w4 ⟨rfl, hrd, hu⟩
    have RD4 := Lib.hid hrd
    have X4 := Lib.hid (X3.out.upd hu (by simp; omega))
    have D4 := Lib.hid (D3.out.upd hu (by simp; omega))
    clear hrd hu
    go_wp2_with fail
    obtain ⟨w5, hw5⟩ : ∃ z, z = w4.alloc (.cells #[.int .i64 kk, .int .i64 ll, .slice none 0 0] 26) := ⟨_, rfl⟩
    rw [← hw5]
    have hx : Ext w4 w5 := by rw [hw5]; exact (Ext.refl _).alloc _
    have D6 := Lib.hid (show Blk w5 w4.heap.size 26 #[.int .i64 kk, .int .i64 ll, .slice none 0 0] by rw [hw5]; exact Blk.new' rfl)
    have hb6 : w.heap.size < w4.heap.size := D4.out.lt
    have hb6B : B < w4.heap.size := RD4.out.1.lt
    have RD5 := Lib.hid (RD4.out.ext hx)
    have X5 := Lib.hid (X4.out.trans hx)
    have D5 := Lib.hid (D4.out.ext hx)
    clear hx hw5
    refine wp_region_E (by kernel_rfl) [0, 1, 0, 4, 12, 31, 63, 127, 255, 127, 639, 2047, 4095] (fun ix v W => match ix with | 0 => v = .int .i64 sm | 1 => v = .int .u32 sm | 2 => v = .string s | 3 => v = .string b4 | 4 => v = .int .u32 sm | 5 => v = .bool false | 6 => v = .bool false | 7 => v = .string s | 8 => v = .string e5 | 9 => v = .string s | 10 => v = .string e8 | 11 => v = .bool true | 12 => v = .bool true | _ => True) (by kernel_rfl) (by kernel_rfl) ?_ ?_ ?_
    · intro ix v W W' h hx
      match ix, h with
      | 0, h => exact h
      | 1, h => exact h
      | 2, h => exact h
      | 3, h => exact h
      | 4, h => exact h
      | 5, h => exact h
      | 6, h => exact h
      | 7, h => exact h
      | 8, h => exact h
      | 9, h => exact h
      | 10, h => exact h
      | 11, h => exact h
      | 12, h => exact h
      | _ + 13, _ => trivial
    · refine ⟨⟨⟨⟨⟨⟨⟨⟨⟨⟨⟨⟨⟨trivial, ?_⟩, ?_⟩, ?_⟩, ?_⟩, ?_⟩, ?_⟩, ?_⟩, ?_⟩, ?_⟩, ?_⟩, ?_⟩, ?_⟩, ?_⟩
      · intro ρ W hS hx hout hpre
        refine GSay.none rfl ?_
        have f5 : ρ (.tmp 5) = .int .i64 sm := hout 5 (by kernel_rfl)
        exact DoesU.value (v := .int .i64 sm) (w' := W) (by simp [go_sem, f5]) ⟨rfl, Ext.refl _⟩
      · intro ρ W hS hx hout hpre
        refine GSay.none rfl ?_
        have f22 : ρ (.tmp 22) = .int .i64 sm := hpre 0 22 (by kernel_rfl)
        exact DoesU.value (v := .int .u32 sm) (w' := W) (by simp [go_sem, f22, hsmw]) ⟨rfl, Ext.refl _⟩
      · intro ρ W hS hx hout hpre
        refine GSay.none rfl ?_
        have f0 : ρ (.tmp 0) = .string s := hout 0 (by kernel_rfl)
        exact DoesU.value (v := .string s) (w' := W) (by simp [go_sem, f0]) ⟨rfl, Ext.refl _⟩
      · intro ρ W hS hx hout hpre
        refine GSay.none rfl ?_
        have f24 : ρ (.tmp 24) = .string s := hpre 2 24 (by kernel_rfl)
        exact DoesU.value (v := .string b4) (w' := W) (by rw [HB4.out]; simp [go_sem, hS.const, f24, hs]) ⟨rfl, Ext.refl _⟩
      · intro ρ W hS hx hout hpre
        refine GSay.none rfl ?_
        have f25 : ρ (.tmp 25) = .string b4 := hpre 3 25 (by kernel_rfl)
        refine DoesU.call (f := 32) (args := #[.string b4]) (w' := W) (by simp [go_sem, hS.func, f25]) ?_
        refine (osum_any b4 _ (by omega)).mono ?_
        rw [← HQ4.out]
        rintro e w6 ⟨rfl, hx6⟩
        exact ⟨_, rfl, rfl, hx6⟩
      · intro ρ W hS hx hout hpre
        refine GSay.none rfl ?_
        have f23 : ρ (.tmp 23) = .int .u32 sm := hpre 1 23 (by kernel_rfl)
        have f26 : ρ (.tmp 26) = .int .u32 sm := hpre 4 26 (by kernel_rfl)
        exact DoesU.value (v := .bool false) (w' := W) (by simp [go_sem, f23, f26]) ⟨rfl, Ext.refl _⟩
      · intro ρ W hS hx hout hpre
        refine GSay.none rfl ?_
        have f27 : ρ (.tmp 27) = .bool false := hpre 5 27 (by kernel_rfl)
        exact DoesU.value (v := .bool false) (w' := W) (by simp [go_sem, f27]) ⟨rfl, Ext.refl _⟩
      · intro ρ W hS hx hout hpre
        have fg : ρ (.tmp 28) = .bool false := hpre 6 28 (by kernel_rfl)
        refine GSay.on (g := 6) (d := 28) rfl rfl fg ?_
        have f0 : ρ (.tmp 0) = .string s := hout 0 (by kernel_rfl)
        exact DoesU.value (v := .string s) (w' := W) (by simp [go_sem, f0]) ⟨rfl, Ext.refl _⟩
      · intro ρ W hS hx hout hpre
        have fg : ρ (.tmp 28) = .bool false := hpre 6 28 (by kernel_rfl)
        refine GSay.on (g := 6) (d := 28) rfl rfl fg ?_
        have f29 : ρ (.tmp 29) = .string s := hpre 7 29 (by kernel_rfl)
        exact DoesU.value (v := .string e5) (w' := W) (by rw [HE5.out]; simp [go_sem, hS.const, f29, hs]) ⟨rfl, Ext.refl _⟩
      · intro ρ W hS hx hout hpre
        have fg : ρ (.tmp 28) = .bool false := hpre 6 28 (by kernel_rfl)
        refine GSay.on (g := 6) (d := 28) rfl rfl fg ?_
        have f0 : ρ (.tmp 0) = .string s := hout 0 (by kernel_rfl)
        exact DoesU.value (v := .string s) (w' := W) (by simp [go_sem, f0]) ⟨rfl, Ext.refl _⟩
      · intro ρ W hS hx hout hpre
        have fg : ρ (.tmp 28) = .bool false := hpre 6 28 (by kernel_rfl)
        refine GSay.on (g := 6) (d := 28) rfl rfl fg ?_
        have f31 : ρ (.tmp 31) = .string s := hpre 9 31 (by kernel_rfl)
        exact DoesU.value (v := .string e8) (w' := W) (by rw [HE8.out]; simp [go_sem, hS.const, f31, hs]) ⟨rfl, Ext.refl _⟩
      · intro ρ W hS hx hout hpre
        have fg : ρ (.tmp 28) = .bool false := hpre 6 28 (by kernel_rfl)
        refine GSay.on (g := 6) (d := 28) rfl rfl fg ?_
        have f30 : ρ (.tmp 30) = .string e5 := hpre 8 30 (by kernel_rfl)
        have f32 : ρ (.tmp 32) = .string e8 := hpre 10 32 (by kernel_rfl)
        exact DoesU.value (v := .bool true) (w' := W) (by simp [go_sem, f30, f32, hq2]) ⟨rfl, Ext.refl _⟩
      · intro ρ W hS hx hout hpre
        refine GSay.none rfl ?_
        have f28 : ρ (.tmp 28) = .bool false := hpre 6 28 (by kernel_rfl)
        have f33 : ρ (.tmp 33) = .bool true := hpre 11 33 (by kernel_rfl)
        exact DoesU.value (v := .bool true) (w' := W) (by simp [go_sem, f28, f33, hS.const]) ⟨rfl, Ext.refl _⟩
    intro vs w6 hl hD hx
    replace hl := hl.trans (show (idxU _).length = 13 by kernel_rfl)
    rcases vs with _ | ⟨v22, vs⟩; · simp at hl
    rcases vs with _ | ⟨v23, vs⟩; · simp at hl
    rcases vs with _ | ⟨v24, vs⟩; · simp at hl
    rcases vs with _ | ⟨v25, vs⟩; · simp at hl
    rcases vs with _ | ⟨v26, vs⟩; · simp at hl
    rcases vs with _ | ⟨v27, vs⟩; · simp at hl
    rcases vs with _ | ⟨v28, vs⟩; · simp at hl
    rcases vs with _ | ⟨v29, vs⟩; · simp at hl
    rcases vs with _ | ⟨v30, vs⟩; · simp at hl
    rcases vs with _ | ⟨v31, vs⟩; · simp at hl
    rcases vs with _ | ⟨v32, vs⟩; · simp at hl
    rcases vs with _ | ⟨v33, vs⟩; · simp at hl
    rcases vs with _ | ⟨v34, vs⟩; · simp at hl
    obtain rfl : vs = [] := List.eq_nil_of_length_eq_zero (by simpa using hl)
    clear hl
    obtain rfl : v22 = .int .i64 sm := hD 0 0 v22 (by kernel_rfl) rfl
    obtain rfl : v23 = .int .u32 sm := hD 1 1 v23 (by kernel_rfl) rfl
    obtain rfl : v24 = .string s := hD 2 2 v24 (by kernel_rfl) rfl
    obtain rfl : v25 = .string b4 := hD 3 3 v25 (by kernel_rfl) rfl
    obtain rfl : v26 = .int .u32 sm := hD 4 4 v26 (by kernel_rfl) rfl
    obtain rfl : v27 = .bool false := hD 5 5 v27 (by kernel_rfl) rfl
    obtain rfl : v28 = .bool false := hD 6 6 v28 (by kernel_rfl) rfl
    obtain rfl : v29 = .string s := hD 7 7 v29 (by kernel_rfl) rfl
    obtain rfl : v30 = .string e5 := hD 8 8 v30 (by kernel_rfl) rfl
    obtain rfl : v31 = .string s := hD 9 9 v31 (by kernel_rfl) rfl
    obtain rfl : v32 = .string e8 := hD 10 10 v32 (by kernel_rfl) rfl
    obtain rfl : v33 = .bool true := hD 11 11 v33 (by kernel_rfl) rfl
    obtain rfl : v34 = .bool true := hD 12 12 v34 (by kernel_rfl) rfl
    clear hD
    rw [show dstsU _ = [22, 23, 24, 25, 26, 27, 28, 29, 30, 31, 32, 33, 34] by kernel_rfl]
    simp only [putAll, List.setIfInBounds_toArray, List.set_cons_succ, List.set_cons_zero]
    have RD6 := Lib.hid (RD5.out.ext hx)
    have X6 := Lib.hid (X5.out.trans hx)
    have D26 := Lib.hid (D5.out.ext hx)
    have D66 := Lib.hid (D6.out.ext hx)
    clear hx RD1 RD2 RD3 RD4 RD5 X1 X2 X3 X4 X5 D1 D2 D3 D4 D5 D6
    have c0 : w6.cell? ⟨w.heap.size, 0, none⟩ = some (.int .i64 0) := D26.out.cell 0
    have c1 : w6.cell? ⟨w.heap.size, 1, none⟩ = some (.int .i64 0) := D26.out.cell 1
    have c2 : w6.cell? ⟨w.heap.size, 2, none⟩ = some (.slice none 0 0) := D26.out.cell 2
    have c3 := D26.out.lt
    have g0 := D26.out.frozen 0
    have g1 := D26.out.frozen 1
    have g2 := D26.out.frozen 2
    go_wp2
    refine bodyPost_ret (v := .tuple #[.agg #[.int .i64 0, .int .i64 0, .slice none 0 0], .int .i64 12]) (by simp [results, Try.results37, go_sem, c0, c1, c2]) rfl ?_
    exact pg_zero HX.out (((X6.out.set (Nat.le_refl _) _).set (Nat.le_refl _) _).set (Nat.le_refl _) _)
  · have hq : ¬ (sm : Int) = q4 := by omega
    clear h2 hq0
    go_wp2_with fail
    refine (oread_any _ _ (by omega)).mono ?_
    rintro e w1 ⟨rfl, hrd, hx⟩
    obtain ⟨B, hB⟩ : ∃ x, x = (w.alloc (.cells #[.int .i64 0, .int .i64 0, .slice none 0 0] 26)).heap.size := ⟨_, rfl⟩
    rw [← hB] at hrd ⊢
    have hBw : w.heap.size < B := by rw [hB]; simp
    have RD1 := Lib.hid hrd
    have X1 := Lib.hid (((Ext.refl w).alloc _).trans hx)
    have D1 := Lib.hid ((Blk.new' (w := w) rfl).ext hx)
    clear hrd hx hB
    go_wp2_with fail
    refine (num_ok B s 0 4 _ RD1.out (by omega) (by omega)).mono ?_
    rw [← HS0.out]
    rintro e w2 ⟨rfl, hrd, hu⟩
    have RD2 := Lib.hid hrd
    have X2 := Lib.hid (X1.out.upd hu (by simp; omega))
    have D2 := Lib.hid (D1.out.upd hu (by simp; omega))
    clear hrd hu
    go_wp2_with fail
    refine (num_ok B s 4 1 _ RD2.out (by omega) (by omega)).mono ?_
    rw [← HS1.out]
    rintro e w3 ⟨rfl, hrd, hu⟩
    have RD3 := Lib.hid hrd
    have X3 := Lib.hid (X2.out.upd hu (by simp; omega))
    have D3 := Lib.hid (D2.out.upd hu (by simp; omega))
    clear hrd hu
    go_wp2_with fail
    refine (num_ok B s 5 4 _ RD3.out (by omega) (by omega)).mono ?_
    rw [← HS2.out]
    rintro e w4 ⟨rfl, hrd, hu⟩
    have RD4 := Lib.hid hrd
    have X4 := Lib.hid (X3.out.upd hu (by simp; omega))
    have D4 := Lib.hid (D3.out.upd hu (by simp; omega))
    clear hrd hu
    go_wp2_with fail
    obtain ⟨w5, hw5⟩ : ∃ z, z = w4.alloc (.cells #[.int .i64 kk, .int .i64 ll, .slice none 0 0] 26) := ⟨_, rfl⟩
    rw [← hw5]
    have hx : Ext w4 w5 := by rw [hw5]; exact (Ext.refl _).alloc _
    have D6 := Lib.hid (show Blk w5 w4.heap.size 26 #[.int .i64 kk, .int .i64 ll, .slice none 0 0] by rw [hw5]; exact Blk.new' rfl)
    have hb6 : w.heap.size < w4.heap.size := D4.out.lt
    have hb6B : B < w4.heap.size := RD4.out.1.lt
    have RD5 := Lib.hid (RD4.out.ext hx)
    have X5 := Lib.hid (X4.out.trans hx)
    have D5 := Lib.hid (D4.out.ext hx)
    clear hx hw5
    refine wp_region_E (by kernel_rfl) [0, 1, 0, 4, 12, 31, 63, 127, 255, 127, 639, 2047, 4095] (fun ix v W => match ix with | 0 => v = .int .i64 sm | 1 => v = .int .u32 sm | 2 => v = .string s | 3 => v = .string b4 | 4 => v = .int .u32 q4 | 5 => v = .bool true | 6 => v = .bool true | 7 => v = undef | 8 => v = undef | 9 => v = undef | 10 => v = undef | 11 => v = undef | 12 => v = .bool true | _ => True) (by kernel_rfl) (by kernel_rfl) ?_ ?_ ?_
    · intro ix v W W' h hx
      match ix, h with
      | 0, h => exact h
      | 1, h => exact h
      | 2, h => exact h
      | 3, h => exact h
      | 4, h => exact h
      | 5, h => exact h
      | 6, h => exact h
      | 7, h => exact h
      | 8, h => exact h
      | 9, h => exact h
      | 10, h => exact h
      | 11, h => exact h
      | 12, h => exact h
      | _ + 13, _ => trivial
    · refine ⟨⟨⟨⟨⟨⟨⟨⟨⟨⟨⟨⟨⟨trivial, ?_⟩, ?_⟩, ?_⟩, ?_⟩, ?_⟩, ?_⟩, ?_⟩, ?_⟩, ?_⟩, ?_⟩, ?_⟩, ?_⟩, ?_⟩
      · intro ρ W hS hx hout hpre
        refine GSay.none rfl ?_
        have f5 : ρ (.tmp 5) = .int .i64 sm := hout 5 (by kernel_rfl)
        exact DoesU.value (v := .int .i64 sm) (w' := W) (by simp [go_sem, f5]) ⟨rfl, Ext.refl _⟩
      · intro ρ W hS hx hout hpre
        refine GSay.none rfl ?_
        have f22 : ρ (.tmp 22) = .int .i64 sm := hpre 0 22 (by kernel_rfl)
        exact DoesU.value (v := .int .u32 sm) (w' := W) (by simp [go_sem, f22, hsmw]) ⟨rfl, Ext.refl _⟩
      · intro ρ W hS hx hout hpre
        refine GSay.none rfl ?_
        have f0 : ρ (.tmp 0) = .string s := hout 0 (by kernel_rfl)
        exact DoesU.value (v := .string s) (w' := W) (by simp [go_sem, f0]) ⟨rfl, Ext.refl _⟩
      · intro ρ W hS hx hout hpre
        refine GSay.none rfl ?_
        have f24 : ρ (.tmp 24) = .string s := hpre 2 24 (by kernel_rfl)
        exact DoesU.value (v := .string b4) (w' := W) (by rw [HB4.out]; simp [go_sem, hS.const, f24, hs]) ⟨rfl, Ext.refl _⟩
      · intro ρ W hS hx hout hpre
        refine GSay.none rfl ?_
        have f25 : ρ (.tmp 25) = .string b4 := hpre 3 25 (by kernel_rfl)
        refine DoesU.call (f := 32) (args := #[.string b4]) (w' := W) (by simp [go_sem, hS.func, f25]) ?_
        refine (osum_any b4 _ (by omega)).mono ?_
        rw [← HQ4.out]
        rintro e w6 ⟨rfl, hx6⟩
        exact ⟨_, rfl, rfl, hx6⟩
      · intro ρ W hS hx hout hpre
        refine GSay.none rfl ?_
        have f23 : ρ (.tmp 23) = .int .u32 sm := hpre 1 23 (by kernel_rfl)
        have f26 : ρ (.tmp 26) = .int .u32 q4 := hpre 4 26 (by kernel_rfl)
        exact DoesU.value (v := .bool true) (w' := W) (by simp [go_sem, f23, f26, hq]) ⟨rfl, Ext.refl _⟩
      · intro ρ W hS hx hout hpre
        refine GSay.none rfl ?_
        have f27 : ρ (.tmp 27) = .bool true := hpre 5 27 (by kernel_rfl)
        exact DoesU.value (v := .bool true) (w' := W) (by simp [go_sem, f27]) ⟨rfl, Ext.refl _⟩
      · intro ρ W hS hx hout hpre
        have fg : ρ (.tmp 28) = .bool true := hpre 6 28 (by kernel_rfl)
        exact GSay.off (g := 6) (d := 28) rfl rfl fg (by decide) rfl
      · intro ρ W hS hx hout hpre
        have fg : ρ (.tmp 28) = .bool true := hpre 6 28 (by kernel_rfl)
        exact GSay.off (g := 6) (d := 28) rfl rfl fg (by decide) rfl
      · intro ρ W hS hx hout hpre
        have fg : ρ (.tmp 28) = .bool true := hpre 6 28 (by kernel_rfl)
        exact GSay.off (g := 6) (d := 28) rfl rfl fg (by decide) rfl
      · intro ρ W hS hx hout hpre
        have fg : ρ (.tmp 28) = .bool true := hpre 6 28 (by kernel_rfl)
        exact GSay.off (g := 6) (d := 28) rfl rfl fg (by decide) rfl
      · intro ρ W hS hx hout hpre
        have fg : ρ (.tmp 28) = .bool true := hpre 6 28 (by kernel_rfl)
        exact GSay.off (g := 6) (d := 28) rfl rfl fg (by decide) rfl
      · intro ρ W hS hx hout hpre
        refine GSay.none rfl ?_
        have f28 : ρ (.tmp 28) = .bool true := hpre 6 28 (by kernel_rfl)
        have f33 : ρ (.tmp 33) = undef := hpre 11 33 (by kernel_rfl)
        exact DoesU.value (v := .bool true) (w' := W) (by simp [go_sem, f28, f33, hS.const]) ⟨rfl, Ext.refl _⟩
    intro vs w6 hl hD hx
    replace hl := hl.trans (show (idxU _).length = 13 by kernel_rfl)
    rcases vs with _ | ⟨v22, vs⟩; · simp at hl
    rcases vs with _ | ⟨v23, vs⟩; · simp at hl
    rcases vs with _ | ⟨v24, vs⟩; · simp at hl
    rcases vs with _ | ⟨v25, vs⟩; · simp at hl
    rcases vs with _ | ⟨v26, vs⟩; · simp at hl
    rcases vs with _ | ⟨v27, vs⟩; · simp at hl
    rcases vs with _ | ⟨v28, vs⟩; · simp at hl
    rcases vs with _ | ⟨v29, vs⟩; · simp at hl
    rcases vs with _ | ⟨v30, vs⟩; · simp at hl
    rcases vs with _ | ⟨v31, vs⟩; · simp at hl
    rcases vs with _ | ⟨v32, vs⟩; · simp at hl
    rcases vs with _ | ⟨v33, vs⟩; · simp at hl
    rcases vs with _ | ⟨v34, vs⟩; · simp at hl
    obtain rfl : vs = [] := List.eq_nil_of_length_eq_zero (by simpa using hl)
    clear hl
    obtain rfl : v22 = .int .i64 sm := hD 0 0 v22 (by kernel_rfl) rfl
    obtain rfl : v23 = .int .u32 sm := hD 1 1 v23 (by kernel_rfl) rfl
    obtain rfl : v24 = .string s := hD 2 2 v24 (by kernel_rfl) rfl
    obtain rfl : v25 = .string b4 := hD 3 3 v25 (by kernel_rfl) rfl
    obtain rfl : v26 = .int .u32 q4 := hD 4 4 v26 (by kernel_rfl) rfl
    obtain rfl : v27 = .bool true := hD 5 5 v27 (by kernel_rfl) rfl
    obtain rfl : v28 = .bool true := hD 6 6 v28 (by kernel_rfl) rfl
    obtain rfl : v29 = undef := hD 7 7 v29 (by kernel_rfl) rfl
    obtain rfl : v30 = undef := hD 8 8 v30 (by kernel_rfl) rfl
    obtain rfl : v31 = undef := hD 9 9 v31 (by kernel_rfl) rfl
    obtain rfl : v32 = undef := hD 10 10 v32 (by kernel_rfl) rfl
    obtain rfl : v33 = undef := hD 11 11 v33 (by kernel_rfl) rfl
    obtain rfl : v34 = .bool true := hD 12 12 v34 (by kernel_rfl) rfl
    clear hD
    rw [show dstsU _ = [22, 23, 24, 25, 26, 27, 28, 29, 30, 31, 32, 33, 34] by kernel_rfl]
    simp only [putAll, List.setIfInBounds_toArray, List.set_cons_succ, List.set_cons_zero]
    have RD6 := Lib.hid (RD5.out.ext hx)
    have X6 := Lib.hid (X5.out.trans hx)
    have D26 := Lib.hid (D5.out.ext hx)
    have D66 := Lib.hid (D6.out.ext hx)
    clear hx RD1 RD2 RD3 RD4 RD5 X1 X2 X3 X4 X5 D1 D2 D3 D4 D5 D6
    have c0 : w6.cell? ⟨w.heap.size, 0, none⟩ = some (.int .i64 0) := D26.out.cell 0
    have c1 : w6.cell? ⟨w.heap.size, 1, none⟩ = some (.int .i64 0) := D26.out.cell 1
    have c2 : w6.cell? ⟨w.heap.size, 2, none⟩ = some (.slice none 0 0) := D26.out.cell 2
    have c3 := D26.out.lt
    have g0 := D26.out.frozen 0
    have g1 := D26.out.frozen 1
    have g2 := D26.out.frozen 2
    go_wp2
    refine bodyPost_ret (v := .tuple #[.agg #[.int .i64 0, .int .i64 0, .slice none 0 0], .int .i64 12]) (by simp [results, Try.results37, go_sem, c0, c1, c2]) rfl ?_
    exact pg_zero HX.out (((X6.out.set (Nat.le_refl _) _).set (Nat.le_refl _) _).set (Nat.le_refl _) _)

set_option maxRecDepth 100000 in
set_option maxHeartbeats 8000000 in
theorem read_page (s : ByteArray) (w : World) (hs : s.size = 512) (h2 : numS s 0 4 = sumF (s.extract 4 512) ∧ s.extract 5 9 = s.extract 508 512) :
    Calls Try.prog 37 #[.string s] w (PgPost (readX s).1.1 (readX s).1.2 (readX s).2.1 (readX s).2.2 w) := by
  obtain ⟨i0, hi0, hz0, hz1, hz2⟩ := info_parts Try.infoStr
  have HX := Lib.hid (fun (xs : List ByteArray) (p : Nat) (f : Bool) (h : txSt s (numS s 9 1) xs p f) => readX_st hs h2 h)
  obtain ⟨sm, hsm⟩ : ∃ x, x = numS s 0 4 := ⟨_, rfl⟩
  obtain ⟨kk, hkk⟩ : ∃ x, x = ((numS s 4 1 : Nat) : Int) := ⟨_, rfl⟩
  obtain ⟨ll, hll⟩ : ∃ x, x = ((numS s 5 4 : Nat) : Int) := ⟨_, rfl⟩
  obtain ⟨b4, hb4⟩ : ∃ x, x = s.extract 4 512 := ⟨_, rfl⟩
  obtain ⟨e5, he5⟩ : ∃ x, x = s.extract 5 9 := ⟨_, rfl⟩
  obtain ⟨e8, he8⟩ : ∃ x, x = s.extract 508 512 := ⟨_, rfl⟩
  have HS0 := Lib.hid hsm
  have HS1 := Lib.hid hkk
  have HS2 := Lib.hid hll
  have HB4 := Lib.hid hb4
  have HE5 := Lib.hid he5
  have HE8 := Lib.hid he8
  have hb4s : b4.size ≤ 512 := by rw [hb4, ByteArray.size_extract]; omega
  obtain ⟨q4, hq4⟩ : ∃ x, x = sumF b4 := ⟨_, rfl⟩
  have HQ4 := Lib.hid hq4
  have hsm4 : sm < 4294967296 := by rw [hsm]; exact numS_lt4 s 0
  have hsmw : IntKind.u32.wrap (sm : Int) = sm := by rw [IntKind.wrap_u32]; omega
  obtain ⟨n, hn⟩ : ∃ x, x = numS s 9 1 := ⟨_, rfl⟩
  rw [← hkk, ← hll, ← hn] at HX
  rw [← hsm, ← he5, ← he8, ← hb4, ← hq4] at h2
  have HN := Lib.hid hn
  clear hsm hkk hll hb4 he5 he8 hq4 hn
  obtain ⟨hq0, hq1⟩ := h2
  subst hq0
  subst hq1
  have hq : True := trivial
  have hq2 : True := trivial
  go_enter Try.func37, Try.ntmps37
  go_wp2_with fail
  refine (oread_any _ _ (by omega)).mono ?_
  rintro e w1 ⟨rfl, hrd, hx⟩
  obtain ⟨B, hB⟩ : ∃ x, x = (w.alloc (.cells #[.int .i64 0, .int .i64 0, .slice none 0 0] 26)).heap.size := ⟨_, rfl⟩
  rw [← hB] at hrd ⊢
  have hBw : w.heap.size < B := by rw [hB]; simp
  have RD1 := Lib.hid hrd
  have X1 := Lib.hid (((Ext.refl w).alloc _).trans hx)
  have D1 := Lib.hid ((Blk.new' (w := w) rfl).ext hx)
  clear hrd hx hB
  go_wp2_with fail
  refine (num_ok B s 0 4 _ RD1.out (by omega) (by omega)).mono ?_
  rw [← HS0.out]
  rintro e w2 ⟨rfl, hrd, hu⟩
  have RD2 := Lib.hid hrd
  have X2 := Lib.hid (X1.out.upd hu (by simp; omega))
  have D2 := Lib.hid (D1.out.upd hu (by simp; omega))
  clear hrd hu
  go_wp2_with fail
  refine (num_ok B s 4 1 _ RD2.out (by omega) (by omega)).mono ?_
  rw [← HS1.out]
  rintro e w3 ⟨rfl, hrd, hu⟩
  have RD3 := Lib.hid hrd
  have X3 := Lib.hid (X2.out.upd hu (by simp; omega))
  have D3 := Lib.hid (D2.out.upd hu (by simp; omega))
  clear hrd hu
  go_wp2_with fail
  refine (num_ok B s 5 4 _ RD3.out (by omega) (by omega)).mono ?_
  rw [← HS2.out]
  rintro e w4 ⟨rfl, hrd, hu⟩
  have RD4 := Lib.hid hrd
  have X4 := Lib.hid (X3.out.upd hu (by simp; omega))
  have D4 := Lib.hid (D3.out.upd hu (by simp; omega))
  clear hrd hu
  go_wp2_with fail
  obtain ⟨w5, hw5⟩ : ∃ z, z = w4.alloc (.cells #[.int .i64 kk, .int .i64 ll, .slice none 0 0] 26) := ⟨_, rfl⟩
  rw [← hw5]
  have hx : Ext w4 w5 := by rw [hw5]; exact (Ext.refl _).alloc _
  have D6 := Lib.hid (show Blk w5 w4.heap.size 26 #[.int .i64 kk, .int .i64 ll, .slice none 0 0] by rw [hw5]; exact Blk.new' rfl)
  have hb6 : w.heap.size < w4.heap.size := D4.out.lt
  have hb6B : B < w4.heap.size := RD4.out.1.lt
  have RD5 := Lib.hid (RD4.out.ext hx)
  have X5 := Lib.hid (X4.out.trans hx)
  have D5 := Lib.hid (D4.out.ext hx)
  clear hx hw5
  refine wp_region_E (by kernel_rfl) [0, 1, 0, 4, 12, 31, 63, 127, 255, 127, 639, 2047, 4095] (fun ix v W => match ix with | 0 => v = .int .i64 sm | 1 => v = .int .u32 sm | 2 => v = .string s | 3 => v = .string b4 | 4 => v = .int .u32 sm | 5 => v = .bool false | 6 => v = .bool false | 7 => v = .string s | 8 => v = .string e5 | 9 => v = .string s | 10 => v = .string e5 | 11 => v = .bool false | 12 => v = .bool false | _ => True) (by kernel_rfl) (by kernel_rfl) ?_ ?_ ?_
  · intro ix v W W' h hx
    match ix, h with
    | 0, h => exact h
    | 1, h => exact h
    | 2, h => exact h
    | 3, h => exact h
    | 4, h => exact h
    | 5, h => exact h
    | 6, h => exact h
    | 7, h => exact h
    | 8, h => exact h
    | 9, h => exact h
    | 10, h => exact h
    | 11, h => exact h
    | 12, h => exact h
    | _ + 13, _ => trivial
  · refine ⟨⟨⟨⟨⟨⟨⟨⟨⟨⟨⟨⟨⟨trivial, ?_⟩, ?_⟩, ?_⟩, ?_⟩, ?_⟩, ?_⟩, ?_⟩, ?_⟩, ?_⟩, ?_⟩, ?_⟩, ?_⟩, ?_⟩
    · intro ρ W hS hx hout hpre
      refine GSay.none rfl ?_
      have f5 : ρ (.tmp 5) = .int .i64 sm := hout 5 (by kernel_rfl)
      exact DoesU.value (v := .int .i64 sm) (w' := W) (by simp [go_sem, f5]) ⟨rfl, Ext.refl _⟩
    · intro ρ W hS hx hout hpre
      refine GSay.none rfl ?_
      have f22 : ρ (.tmp 22) = .int .i64 sm := hpre 0 22 (by kernel_rfl)
      exact DoesU.value (v := .int .u32 sm) (w' := W) (by simp [go_sem, f22, hsmw]) ⟨rfl, Ext.refl _⟩
    · intro ρ W hS hx hout hpre
      refine GSay.none rfl ?_
      have f0 : ρ (.tmp 0) = .string s := hout 0 (by kernel_rfl)
      exact DoesU.value (v := .string s) (w' := W) (by simp [go_sem, f0]) ⟨rfl, Ext.refl _⟩
    · intro ρ W hS hx hout hpre
      refine GSay.none rfl ?_
      have f24 : ρ (.tmp 24) = .string s := hpre 2 24 (by kernel_rfl)
      exact DoesU.value (v := .string b4) (w' := W) (by rw [HB4.out]; simp [go_sem, hS.const, f24, hs]) ⟨rfl, Ext.refl _⟩
    · intro ρ W hS hx hout hpre
      refine GSay.none rfl ?_
      have f25 : ρ (.tmp 25) = .string b4 := hpre 3 25 (by kernel_rfl)
      refine DoesU.call (f := 32) (args := #[.string b4]) (w' := W) (by simp [go_sem, hS.func, f25]) ?_
      refine (osum_any b4 _ (by omega)).mono ?_
      rw [← HQ4.out]
      rintro e w6 ⟨rfl, hx6⟩
      exact ⟨_, rfl, rfl, hx6⟩
    · intro ρ W hS hx hout hpre
      refine GSay.none rfl ?_
      have f23 : ρ (.tmp 23) = .int .u32 sm := hpre 1 23 (by kernel_rfl)
      have f26 : ρ (.tmp 26) = .int .u32 sm := hpre 4 26 (by kernel_rfl)
      exact DoesU.value (v := .bool false) (w' := W) (by simp [go_sem, f23, f26]) ⟨rfl, Ext.refl _⟩
    · intro ρ W hS hx hout hpre
      refine GSay.none rfl ?_
      have f27 : ρ (.tmp 27) = .bool false := hpre 5 27 (by kernel_rfl)
      exact DoesU.value (v := .bool false) (w' := W) (by simp [go_sem, f27]) ⟨rfl, Ext.refl _⟩
    · intro ρ W hS hx hout hpre
      have fg : ρ (.tmp 28) = .bool false := hpre 6 28 (by kernel_rfl)
      refine GSay.on (g := 6) (d := 28) rfl rfl fg ?_
      have f0 : ρ (.tmp 0) = .string s := hout 0 (by kernel_rfl)
      exact DoesU.value (v := .string s) (w' := W) (by simp [go_sem, f0]) ⟨rfl, Ext.refl _⟩
    · intro ρ W hS hx hout hpre
      have fg : ρ (.tmp 28) = .bool false := hpre 6 28 (by kernel_rfl)
      refine GSay.on (g := 6) (d := 28) rfl rfl fg ?_
      have f29 : ρ (.tmp 29) = .string s := hpre 7 29 (by kernel_rfl)
      exact DoesU.value (v := .string e5) (w' := W) (by rw [HE5.out]; simp [go_sem, hS.const, f29, hs]) ⟨rfl, Ext.refl _⟩
    · intro ρ W hS hx hout hpre
      have fg : ρ (.tmp 28) = .bool false := hpre 6 28 (by kernel_rfl)
      refine GSay.on (g := 6) (d := 28) rfl rfl fg ?_
      have f0 : ρ (.tmp 0) = .string s := hout 0 (by kernel_rfl)
      exact DoesU.value (v := .string s) (w' := W) (by simp [go_sem, f0]) ⟨rfl, Ext.refl _⟩
    · intro ρ W hS hx hout hpre
      have fg : ρ (.tmp 28) = .bool false := hpre 6 28 (by kernel_rfl)
      refine GSay.on (g := 6) (d := 28) rfl rfl fg ?_
      have f31 : ρ (.tmp 31) = .string s := hpre 9 31 (by kernel_rfl)
      exact DoesU.value (v := .string e5) (w' := W) (by rw [HE8.out]; simp [go_sem, hS.const, f31, hs]) ⟨rfl, Ext.refl _⟩
    · intro ρ W hS hx hout hpre
      have fg : ρ (.tmp 28) = .bool false := hpre 6 28 (by kernel_rfl)
      refine GSay.on (g := 6) (d := 28) rfl rfl fg ?_
      have f30 : ρ (.tmp 30) = .string e5 := hpre 8 30 (by kernel_rfl)
      have f32 : ρ (.tmp 32) = .string e5 := hpre 10 32 (by kernel_rfl)
      exact DoesU.value (v := .bool false) (w' := W) (by simp [go_sem, f30, f32]) ⟨rfl, Ext.refl _⟩
    · intro ρ W hS hx hout hpre
      refine GSay.none rfl ?_
      have f28 : ρ (.tmp 28) = .bool false := hpre 6 28 (by kernel_rfl)
      have f33 : ρ (.tmp 33) = .bool false := hpre 11 33 (by kernel_rfl)
      exact DoesU.value (v := .bool false) (w' := W) (by simp [go_sem, f28, f33, hS.const]) ⟨rfl, Ext.refl _⟩
  intro vs w6 hl hD hx
  replace hl := hl.trans (show (idxU _).length = 13 by kernel_rfl)
  rcases vs with _ | ⟨v22, vs⟩; · simp at hl
  rcases vs with _ | ⟨v23, vs⟩; · simp at hl
  rcases vs with _ | ⟨v24, vs⟩; · simp at hl
  rcases vs with _ | ⟨v25, vs⟩; · simp at hl
  rcases vs with _ | ⟨v26, vs⟩; · simp at hl
  rcases vs with _ | ⟨v27, vs⟩; · simp at hl
  rcases vs with _ | ⟨v28, vs⟩; · simp at hl
  rcases vs with _ | ⟨v29, vs⟩; · simp at hl
  rcases vs with _ | ⟨v30, vs⟩; · simp at hl
  rcases vs with _ | ⟨v31, vs⟩; · simp at hl
  rcases vs with _ | ⟨v32, vs⟩; · simp at hl
  rcases vs with _ | ⟨v33, vs⟩; · simp at hl
  rcases vs with _ | ⟨v34, vs⟩; · simp at hl
  obtain rfl : vs = [] := List.eq_nil_of_length_eq_zero (by simpa using hl)
  clear hl
  obtain rfl : v22 = .int .i64 sm := hD 0 0 v22 (by kernel_rfl) rfl
  obtain rfl : v23 = .int .u32 sm := hD 1 1 v23 (by kernel_rfl) rfl
  obtain rfl : v24 = .string s := hD 2 2 v24 (by kernel_rfl) rfl
  obtain rfl : v25 = .string b4 := hD 3 3 v25 (by kernel_rfl) rfl
  obtain rfl : v26 = .int .u32 sm := hD 4 4 v26 (by kernel_rfl) rfl
  obtain rfl : v27 = .bool false := hD 5 5 v27 (by kernel_rfl) rfl
  obtain rfl : v28 = .bool false := hD 6 6 v28 (by kernel_rfl) rfl
  obtain rfl : v29 = .string s := hD 7 7 v29 (by kernel_rfl) rfl
  obtain rfl : v30 = .string e5 := hD 8 8 v30 (by kernel_rfl) rfl
  obtain rfl : v31 = .string s := hD 9 9 v31 (by kernel_rfl) rfl
  obtain rfl : v32 = .string e5 := hD 10 10 v32 (by kernel_rfl) rfl
  obtain rfl : v33 = .bool false := hD 11 11 v33 (by kernel_rfl) rfl
  obtain rfl : v34 = .bool false := hD 12 12 v34 (by kernel_rfl) rfl
  clear hD
  rw [show dstsU _ = [22, 23, 24, 25, 26, 27, 28, 29, 30, 31, 32, 33, 34] by kernel_rfl]
  simp only [putAll, List.setIfInBounds_toArray, List.set_cons_succ, List.set_cons_zero]
  have RD6 := Lib.hid (RD5.out.ext hx)
  have X6 := Lib.hid (X5.out.trans hx)
  have D26 := Lib.hid (D5.out.ext hx)
  have D66 := Lib.hid (D6.out.ext hx)
  clear hx RD1 RD2 RD3 RD4 RD5 X1 X2 X3 X4 X5 D1 D2 D3 D4 D5 D6
  go_wp2_with fail
  refine (num_ok B s 9 1 _ RD6.out (by omega) (by omega)).mono ?_
  rw [← HN.out]
  rintro e w7 ⟨rfl, hrd, hu⟩
  have RD7 := Lib.hid hrd
  have X7 := Lib.hid (X6.out.upd hu (by simp; omega))
  have D7 := Lib.hid (D26.out.upd hu (by simp; omega))
  have P7 := Lib.hid (D66.out.upd hu (by simp; omega))
  clear hrd hu RD6 X6 D26 D66
  obtain ⟨b6, hb6e⟩ : ∃ x, x = w4.heap.size := ⟨_, rfl⟩
  rw [← hb6e] at hb6 hb6B P7 ⊢
  have hn256 : n < 256 := by rw [HN.out]; exact numS_lt1 s 9
  clear hb6e
  go_wp2
  go_loopw [38] (fun v wr => ∃ (j : Nat) (xs : List ByteArray) (p : Nat) (f : Bool) (A : Option Addr) (c : Nat), v = .int .i64 j ∧ j ≤ n ∧ txSt s j xs p f ∧ Rd 95 wr B s p f ∧
    Blk wr b6 26 #[.int .i64 kk, .int .i64 ll, .slice A j c] ∧ wr.ownsRow w.heap.size 9 1 (.slice A j c) j (xs.map Value.string) ∧ Blk wr w.heap.size 26 #[.int .i64 0, .int .i64 0, .slice none 0 0] ∧ Ext w wr) (fun v _ => n - (intOf v).toNat)
  case atStart => exact ⟨0, [], 10, false, none, 0, rfl, Nat.zero_le _, txSt.zero s, RD7.out, P7.out, World.ownsRow_nil _ _ _ _, D7.out, X7.out⟩
  case round =>
    obtain ⟨j, xs, p, f, A, c, rfl, hj, hst, hrd, hbk, ho, hd, hx⟩ := hrel
    have HST := Lib.hid hst
    have RD := Lib.hid hrd
    have HB := Lib.hid hbk
    have HO := Lib.hid ho
    have HD := Lib.hid hd
    have XR := Lib.hid hx
    clear hst hrd hbk ho hd hx
    rcases Nat.lt_or_ge j n with hlt | hge
    · have hil : (j : Int) < (n : Int) := by omega
      obtain ⟨x, p', f', hts⟩ := tx_step HST.out hs
      have TS := Lib.hid hts
      obtain ⟨Y, hY⟩ : ∃ z, z = xs ++ [x] := ⟨_, rfl⟩
      have HY := Lib.hid hY
      clear hts hY
      have hwr := HB.out.lt
      have hbw := RD.out.1.lt
      go_wp2_with fail
      refine wp_region_U (by kernel_rfl) [0, 1, 0, 4, 12, 31, 63, 127] [3, 5, 7] (fun kz W => match kz with | 0 => Ext wr W | 1 => (Rd 95 W B s p' f' ∧ Blk W b6 26 #[.int .i64 kk, .int .i64 ll, .slice A j c] ∧ W.ownsRow w.heap.size 9 1 (.slice A j c) j (xs.map Value.string) ∧ Blk W w.heap.size 26 #[.int .i64 0, .int .i64 0, .slice none 0 0] ∧ Ext w W ∧ wr.heap.size ≤ W.heap.size) | 2 => (Rd 95 W B s p' f' ∧ Blk W b6 26 #[.int .i64 kk, .int .i64 ll, .slice A j c] ∧ Blk W w.heap.size 26 #[.int .i64 0, .int .i64 0, .slice none 0 0] ∧ Ext w W) | _ => (Rd 95 W B s p' f' ∧ Blk W w.heap.size 26 #[.int .i64 0, .int .i64 0, .slice none 0 0] ∧ Ext w W)) (fun ix v σ W => match ix with | 0 => v = .pointer (some ⟨b6, 2, none⟩) | 1 => v = .slice A j c | 2 => v = .pointer (some ⟨B, 0, none⟩) | 3 => v = .string x | 4 => ∃ (B44 : Nat), v = .slice ((some ⟨B44, 0, none⟩)) 1 1 ∧ wr.heap.size ≤ B44 ∧ Blk W B44 9 #[.string x] | 5 => ∃ (A45 : Option Addr) (c45 : Nat), v = .slice A45 (j + 1) c45 ∧ W.ownsRow w.heap.size 9 1 (.slice A45 (j + 1) c45) (j + 1) (Y.map Value.string) | 6 => v = .pointer (some ⟨b6, 2, none⟩) | 7 => Blk W b6 26 #[.int .i64 kk, .int .i64 ll, σ 45] | _ => True) (by kernel_rfl) (by kernel_rfl) (by decide) (by kernel_rfl) ?_ ?_ ?_ ?_ ?_ ?_ ?_
      · intro ix v σ σ' W hs h
        match ix, hs, h with
        | 0, hs, h => exact h
        | 1, hs, h => exact h
        | 2, hs, h => exact h
        | 3, hs, h => exact h
        | 4, hs, h => exact h
        | 5, hs, h => exact h
        | 6, hs, h => exact h
        | 7, hs, h => 
          have e45 := hs 5 45 (by kernel_rfl)
          simp only [e45] at h; exact h
        | _ + 8, _, _ => trivial
      · exact (Ext.refl wr).drew
      · intro kz W W' h hx
        match kz, h with
        | 0, h => exact h.trans hx
        | 1, h => exact ⟨h.1.ext hx, h.2.1.ext hx, own_ext h.2.2.1 hx, h.2.2.2.1.ext hx, h.2.2.2.2.1.trans hx, Nat.le_trans h.2.2.2.2.2 hx.size⟩
        | 2, h => exact ⟨h.1.ext hx, h.2.1.ext hx, h.2.2.1.ext hx, h.2.2.2.trans hx⟩
        | _ + 3, h => exact ⟨h.1.ext hx, h.2.1.ext hx, h.2.2.trans hx⟩
      · intro ix v σ W W' h hx
        match ix, h with
        | 0, h => exact h
        | 1, h => exact h
        | 2, h => exact h
        | 3, h => exact h
        | 4, h => exact let ⟨B44, he, hb44, hk44⟩ := h; ⟨B44, he, hb44, Blk.ext hk44 hx⟩
        | 5, h => exact let ⟨A45, c45, he, ho45⟩ := h; ⟨A45, c45, he, own_ext ho45 hx⟩
        | 6, h => exact h
        | 7, h => exact Blk.ext h hx
        | _ + 8, _ => trivial
      · refine ⟨⟨⟨⟨⟨⟨⟨⟨trivial, ?_⟩, ?_⟩, ?_⟩, ?_⟩, ?_⟩, ?_⟩, ?_⟩, ?_⟩
        · intro _ ρ W kz hS hJ hkl hbt hout hpre hpreN
          refine GSay.none rfl ?_
          have f6 : ρ (.tmp 6) = .pointer (some ⟨b6, 0, none⟩) := hout 6 (by kernel_rfl)
          exact DoesU.value (v := .pointer (some ⟨b6, 2, none⟩)) (w' := W) (by simp [go_sem, f6]) ⟨rfl, Ext.refl _⟩
        · intro _ ρ W kz hS hJ hkl hbt hout hpre hpreN
          have hx := hJ
          refine GSay.none rfl ?_
          have f40 : ρ (.tmp 40) = .pointer (some ⟨b6, 2, none⟩) := hpre 0 40 (by kernel_rfl)
          have hq : Blk W b6 26 #[.int .i64 kk, .int .i64 ll, .slice A j c] := by have := hbt 0 1 (by kernel_rfl); rcases kz with _ | _ | kz; exact HB.out.ext hJ; exact hJ.2.1; exact absurd this.2 (by omega)
          have c2 := hq.cell 2
          exact DoesU.value (v := .slice A j c) (w' := W) (by simp [go_sem, f40, c2]) ⟨rfl, Ext.refl _⟩
        · intro _ ρ W kz hS hJ hkl hbt hout hpre hpreN
          refine GSay.none rfl ?_
          have f4 : ρ (.tmp 4) = .pointer (some ⟨B, 0, none⟩) := hout 4 (by kernel_rfl)
          exact DoesU.value (v := .pointer (some ⟨B, 0, none⟩)) (w' := W) (by simp [go_sem, f4]) ⟨rfl, Ext.refl _⟩
        · intro hz; exact absurd (by decide) hz
        · intro _ ρ W kz hS hJ hkl hbt hout hpre hpreN
          obtain rfl : kz = 1 := by have := hbt 1 1 (by kernel_rfl); omega
          have hx : Ext w W := hJ.2.2.2.2.1
          refine GSay.none rfl ?_
          have f43 : ρ (.tmp 43) = .string x := hpre 3 43 (by kernel_rfl)
          exact DoesU.value (v := .slice (some ⟨W.heap.size, 0, none⟩) 1 1) (w' := W.alloc (.cells #[.string x] 9)) (by simp [go_sem, f43]) ⟨⟨_, rfl, hJ.2.2.2.2.2, Blk.new _ _ _⟩, (Ext.refl W).alloc _⟩
        · intro hz; exact absurd (by decide) hz
        · intro _ ρ W kz hS hJ hkl hbt hout hpre hpreN
          refine GSay.none rfl ?_
          have f6 : ρ (.tmp 6) = .pointer (some ⟨b6, 0, none⟩) := hout 6 (by kernel_rfl)
          exact DoesU.value (v := .pointer (some ⟨b6, 2, none⟩)) (w' := W) (by simp [go_sem, f6]) ⟨rfl, Ext.refl _⟩
        · intro hz; exact absurd (by decide) hz
      · refine ⟨⟨⟨trivial, ?_⟩, ?_⟩, ?_⟩
        · intro ρ W hS hJ hout hpre hpreN
          refine ⟨rfl, ?_⟩
          have f42 : ρ (.tmp 42) = .pointer (some ⟨B, 0, none⟩) := hpre 2 42 (by kernel_rfl)
          have hx : Ext _ W := hJ
          refine DoesU.call (f := 31) (args := #[.pointer (some ⟨B, 0, none⟩)]) (w' := W) (by simp [go_sem, hS.func, f42]) ?_
          refine (TS.out.own B W (RD.out.ext hx)).mono ?_
          rintro e w6 ⟨rfl, hrd6, hu6⟩
          exact ⟨_, rfl, rfl, ⟨hrd6, (HB.out.ext hx).upd hu6 (by simp; omega), own_upd1 (own_ext HO.out hx) (RD.out.ext hx).1 (by decide) hu6, (HD.out.ext hx).upd hu6 (by simp; omega), (XR.out.trans hx).upd hu6 (by simp; omega), Nat.le_trans hx.size hu6.size⟩, fun jz u σ hj h => match jz, hj, h with | 0, _, h => h | 1, _, h => h | 2, _, h => h | 3, hj, _ => absurd rfl hj | 4, _, h => let ⟨B44, he, hb44, hk44⟩ := h; ⟨B44, he, hb44, Blk.upd hk44 hu6 (by have := Blk.ne_ hk44 (RD.out.ext hx).1 (by decide); simpa using this)⟩ | 5, _, h => let ⟨A45, c45, he, ho45⟩ := h; ⟨A45, c45, he, own_upd1 ho45 (RD.out.ext hx).1 (by decide) hu6⟩ | 6, _, h => h | 7, hj, h => Blk.upd h hu6 (by simp; omega) | _ + 8, _, _ => trivial⟩
        · intro ρ W hS hJ hout hpre hpreN
          refine ⟨rfl, ?_⟩
          have f41 : ρ (.tmp 41) = .slice A j c := hpre 1 41 (by kernel_rfl)
          obtain ⟨B44, f44, hb44, hk44⟩ := hpre 4 44 (by kernel_rfl)
          have hown := hJ.2.2.1
          refine does_append (.tmp 41) (.tmp 44) _ rfl w.heap.size 9 i0 _ 16 Try.underlying22 hi0 hz0 hz1 hz2 rfl _ j _ f41 hown _ 1 1 [.string x] f44 rfl (At.one_blk hk44) (by simp [Value.oneCell']) (by simp only [maxLen]; omega) (by omega) (by have := hJ.2.2.2.2.1.size; omega) ?_
          intro v' W' hown' hg' hat'
          obtain ⟨A45, c45, rfl, _⟩ := own_form hown'
          have hob := own_block hown
          rw [← List.map_singleton, ← List.map_append, ← HY.out] at hown'
          exact ⟨⟨A45, c45, rfl, hown'⟩, ⟨⟨hJ.1.1.grown hg' (own_ne hown hJ.1.1 (by decide)), hJ.1.2⟩, hJ.2.1.grown hg' (own_ne hown hJ.2.1 (by decide)), hJ.2.2.2.1.grown hg' (own_ne hown hJ.2.2.2.1 (by decide)), hJ.2.2.2.2.1.grown hg' (fun k hk => hob k hk)⟩, fun jz u σ hj h => match jz, hj, h with | 0, _, h => h | 1, _, h => h | 2, _, h => h | 3, _, h => h | 4, _, h => let ⟨B44, he, hb44, hk44⟩ := h; ⟨B44, he, hb44, Blk.grown hk44 hg' (fun e => by have h2 := (HO.out.lt _ e).2; omega)⟩ | 5, hj, _ => absurd rfl hj | 6, _, h => h | 7, hj, h => Blk.grown h hg' (own_ne hown h (by decide)) | _ + 8, _, _ => trivial⟩
        · intro ρ W hS hJ hout hpre hpreN
          refine ⟨rfl, ?_⟩
          have f46 : ρ (.tmp 46) = .pointer (some ⟨b6, 2, none⟩) := hpre 6 46 (by kernel_rfl)
          obtain ⟨A45, c45, f45, ho45⟩ := hpre 5 45 (by kernel_rfl)
          have hq := hJ.2.1
          have c2 := hq.cell 2
          have z2 := hq.frozen 2
          have hn := own_ne ho45 hq (by decide)
          refine DoesU.skip (w' := W.setCell ⟨b6, 2, none⟩ (ρ (.tmp 45))) (by simp [go_sem, f45, f46, c2, z2]) ⟨?_, ⟨⟨hJ.1.1.far (by show _ ≠ b6; omega) _, hJ.1.2⟩, hJ.2.2.1.far (by show _ ≠ b6; omega) _, hJ.2.2.2.set (by show _ ≤ b6; omega) _⟩, fun jz u σ hj h => match jz, hj, h with | 0, _, h => h | 1, _, h => h | 2, _, h => h | 3, _, h => h | 4, _, h => let ⟨B44, he, hb44, hk44⟩ := h; ⟨B44, he, hb44, Blk.far hk44 (by show _ ≠ b6; omega) _⟩ | 5, _, h => let ⟨A45, c45, he, ho45⟩ := h; ⟨A45, c45, he, own_set ho45 (own_ne ho45 hq (by decide)) 2 _⟩ | 6, _, h => h | 7, hj, _ => absurd rfl hj | _ + 8, _, _ => trivial⟩
          exact hq.set_ 2 _
      intro vs w8 σ hl hσ hD hN hJ
      replace hl := hl.trans (show (idxU _).length = 7 by kernel_rfl)
      rcases vs with _ | ⟨v40, vs⟩; · simp at hl
      rcases vs with _ | ⟨v41, vs⟩; · simp at hl
      rcases vs with _ | ⟨v42, vs⟩; · simp at hl
      rcases vs with _ | ⟨v43, vs⟩; · simp at hl
      rcases vs with _ | ⟨v44, vs⟩; · simp at hl
      rcases vs with _ | ⟨v45, vs⟩; · simp at hl
      rcases vs with _ | ⟨v46, vs⟩; · simp at hl
      obtain rfl : vs = [] := List.eq_nil_of_length_eq_zero (by simpa using hl)
      clear hl
      obtain rfl : v40 = .pointer (some ⟨b6, 2, none⟩) := hD 0 0 v40 (by kernel_rfl) rfl
      obtain rfl : v41 = .slice A j c := hD 1 1 v41 (by kernel_rfl) rfl
      obtain rfl : v42 = .pointer (some ⟨B, 0, none⟩) := hD 2 2 v42 (by kernel_rfl) rfl
      obtain rfl : v43 = .string x := hD 3 3 v43 (by kernel_rfl) rfl
      obtain ⟨B44, rfl, hb44, hk44⟩ := hD 4 4 v44 (by kernel_rfl) rfl
      obtain ⟨A45, c45, rfl, ho45⟩ := hD 5 5 v45 (by kernel_rfl) rfl
      obtain rfl : v46 = .pointer (some ⟨b6, 2, none⟩) := hD 6 6 v46 (by kernel_rfl) rfl
      have hz7 := hN 7 (by decide) (by kernel_rfl)
      simp only [] at hz7
      rw [hσ 5 45 _ (by kernel_rfl) rfl] at hz7
      clear hD hN hσ
      rw [show dstsU _ = [40, 41, 42, 43, 44, 45, 46] by kernel_rfl]
      simp only [putAll, List.setIfInBounds_toArray, List.set_cons_succ, List.set_cons_zero]
      have HZ := Lib.hid hz7
      have HO2 := Lib.hid ho45
      have HJ := Lib.hid hJ
      clear hz7 ho45 hJ hk44 hb44
      go_wp2
      go_roundw
      case rel => exact ⟨j + 1, Y, p', f', A45, c45, by go_num, by omega, by rw [HY.out]; exact TS.out.st, HJ.out.1, HZ.out, HO2.out, HJ.out.2.1, HJ.out.2.2⟩
      case measure => simp [intOf]; omega
    · obtain rfl : j = n := by omega
      have hlen : xs.length = j := HST.out.1
      have hsm := HST.out.small (by omega)
      obtain ⟨T, E, hBY, hTE⟩ : ∃ (T : ByteArray) (E : Int), (∀ (W : World), At W A (xs.map Value.string) → Calls Try.prog 27 #[.agg #[.int .i64 kk, .int .i64 ll, .slice A j c]] W (Ret1 (.tuple #[.string T, .int .i64 E]) W)) ∧
          ((rightB kk ll xs = true ∧ T = bytesF kk ll (plainL xs) ∧ E = 0) ∨ (rightB kk ll xs = false ∧ E = 22)) := by
        rcases hr : rightB kk ll xs with _ | _
        · exact ⟨_, _, fun W h => bytes_not kk ll A j c xs W hlen.symm h hsm hr, .inr ⟨rfl, rfl⟩⟩
        · exact ⟨_, _, fun W h => bytes_right kk ll A j c xs W hlen.symm h hr, .inl ⟨rfl, rfl, rfl⟩⟩
      have HBY := Lib.hid hBY
      have HTE := Lib.hid hTE
      have HLEN := Lib.hid hlen
      have HSM := Lib.hid hsm
      have HXX := Lib.hid (HX.out xs p f HST.out)
      clear hBY hTE hlen hsm hge
      have c0 : wr.cell? ⟨b6, 0, none⟩ = some (.int .i64 kk) := HB.out.cell 0
      have c1 : wr.cell? ⟨b6, 1, none⟩ = some (.int .i64 ll) := HB.out.cell 1
      have c2 : wr.cell? ⟨b6, 2, none⟩ = some (.slice A j c) := HB.out.cell 2
      have c3 := HB.out.lt
      go_wp2_with fail
      refine (HBY.out _ (At.of_own HO.out)).mono ?_
      rintro e w8 ⟨rfl, hx⟩
      have HB8 := Lib.hid (HB.out.ext hx)
      have RD8 := Lib.hid (RD.out.ext hx)
      have HO8 := Lib.hid (own_ext HO.out hx)
      have HD8 := Lib.hid (HD.out.ext hx)
      have X8 := Lib.hid (XR.out.trans hx)
      clear hx c0 c1 c2 c3 HB RD HO HD XR
      go_wp2_with fail
      refine (failed_any B s _ f _ RD8.out).mono ?_
      rintro e w9 ⟨rfl, rfl⟩
      by_cases hgood : f = false ∧ E = 0 ∧ (T.toList == s.toList) = true
      · obtain ⟨rfl, rfl, ht⟩ := hgood
        have c0 : w8.cell? ⟨b6, 0, none⟩ = some (.int .i64 kk) := HB8.out.cell 0
        have c1 : w8.cell? ⟨b6, 1, none⟩ = some (.int .i64 ll) := HB8.out.cell 1
        have c2 : w8.cell? ⟨b6, 2, none⟩ = some (.slice A j c) := HB8.out.cell 2
        have c3 := HB8.out.lt
        have hgood : readX s = ((kk, ll), (plainL xs, 0)) := by
          rcases HTE.out with ⟨h1, h2, _⟩ | ⟨_, h2⟩
          · rw [HXX.out, if_pos ⟨rfl, h1, by rw [← h2]; exact ba_inj (by simpa using ht)⟩]
          · exact absurd h2 (by decide)
        have HG := Lib.hid hgood
        clear hgood
        obtain ⟨PL, hPL⟩ : ∃ z, z = plainL xs := ⟨_, rfl⟩
        have hpl := fun (W : World) (h : At W A (xs.map Value.string)) => plain_any A c xs W h HSM.out.1
        rw [HLEN.out, ← hPL] at hpl
        rw [← hPL] at HG
        have HPL := Lib.hid hpl
        clear hpl hPL
        go_wp2_with fail
        refine (HPL.out _ (At.of_own HO8.out)).mono ?_
        rintro e w9 ⟨rfl, ho, hx⟩
        have HO9 := Lib.hid ho
        have HB9 := Lib.hid (HB8.out.ext hx)
        have HD9 := Lib.hid (HD8.out.ext hx)
        have X9 := Lib.hid (X8.out.trans hx)
        have hw8 := X8.out.size
        clear ho hx c0 c1 c2 c3
        have c0 : w9.cell? ⟨b6, 0, none⟩ = some (.int .i64 kk) := HB9.out.cell 0
        have c1 : w9.cell? ⟨b6, 1, none⟩ = some (.int .i64 ll) := HB9.out.cell 1
        have c2 : w9.cell? ⟨b6, 2, none⟩ = some (.slice A j c) := HB9.out.cell 2
        have c3 := HB9.out.lt
        have f0 := HB9.out.frozen 0
        have f1 := HB9.out.frozen 1
        have f2 := HB9.out.frozen 2
        have d0 : w9.cell? ⟨w.heap.size, 0, none⟩ = some (.int .i64 0) := HD9.out.cell 0
        have d1 : w9.cell? ⟨w.heap.size, 1, none⟩ = some (.int .i64 0) := HD9.out.cell 1
        have d2 : w9.cell? ⟨w.heap.size, 2, none⟩ = some (.slice none 0 0) := HD9.out.cell 2
        have d3 := HD9.out.lt
        have g0 := HD9.out.frozen 0
        have g1 := HD9.out.frozen 1
        have g2 := HD9.out.frozen 2
        have hb8 := HB8.out.lt
        go_wp2
        refine bodyPost_ret (v := .tuple #[.agg #[.int .i64 kk, .int .i64 ll, .slice (some ⟨w8.heap.size, 0, none⟩) PL.length PL.length], .int .i64 0]) (by simp [results, Try.results37, go_sem, d0, d1, d2]) rfl ?_
        rw [HG.out]
        refine ⟨_, _, rfl, own_mono (own_upd HO9.out (S := [b6, w.heap.size]) (((((Upd.refl _ w9).set (.inl (by simp)) _).set (.inl (by simp)) _).set (.inl (by simp)) _).set (.inl (by simp)) _) (by intro k hk; simp [Value.ownBlock] at hk; subst hk; simp; omega)) hw8, ?_⟩
        exact ((((X9.out.set (by show _ ≤ b6; omega) _).set (Nat.le_refl _) _).set (Nat.le_refl _) _).set (Nat.le_refl _) _)
      · have hbad : readX s = ((0, 0), ([], 22)) := by
          rw [HXX.out, if_neg]
          rintro ⟨rfl, h1, h2⟩
          rcases HTE.out with ⟨_, h3, h4⟩ | ⟨h3, _⟩
          · exact hgood ⟨rfl, h4, by rw [h3, h2]; simp⟩
          · rw [h1] at h3; cases h3
        have HBAD := Lib.hid hbad
        clear hbad
        rcases f with _ | _
        · by_cases hE : E = 0
          · subst hE
            have ht : (T.toList == s.toList) = false := by
              rcases h : T.toList == s.toList with _ | _
              · rfl
              · exact absurd ⟨rfl, rfl, h⟩ hgood
            clear hgood
            have c0 : w8.cell? ⟨w.heap.size, 0, none⟩ = some (.int .i64 0) := HD8.out.cell 0
            have c1 : w8.cell? ⟨w.heap.size, 1, none⟩ = some (.int .i64 0) := HD8.out.cell 1
            have c2 : w8.cell? ⟨w.heap.size, 2, none⟩ = some (.slice none 0 0) := HD8.out.cell 2
            have c3 := HD8.out.lt
            have g0 := HD8.out.frozen 0
            have g1 := HD8.out.frozen 1
            have g2 := HD8.out.frozen 2
            go_wp2
            refine bodyPost_ret (v := .tuple #[.agg #[.int .i64 0, .int .i64 0, .slice none 0 0], .int .i64 22]) (by simp [results, Try.results37, go_sem, c0, c1, c2]) rfl ?_
            exact pg_zero HBAD.out (((X8.out.set (Nat.le_refl _) _).set (Nat.le_refl _) _).set (Nat.le_refl _) _)
          · clear hgood
            have c0 : w8.cell? ⟨w.heap.size, 0, none⟩ = some (.int .i64 0) := HD8.out.cell 0
            have c1 : w8.cell? ⟨w.heap.size, 1, none⟩ = some (.int .i64 0) := HD8.out.cell 1
            have c2 : w8.cell? ⟨w.heap.size, 2, none⟩ = some (.slice none 0 0) := HD8.out.cell 2
            have c3 := HD8.out.lt
            have g0 := HD8.out.frozen 0
            have g1 := HD8.out.frozen 1
            have g2 := HD8.out.frozen 2
            go_wp2
            refine bodyPost_ret (v := .tuple #[.agg #[.int .i64 0, .int .i64 0, .slice none 0 0], .int .i64 22]) (by simp [results, Try.results37, go_sem, c0, c1, c2]) rfl ?_
            exact pg_zero HBAD.out (((X8.out.set (Nat.le_refl _) _).set (Nat.le_refl _) _).set (Nat.le_refl _) _)
        · clear hgood
          have c0 : w8.cell? ⟨w.heap.size, 0, none⟩ = some (.int .i64 0) := HD8.out.cell 0
          have c1 : w8.cell? ⟨w.heap.size, 1, none⟩ = some (.int .i64 0) := HD8.out.cell 1
          have c2 : w8.cell? ⟨w.heap.size, 2, none⟩ = some (.slice none 0 0) := HD8.out.cell 2
          have c3 := HD8.out.lt
          have g0 := HD8.out.frozen 0
          have g1 := HD8.out.frozen 1
          have g2 := HD8.out.frozen 2
          go_wp2
          refine bodyPost_ret (v := .tuple #[.agg #[.int .i64 0, .int .i64 0, .slice none 0 0], .int .i64 22]) (by simp [results, Try.results37, go_sem, c0, c1, c2]) rfl ?_
          exact pg_zero HBAD.out (((X8.out.set (Nat.le_refl _) _).set (Nat.le_refl _) _).set (Nat.le_refl _) _)

theorem read_any (s : ByteArray) (w : World) (hs : s.size ≤ 9223372036854775807) :
    Calls Try.prog 37 #[.string s] w (PgPost (readX s).1.1 (readX s).1.2 (readX s).2.1 (readX s).2.2 w) := by
  by_cases h : s.size = 512
  · by_cases h2 : numS s 0 4 = sumF (s.extract 4 512) ∧ s.extract 5 9 = s.extract 508 512
    · exact read_page s w h h2
    · exact read_sum s w h h2
  · exact read_form s w h hs
end Go.Proofs.Ytkkldciofndedaa
