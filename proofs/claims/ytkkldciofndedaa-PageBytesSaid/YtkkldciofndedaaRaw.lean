/- the law's raw: a page cut short. -/
import Derived.Test.YtkkldciofndedaaLawSame
import Derived.Test.YtkkldciofndedaaUpd
namespace Go.Proofs.Ytkkldciofndedaa
open Go.RowKit
set_option linter.unusedVariables false

/-- the first j items, cut -/
def rawL (ss : List ByteArray) (j : Nat) : List ByteArray := (ss.take j).map fun s => cutN s 500
theorem rawL_len (ss : List ByteArray) (j : Nat) (h : j ≤ ss.length) : (rawL ss j).length = j := by simp [rawL]; omega
theorem rawL_succ (ss : List ByteArray) (j : Nat) (h : j < ss.length) : rawL ss (j + 1) = rawL ss j ++ [cutN ss[j] 500] := by
  unfold rawL
  rw [List.take_succ_eq_append_getElem h, List.map_append]
  rfl
theorem rawL_small (ss : List ByteArray) (j : Nat) (h : j ≤ 26) : (rawL ss j).length ≤ 26 ∧ ∀ s ∈ rawL ss j, s.size ≤ 500 := by
  refine ⟨by simp [rawL]; omega, fun s hs => ?_⟩
  obtain ⟨t, _, rfl⟩ := List.mem_map.1 hs
  exact cutN_size t 500
/-- a string cut at n, as the walk has it -/
theorem cut_min (s : ByteArray) (n : Nat) (m : Int) (hm : m = (n : Int)) : ∃ X : Nat, cutN s n = s.extract 0 X ∧ (if m < (s.size : Int) then m else (s.size : Int)) = (X : Int) ∧ X ≤ s.size ∧ X ≤ n := by
  subst hm
  unfold cutN
  by_cases h : s.size ≤ n
  · exact ⟨s.size, by rw [if_pos h], by rw [if_neg (by omega)], Nat.le_refl _, h⟩
  · exact ⟨n, by rw [if_neg h], by rw [if_pos (by omega)], by omega, Nat.le_refl _⟩
def RawRel (k l : Int) (ss : List ByteArray) (p : Value) (w : World) (v : Value) (wr : World) : Prop :=
  ∃ (j : Nat) (A : Option Addr) (c : Nat), v = .int .i64 j ∧ j ≤ ss.length ∧ j ≤ 26 ∧ Blk wr (w.heap.size + 1 + 1) 26 #[.int .i64 k, .int .i64 l, .slice A j c] ∧
    wr.ownsRow (w.heap.size + 1 + 1 + 1) 9 1 (.slice A j c) j ((rawL ss j).map Value.string) ∧
    Ext ((w.alloc (.cells #[.int .i64 k, .int .i64 l, p] 26)).alloc (.cells #[.int .i64 0, .int .i64 0, .slice none 0 0] 26)) wr

set_option maxRecDepth 100000 in
set_option maxHeartbeats 2000000 in
theorem raw_any (k l : Int) (A : Option Addr) (n c : Nat) (ss : List ByteArray) (w : World) (hn : n = ss.length) (h : At w A (ss.map Value.string)) (hl : ss.length ≤ 9223372036854775807) (hss : ∀ s ∈ ss, s.size ≤ 9223372036854775807) :
    Calls Try.prog 20 #[.agg #[.int .i64 k, .int .i64 l, .slice A n c]] w (PgOne k l (rawL ss (min ss.length 26)) w) := by
  subst hn
  have H := Lib.hid h; clear h
  obtain ⟨i0, hi0, hz0, hz1, hz2⟩ := info_parts Try.infoStr
  have X0 := Lib.hid (((Ext.refl w).alloc (.cells #[.int .i64 k, .int .i64 l, .slice A ss.length c] 26)).alloc (.cells #[.int .i64 0, .int .i64 0, .slice none 0 0] 26))
  go_enter Try.func20, Try.ntmps20
  go_wp2
  go_loopw [4] (fun v wr => RawRel k l ss (.slice A ss.length c) w v wr) (fun v _ => 26 - (intOf v).toNat)
  case atStart => exact ⟨0, none, 0, rfl, Nat.zero_le _, Nat.zero_le _, Blk.new' (by simp), World.ownsRow_nil _ _ _ _, (Ext.refl _).alloc _⟩
  case round =>
    obtain ⟨j, A', c', rfl, hj, hj26, hblk, hown, hx⟩ := hrel
    have HB := Lib.hid hblk
    have HO := Lib.hid hown
    have XR := Lib.hid hx
    have p2 : wr.cell? ⟨w.heap.size, 2, none⟩ = some (.slice A ss.length c) := hx.two0.1 2
    clear hblk hown hx
    by_cases hgo : j < ss.length ∧ j < 26
    · obtain ⟨hlt, hlt26⟩ := hgo
      have hj1 : (j : Int) < (ss.length : Int) := by omega
      have hj2 : (j : Int) < 26 := by omega
      have i1 : (0 : Int) ≤ (j : Int) := by omega
      obtain ⟨ad, rfl, hadb, hcell⟩ := (H.out.ext (X0.out.trans XR.out)).get (k := j) (by simpa using hlt)
      rw [List.getElem_map] at hcell
      have hsz := hss _ (List.getElem_mem hlt)
      obtain ⟨X, hX, hXc0, hXs, hXn⟩ := cut_min ss[j] 500 500 rfl
      have HS := Lib.hid (rawL_succ ss j hlt)
      rw [hX] at HS
      obtain ⟨s, hs⟩ : ∃ s, s = ss[j] := ⟨_, rfl⟩
      rw [← hs] at hcell hXc0 hXs HS hsz
      have HC := Lib.hid hcell
      have hXc := Lib.hid hXc0
      clear hs hcell hX hXc0
      have hwz := XR.out.size
      simp only [World.size_alloc] at hwz
      go_wp2_with fail
      refine wp_region_U (by kernel_rfl) [0, 1, 0, 4, 0, 28, 60, 0, 128, 0, 896, 1920, 3968, 8064, 16380, 32764, 65535, 131071, 262143] [16, 18] (fun kz W => match kz with | 0 => Ext wr W | 1 => (Blk W (w.heap.size + 1 + 1) 26 #[.int .i64 k, .int .i64 l, .slice A' j c'] ∧ Ext ((w.alloc (.cells #[.int .i64 k, .int .i64 l, .slice (some ad) ss.length c] 26)).alloc (.cells #[.int .i64 0, .int .i64 0, .slice none 0 0] 26)) W) | _ => Ext ((w.alloc (.cells #[.int .i64 k, .int .i64 l, .slice (some ad) ss.length c] 26)).alloc (.cells #[.int .i64 0, .int .i64 0, .slice none 0 0] 26)) W) (fun ix v σ W => match ix with | 0 => v = .pointer (some ⟨w.heap.size + 1 + 1, 2, none⟩) | 1 => v = .slice (A') j (c') | 2 => v = .pointer (some ⟨w.heap.size, 2, none⟩) | 3 => v = .slice ((some ad)) ss.length c | 4 => v = .int .i64 j | 5 => v = .pointer (some (ad.add j)) | 6 => v = .string s | 7 => v = .pointer (some ⟨w.heap.size, 2, none⟩) | 8 => v = .slice ((some ad)) ss.length c | 9 => v = .int .i64 j | 10 => v = .pointer (some (ad.add j)) | 11 => v = .string s | 12 => v = .int .i64 s.size | 13 => v = .int .i64 X | 14 => v = .string (s.extract 0 X) | 15 => ∃ (B36 : Nat), v = .slice ((some ⟨B36, 0, none⟩)) 1 1 ∧ wr.heap.size ≤ B36 ∧ Blk W B36 9 #[.string (s.extract 0 X)] | 16 => ∃ (A37 : Option Addr) (c37 : Nat), v = .slice A37 (j + 1) c37 ∧ W.ownsRow (w.heap.size + 1 + 1 + 1) 9 1 (.slice A37 (j + 1) c37) (j + 1) ((rawL ss (j + 1)).map Value.string) | 17 => v = .pointer (some ⟨w.heap.size + 1 + 1, 2, none⟩) | 18 => Blk W (w.heap.size + 1 + 1) 26 #[.int .i64 k, .int .i64 l, σ 37] | _ => True) (by kernel_rfl) (by kernel_rfl) (by decide) (by kernel_rfl) ?_ ?_ ?_ ?_ ?_ ?_ ?_
      · intro ix v σ σ' W hs h
        match ix, hs, h with
        | 0, hs, h => exact h
        | 1, hs, h => exact h
        | 2, hs, h => exact h
        | 3, hs, h => exact h
        | 4, hs, h => exact h
        | 5, hs, h => exact h
        | 6, hs, h => exact h
        | 7, hs, h => exact h
        | 8, hs, h => exact h
        | 9, hs, h => exact h
        | 10, hs, h => exact h
        | 11, hs, h => exact h
        | 12, hs, h => exact h
        | 13, hs, h => exact h
        | 14, hs, h => exact h
        | 15, hs, h => exact h
        | 16, hs, h => exact h
        | 17, hs, h => exact h
        | 18, hs, h => 
          have e37 := hs 16 37 (by kernel_rfl)
          simp only [e37] at h; exact h
        | _ + 19, _, _ => trivial
      · exact (Ext.refl wr).drew
      · intro kz W W' h hx
        match kz, h with
        | 0, h => exact h.trans hx
        | 1, h => exact ⟨h.1.ext hx, h.2.trans hx⟩
        | _ + 2, h => exact h.trans hx
      · intro ix v σ W W' h hx
        match ix, h with
        | 0, h => exact h
        | 1, h => exact h
        | 2, h => exact h
        | 3, h => exact h
        | 4, h => exact h
        | 5, h => exact h
        | 6, h => exact h
        | 7, h => exact h
        | 8, h => exact h
        | 9, h => exact h
        | 10, h => exact h
        | 11, h => exact h
        | 12, h => exact h
        | 13, h => exact h
        | 14, h => exact h
        | 15, h => exact let ⟨B36, he, hb36, hk36⟩ := h; ⟨B36, he, hb36, Blk.ext hk36 hx⟩
        | 16, h => exact let ⟨A37, c37, he, ho37⟩ := h; ⟨A37, c37, he, own_ext ho37 hx⟩
        | 17, h => exact h
        | 18, h => exact Blk.ext h hx
        | _ + 19, _ => trivial
      · refine ⟨⟨⟨⟨⟨⟨⟨⟨⟨⟨⟨⟨⟨⟨⟨⟨⟨⟨⟨trivial, ?_⟩, ?_⟩, ?_⟩, ?_⟩, ?_⟩, ?_⟩, ?_⟩, ?_⟩, ?_⟩, ?_⟩, ?_⟩, ?_⟩, ?_⟩, ?_⟩, ?_⟩, ?_⟩, ?_⟩, ?_⟩, ?_⟩
        · intro _ ρ W kz hS hJ hkl hbt hout hpre hpreN
          refine GSay.none rfl ?_
          have f3 : ρ (.tmp 3) = .pointer (some ⟨w.heap.size + 1 + 1, 0, none⟩) := hout 3 (by kernel_rfl)
          exact DoesU.value (v := .pointer (some ⟨w.heap.size + 1 + 1, 2, none⟩)) (w' := W) (by simp [go_sem, f3]) ⟨rfl, Ext.refl _⟩
        · intro _ ρ W kz hS hJ hkl hbt hout hpre hpreN
          obtain rfl : kz = 0 := by have := hbt 0 0 (by kernel_rfl); omega
          have hx : Ext _ W := hJ
          refine GSay.none rfl ?_
          have f21 : ρ (.tmp 21) = .pointer (some ⟨w.heap.size + 1 + 1, 2, none⟩) := hpre 0 21 (by kernel_rfl)
          exact DoesU.value (v := .slice (A') j (c')) (w' := W) (by simp [go_sem, f21, (show W.cell? ⟨w.heap.size + 1 + 1, 2, none⟩ = some (.slice (A') j (c')) from (HB.out.ext hx).cell 2)]) ⟨rfl, Ext.refl _⟩
        · intro _ ρ W kz hS hJ hkl hbt hout hpre hpreN
          refine GSay.none rfl ?_
          have f1 : ρ (.tmp 1) = .pointer (some ⟨w.heap.size, 0, none⟩) := hout 1 (by kernel_rfl)
          exact DoesU.value (v := .pointer (some ⟨w.heap.size, 2, none⟩)) (w' := W) (by simp [go_sem, f1]) ⟨rfl, Ext.refl _⟩
        · intro _ ρ W kz hS hJ hkl hbt hout hpre hpreN
          obtain rfl : kz = 0 := by have := hbt 0 0 (by kernel_rfl); omega
          have hx : Ext _ W := hJ
          refine GSay.none rfl ?_
          have f23 : ρ (.tmp 23) = .pointer (some ⟨w.heap.size, 2, none⟩) := hpre 2 23 (by kernel_rfl)
          exact DoesU.value (v := .slice ((some ad)) ss.length c) (w' := W) (by simp [go_sem, f23, (show W.cell? ⟨w.heap.size, 2, none⟩ = some (.slice ((some ad)) ss.length c) from (((Blk.new w _ _).alloc _).ext (XR.out.trans hx)).cell 2)]) ⟨rfl, Ext.refl _⟩
        · intro _ ρ W kz hS hJ hkl hbt hout hpre hpreN
          refine GSay.none rfl ?_
          have f4 : ρ (.tmp 4) = .int .i64 j := hout 4 (by kernel_rfl)
          exact DoesU.value (v := .int .i64 j) (w' := W) (by simp [go_sem, f4]) ⟨rfl, Ext.refl _⟩
        · intro _ ρ W kz hS hJ hkl hbt hout hpre hpreN
          obtain rfl : kz = 0 := by have := hbt 0 0 (by kernel_rfl); omega
          have hx : Ext _ W := hJ
          refine GSay.none rfl ?_
          have f24 : ρ (.tmp 24) = .slice ((some ad)) ss.length c := hpre 3 24 (by kernel_rfl)
          have f25 : ρ (.tmp 25) = .int .i64 j := hpre 4 25 (by kernel_rfl)
          exact DoesU.value (v := .pointer (some (ad.add j))) (w' := W) (by simp [go_sem, f24, f25, i1, hj1]) ⟨rfl, Ext.refl _⟩
        · intro _ ρ W kz hS hJ hkl hbt hout hpre hpreN
          obtain rfl : kz = 0 := by have := hbt 0 0 (by kernel_rfl); omega
          have hx : Ext _ W := hJ
          refine GSay.none rfl ?_
          have f26 : ρ (.tmp 26) = .pointer (some (ad.add j)) := hpre 5 26 (by kernel_rfl)
          exact DoesU.value (v := .string s) (w' := W) (by simp [go_sem, f26, ((hx.cell (by rw [add_block]; exact hadb)).trans HC.out)]) ⟨rfl, Ext.refl _⟩
        · intro _ ρ W kz hS hJ hkl hbt hout hpre hpreN
          refine GSay.none rfl ?_
          have f1 : ρ (.tmp 1) = .pointer (some ⟨w.heap.size, 0, none⟩) := hout 1 (by kernel_rfl)
          exact DoesU.value (v := .pointer (some ⟨w.heap.size, 2, none⟩)) (w' := W) (by simp [go_sem, f1]) ⟨rfl, Ext.refl _⟩
        · intro _ ρ W kz hS hJ hkl hbt hout hpre hpreN
          obtain rfl : kz = 0 := by have := hbt 0 0 (by kernel_rfl); omega
          have hx : Ext _ W := hJ
          refine GSay.none rfl ?_
          have f28 : ρ (.tmp 28) = .pointer (some ⟨w.heap.size, 2, none⟩) := hpre 7 28 (by kernel_rfl)
          exact DoesU.value (v := .slice ((some ad)) ss.length c) (w' := W) (by simp [go_sem, f28, (show W.cell? ⟨w.heap.size, 2, none⟩ = some (.slice ((some ad)) ss.length c) from (((Blk.new w _ _).alloc _).ext (XR.out.trans hx)).cell 2)]) ⟨rfl, Ext.refl _⟩
        · intro _ ρ W kz hS hJ hkl hbt hout hpre hpreN
          refine GSay.none rfl ?_
          have f4 : ρ (.tmp 4) = .int .i64 j := hout 4 (by kernel_rfl)
          exact DoesU.value (v := .int .i64 j) (w' := W) (by simp [go_sem, f4]) ⟨rfl, Ext.refl _⟩
        · intro _ ρ W kz hS hJ hkl hbt hout hpre hpreN
          obtain rfl : kz = 0 := by have := hbt 0 0 (by kernel_rfl); omega
          have hx : Ext _ W := hJ
          refine GSay.none rfl ?_
          have f29 : ρ (.tmp 29) = .slice ((some ad)) ss.length c := hpre 8 29 (by kernel_rfl)
          have f30 : ρ (.tmp 30) = .int .i64 j := hpre 9 30 (by kernel_rfl)
          exact DoesU.value (v := .pointer (some (ad.add j))) (w' := W) (by simp [go_sem, f29, f30, i1, hj1]) ⟨rfl, Ext.refl _⟩
        · intro _ ρ W kz hS hJ hkl hbt hout hpre hpreN
          obtain rfl : kz = 0 := by have := hbt 0 0 (by kernel_rfl); omega
          have hx : Ext _ W := hJ
          refine GSay.none rfl ?_
          have f31 : ρ (.tmp 31) = .pointer (some (ad.add j)) := hpre 10 31 (by kernel_rfl)
          exact DoesU.value (v := .string s) (w' := W) (by simp [go_sem, f31, ((hx.cell (by rw [add_block]; exact hadb)).trans HC.out)]) ⟨rfl, Ext.refl _⟩
        · intro _ ρ W kz hS hJ hkl hbt hout hpre hpreN
          refine GSay.none rfl ?_
          have f32 : ρ (.tmp 32) = .string s := hpre 11 32 (by kernel_rfl)
          exact DoesU.value (v := .int .i64 s.size) (w' := W) (by simp [go_sem, f32]) ⟨rfl, Ext.refl _⟩
        · intro _ ρ W kz hS hJ hkl hbt hout hpre hpreN
          obtain rfl : kz = 0 := by have := hbt 0 0 (by kernel_rfl); omega
          have hx : Ext _ W := hJ
          refine GSay.none rfl ?_
          have f33 : ρ (.tmp 33) = .int .i64 s.size := hpre 12 33 (by kernel_rfl)
          exact DoesU.value (v := .int .i64 X) (w' := W) (by simp [go_sem, hS.const, f33, hXc.out]) ⟨rfl, Ext.refl _⟩
        · intro _ ρ W kz hS hJ hkl hbt hout hpre hpreN
          obtain rfl : kz = 0 := by have := hbt 0 0 (by kernel_rfl); omega
          have hx : Ext _ W := hJ
          refine GSay.none rfl ?_
          have f27 : ρ (.tmp 27) = .string s := hpre 6 27 (by kernel_rfl)
          have f34 : ρ (.tmp 34) = .int .i64 X := hpre 13 34 (by kernel_rfl)
          exact DoesU.value (v := .string (s.extract 0 X)) (w' := W) (by simp [go_sem, f27, f34, hXs]) ⟨rfl, Ext.refl _⟩
        · intro _ ρ W kz hS hJ hkl hbt hout hpre hpreN
          obtain rfl : kz = 0 := by have := hbt 0 0 (by kernel_rfl); omega
          have hx : Ext _ W := hJ
          refine GSay.none rfl ?_
          have f35 : ρ (.tmp 35) = .string (s.extract 0 X) := hpre 14 35 (by kernel_rfl)
          exact DoesU.value (v := .slice (some ⟨W.heap.size, 0, none⟩) 1 1) (w' := W.alloc (.cells #[.string (s.extract 0 X)] 9)) (by simp [go_sem, f35]) ⟨⟨_, rfl, hx.size, Blk.new _ _ _⟩, (Ext.refl W).alloc _⟩
        · intro hz; exact absurd (by decide) hz
        · intro _ ρ W kz hS hJ hkl hbt hout hpre hpreN
          refine GSay.none rfl ?_
          have f3 : ρ (.tmp 3) = .pointer (some ⟨w.heap.size + 1 + 1, 0, none⟩) := hout 3 (by kernel_rfl)
          exact DoesU.value (v := .pointer (some ⟨w.heap.size + 1 + 1, 2, none⟩)) (w' := W) (by simp [go_sem, f3]) ⟨rfl, Ext.refl _⟩
        · intro hz; exact absurd (by decide) hz
      · refine ⟨⟨trivial, ?_⟩, ?_⟩
        · intro ρ W hS hJ hout hpre hpreN
          refine ⟨rfl, ?_⟩
          have f22 : ρ (.tmp 22) = .slice (A') j (c') := hpre 1 22 (by kernel_rfl)
          obtain ⟨B36, f36, hb36, hk36⟩ := hpre 15 36 (by kernel_rfl)
          have hx : Ext _ W := hJ
          refine does_append (.tmp 22) (.tmp 36) _ rfl (w.heap.size + 1 + 1 + 1) 9 i0 _ 16 Try.underlying22 hi0 hz0 hz1 hz2 rfl _ j _ f22 (own_ext HO.out hx) _ 1 1 [.string (s.extract 0 X)] f36 rfl (At.one_blk hk36) (by simp [Value.oneCell']) (by simp only [maxLen]; omega) (by omega) (by have := hx.size; have := HB.out.lt; omega) ?_
          intro v' W' hown' hg' hat'
          obtain ⟨A37, c37, rfl, _⟩ := own_form hown'
          have hob := own_block HO.out
          have hwr := HB.out.lt
          rw [← List.map_singleton, ← List.map_append, ← HS.out] at hown'
          refine ⟨⟨A37, c37, rfl, hown'⟩, ⟨(HB.out.ext hx).grown hg' (own_ne (own_ext HO.out hx) (HB.out.ext hx) (by decide)), (XR.out.trans hx).grown hg' (fun k hk => by have := hob k hk; simp only [World.size_alloc]; omega)⟩, fun jz u σ hj h => match jz, hj, h with | 0, _, h => h | 1, _, h => h | 2, _, h => h | 3, _, h => h | 4, _, h => h | 5, _, h => h | 6, _, h => h | 7, _, h => h | 8, _, h => h | 9, _, h => h | 10, _, h => h | 11, _, h => h | 12, _, h => h | 13, _, h => h | 14, _, h => h | 15, _, h => let ⟨B36, he, hb36, hk36⟩ := h; ⟨B36, he, hb36, Blk.grown hk36 hg' (fun e => by have h1 := own_ne (own_ext HO.out hx) (HB.out.ext hx) (by decide); have h2 := (HO.out.lt _ e).2; omega)⟩ | 16, hj, _ => absurd rfl hj | 17, _, h => h | 18, hj, h => Blk.grown h hg' (own_ne (own_ext HO.out hx) h (by decide)) | _ + 19, _, _ => trivial⟩
        · intro ρ W hS hJ hout hpre hpreN
          refine ⟨rfl, ?_⟩
          have f38 : ρ (.tmp 38) = .pointer (some ⟨w.heap.size + 1 + 1, 2, none⟩) := hpre 17 38 (by kernel_rfl)
          obtain ⟨A37, c37, f37, ho37⟩ := hpre 16 37 (by kernel_rfl)
          have hq := hJ.1
          have hwr := HB.out.lt
          have hn := own_ne ho37 hq (by decide)
          have c2 := hq.cell 2
          have z2 := hq.frozen 2
          refine DoesU.skip (w' := W.setCell ⟨w.heap.size + 1 + 1, 2, none⟩ (ρ (.tmp 37))) (by simp [go_sem, f37, f38, c2, z2]) ⟨?_, hJ.2.set (by simp only [World.size_alloc]; omega) _, fun jz u σ hj h => match jz, hj, h with | 0, _, h => h | 1, _, h => h | 2, _, h => h | 3, _, h => h | 4, _, h => h | 5, _, h => h | 6, _, h => h | 7, _, h => h | 8, _, h => h | 9, _, h => h | 10, _, h => h | 11, _, h => h | 12, _, h => h | 13, _, h => h | 14, _, h => h | 15, _, h => let ⟨B36, he, hb36, hk36⟩ := h; ⟨B36, he, hb36, Blk.far hk36 (by show _ ≠ w.heap.size + 1 + 1; omega) _⟩ | 16, _, h => let ⟨A37, c37, he, ho37⟩ := h; ⟨A37, c37, he, own_set ho37 (own_ne ho37 hq (by decide)) 2 _⟩ | 17, _, h => h | 18, hj, _ => absurd rfl hj | _ + 19, _, _ => trivial⟩
          exact hq.set_ 2 _
      intro vs W σ hl hσ hD hN hJ
      replace hl := hl.trans (show (idxU _).length = 18 by kernel_rfl)
      rcases vs with _ | ⟨v21, vs⟩; · simp at hl
      rcases vs with _ | ⟨v22, vs⟩; · simp at hl
      rcases vs with _ | ⟨v23, vs⟩; · simp at hl
      rcases vs with _ | ⟨v24, vs⟩; · simp at hl
      rcases vs with _ | ⟨v25, vs⟩; · simp at hl
      rcases vs with _ | ⟨v26, vs⟩; · simp at hl
      rcases vs with _ | ⟨v27, vs⟩; · simp at hl
      rcases vs with _ | ⟨v28, vs⟩; · simp at hl
      rcases vs with _ | ⟨v29, vs⟩; · simp at hl
      rcases vs with _ | ⟨v30, vs⟩; · simp at hl
      rcases vs with _ | ⟨v31, vs⟩; · simp at hl
      rcases vs with _ | ⟨v32, vs⟩; · simp at hl
      rcases vs with _ | ⟨v33, vs⟩; · simp at hl
      rcases vs with _ | ⟨v34, vs⟩; · simp at hl
      rcases vs with _ | ⟨v35, vs⟩; · simp at hl
      rcases vs with _ | ⟨v36, vs⟩; · simp at hl
      rcases vs with _ | ⟨v37, vs⟩; · simp at hl
      rcases vs with _ | ⟨v38, vs⟩; · simp at hl
      obtain rfl : vs = [] := List.eq_nil_of_length_eq_zero (by simpa using hl)
      clear hl
      obtain rfl : v21 = .pointer (some ⟨w.heap.size + 1 + 1, 2, none⟩) := hD 0 0 v21 (by kernel_rfl) rfl
      obtain rfl : v22 = .slice (A') j (c') := hD 1 1 v22 (by kernel_rfl) rfl
      obtain rfl : v23 = .pointer (some ⟨w.heap.size, 2, none⟩) := hD 2 2 v23 (by kernel_rfl) rfl
      obtain rfl : v24 = .slice ((some ad)) ss.length c := hD 3 3 v24 (by kernel_rfl) rfl
      obtain rfl : v25 = .int .i64 j := hD 4 4 v25 (by kernel_rfl) rfl
      obtain rfl : v26 = .pointer (some (ad.add j)) := hD 5 5 v26 (by kernel_rfl) rfl
      obtain rfl : v27 = .string s := hD 6 6 v27 (by kernel_rfl) rfl
      obtain rfl : v28 = .pointer (some ⟨w.heap.size, 2, none⟩) := hD 7 7 v28 (by kernel_rfl) rfl
      obtain rfl : v29 = .slice ((some ad)) ss.length c := hD 8 8 v29 (by kernel_rfl) rfl
      obtain rfl : v30 = .int .i64 j := hD 9 9 v30 (by kernel_rfl) rfl
      obtain rfl : v31 = .pointer (some (ad.add j)) := hD 10 10 v31 (by kernel_rfl) rfl
      obtain rfl : v32 = .string s := hD 11 11 v32 (by kernel_rfl) rfl
      obtain rfl : v33 = .int .i64 s.size := hD 12 12 v33 (by kernel_rfl) rfl
      obtain rfl : v34 = .int .i64 X := hD 13 13 v34 (by kernel_rfl) rfl
      obtain rfl : v35 = .string (s.extract 0 X) := hD 14 14 v35 (by kernel_rfl) rfl
      obtain ⟨B36, rfl, hb36, hk36⟩ := hD 15 15 v36 (by kernel_rfl) rfl
      obtain ⟨A37, c37, rfl, ho37⟩ := hD 16 16 v37 (by kernel_rfl) rfl
      obtain rfl : v38 = .pointer (some ⟨w.heap.size + 1 + 1, 2, none⟩) := hD 17 17 v38 (by kernel_rfl) rfl
      have hz18 := hN 18 (by decide) (by kernel_rfl)
      simp only [] at hz18
      rw [hσ 16 37 _ (by kernel_rfl) rfl] at hz18
      clear hD hN hσ
      rw [show dstsU _ = [21, 22, 23, 24, 25, 26, 27, 28, 29, 30, 31, 32, 33, 34, 35, 36, 37, 38] by kernel_rfl]
      simp only [putAll, List.setIfInBounds_toArray, List.set_cons_succ, List.set_cons_zero]
      have HZ := Lib.hid hz18
      have HO2 := Lib.hid ho37
      have HJ := Lib.hid hJ
      clear hz18 ho37 hJ hk36 hb36
      go_wp2
      go_roundw
      case rel => exact ⟨j + 1, A37, c37, by go_num, by omega, by omega, HZ.out, HO2.out, HJ.out⟩
      case measure => simp [intOf]; omega
    · have hca : (j < ss.length ∧ 26 ≤ (j : Int)) ∨ ss.length ≤ j := by omega
      have He := Lib.hid (show min ss.length 26 = j by omega)
      have Hl := Lib.hid (rawL_len ss j hj)
      have q0 : wr.cell? ⟨w.heap.size + 1 + 1, 0, none⟩ = some (.int .i64 k) := HB.out.cell 0
      have q1 : wr.cell? ⟨w.heap.size + 1 + 1, 1, none⟩ = some (.int .i64 l) := HB.out.cell 1
      have q2 : wr.cell? ⟨w.heap.size + 1 + 1, 2, none⟩ = some (.slice A' j c') := HB.out.cell 2
      have r0 : wr.cell? ⟨w.heap.size + 1, 0, none⟩ = some (.int .i64 0) := XR.out.two.1 0
      have r1 : wr.cell? ⟨w.heap.size + 1, 1, none⟩ = some (.int .i64 0) := XR.out.two.1 1
      have r2 : wr.cell? ⟨w.heap.size + 1, 2, none⟩ = some (.slice none 0 0) := XR.out.two.1 2
      have f0 := XR.out.two.2.1 0
      have f1 := XR.out.two.2.1 1
      have f2 := XR.out.two.2.1 2
      clear hgo
      rcases hca with ⟨hlt, h26⟩ | hge
      all_goals
        go_wp2
        refine bodyPost_ret (v := .agg #[.int .i64 k, .int .i64 l, .slice A' j c']) (by simp [results, Try.results20, go_sem, r0, r1, r2]) rfl ?_
        rw [He.out]
        refine ⟨A', c', by rw [Hl.out], ?_, ?_⟩
        · rw [Hl.out]
          exact own_mono (ownsRow_setCell_below (ownsRow_setCell_below (ownsRow_setCell_below HO.out (by show w.heap.size + 1 < w.heap.size + 1 + 1 + 1; omega) _) (by show w.heap.size + 1 < w.heap.size + 1 + 1 + 1; omega) _) (by show w.heap.size + 1 < w.heap.size + 1 + 1 + 1; omega) _) (by omega)
        · exact (((X0.out.trans XR.out).set (by simp) _).set (by simp) _).set (by simp) _
end Go.Proofs.Ytkkldciofndedaa
