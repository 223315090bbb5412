/- the walk of PageRoom. -/
import Derived.Test.YtkkldciofndedaaRoomPlain
import Derived.Test.YtkkldciofndedaaRegion1
namespace Go.Proofs.Ytkkldciofndedaa
open Go.RowKit
set_option linter.unusedVariables false

theorem run_cv_blk {W : World} {B n : Nat} (h : Blk W B 5 (madeCells #[.int .u8 0] n)) : (convert 34 9 (.slice (some ⟨B, 0, none⟩) n n)).run Try.prog W = .ok (.string (zerosS n)) W := by
  refine run_convert_bytes_arg _ 34 5 Try.underlying34 Try.underlying5 B 0 n n (List.replicate n 0) (by simp) (fun i hi => ?_) 9 Try.underlying9
  rw [Nat.zero_add, h.cell i]
  have e : (madeCells #[Value.int .u8 0] n)[i]? = (madeCells #[Value.int .u8 0] n).toList[i]? := by simp
  rw [e, toList_madeCells_one]
  simp [hi, List.getD]

/-- a page as a value, and a page with an error -/
def PgVal (k l : Int) (items : List ByteArray) (base : Nat) (v : Value) (w : World) : Prop :=
  ∃ A c, v = .agg #[.int .i64 k, .int .i64 l, .slice A items.length c] ∧ w.ownsRow base 9 1 (.slice A items.length c) items.length (items.map Value.string)
def PeVal (k l : Int) (items : List ByteArray) (err : Int) (base : Nat) (v : Value) (w : World) : Prop :=
  ∃ A c, v = .tuple #[.agg #[.int .i64 k, .int .i64 l, .slice A items.length c], .int .i64 err] ∧ w.ownsRow base 9 1 (.slice A items.length c) items.length (items.map Value.string)
theorem PgVal.ext {k l : Int} {items : List ByteArray} {base : Nat} {v : Value} {w w' : World} (h : PgVal k l items base v w) (hx : Ext w w') : PgVal k l items base v w' := by
  obtain ⟨A, c, h1, h2⟩ := h
  exact ⟨A, c, h1, own_ext h2 hx⟩
theorem PeVal.ext {k l : Int} {items : List ByteArray} {err : Int} {base : Nat} {v : Value} {w w' : World} (h : PeVal k l items err base v w) (hx : Ext w w') : PeVal k l items err base v w' := by
  obtain ⟨A, c, h1, h2⟩ := h
  exact ⟨A, c, h1, own_ext h2 hx⟩
/-- a new variable of type t -/
def NewVar (t : TypeId) (zs : Array Value) (b : Nat) (v : Value) (w : World) : Prop := ∃ B, v = .pointer (some ⟨B, 0, none⟩) ∧ b ≤ B ∧ Blk w B t zs
theorem NewVar.ext {t : TypeId} {zs : Array Value} {b : Nat} {v : Value} {w w' : World} (h : NewVar t zs b v w) (hx : Ext w w') : NewVar t zs b v w' := by
  obtain ⟨B, h1, h2, h3⟩ := h
  exact ⟨B, h1, h2, h3.ext hx⟩
/-- zero bytes, as made -/
def NewBytes (n : Nat) (v : Value) (w : World) : Prop := ∃ B, v = .slice (some ⟨B, 0, none⟩) n n ∧ Blk w B 5 (madeCells #[.int .u8 0] n)
theorem NewBytes.ext {n : Nat} {v : Value} {w w' : World} (h : NewBytes n v w) (hx : Ext w w') : NewBytes n v w' := by
  obtain ⟨B, h1, h2⟩ := h
  exact ⟨B, h1, h2.ext hx⟩
theorem Ext.size1' {w w' : World} {o : Obj} (h : Ext (w.alloc o) w') : w.heap.size ≤ w'.heap.size := Nat.le_of_succ_le h.size1
abbrev PZ : Array Value := #[.int .i64 0, .int .i64 0, .slice none 0 0]

set_option maxRecDepth 100000 in
set_option maxHeartbeats 2000000 in
theorem pageroom_any (k l : Int) (A : Option Addr) (n c : Nat) (ss : List ByteArray) (w : World) (hn : n = ss.length) (h : At w A (ss.map Value.string)) (hl : ss.length ≤ 9223372036854775807) :
    Calls Try.prog 3 #[.agg #[.int .i64 k, .int .i64 l, .slice A n c]] w (Ret1 (.bool true) w) := by
  subst hn
  have H := Lib.hid h; clear h
  obtain ⟨kk, hkk⟩ : ∃ x, x = kindF k := ⟨_, rfl⟩
  obtain ⟨ll, hll⟩ : ∃ x, x = lsnF l := ⟨_, rfl⟩
  obtain ⟨I, hI⟩ : ∃ x, x = mkL k l ss := ⟨_, rfl⟩
  have hr : rightB kk ll I = true := by rw [hkk, hll, hI]; exact mkL_right k l ss
  have HM := Lib.hid (show ∀ (A : Option Addr) (c : Nat) (w : World), At w A (ss.map Value.string) → Calls Try.prog 14 #[.agg #[.int .i64 k, .int .i64 l, .slice A ss.length c]] w (PgOne kk ll I w) by
    rw [hkk, hll, hI]; exact fun A c w h => lmade_any k l A _ c ss w rfl h hl)
  clear hkk hll hI
  obtain ⟨⟨hr0, hr1⟩, hlaw⟩ := room_law hr
  have hIl := (right_parts hr).2.2.1
  have hI24 : I.length ≤ 24 := hIl.1
  have HS := Lib.hid (show Small I from ⟨by omega, fun x hx => by have := hIl.2 x hx; omega⟩)
  obtain ⟨r, hrr⟩ : ∃ r, r = roomF kk ll I := ⟨_, rfl⟩
  obtain ⟨f, hff⟩ : ∃ f, f = freeF kk ll I 0 := ⟨_, rfl⟩
  rw [← hrr, ← hff] at hlaw
  rw [← hrr] at hr0 hr1
  have HR := Lib.hid hr
  have Hrr := Lib.hid hrr
  have Hff := Lib.hid hff
  have HL := Lib.hid hlaw
  clear hr hrr hff hlaw hIl
  go_enter Try.func3, Try.ntmps3
  go_wp2_with fail
  refine (sanity_any _).mono ?_
  rintro e w1 ⟨rfl, hx⟩
  have X1 := Lib.hid (((Ext.refl w).alloc _).trans hx)
  have p0 : w1.cell? ⟨w.heap.size, 0, none⟩ = some (.int .i64 k) := hx.cell_new 0
  have p1 : w1.cell? ⟨w.heap.size, 1, none⟩ = some (.int .i64 l) := hx.cell_new 1
  have p2 : w1.cell? ⟨w.heap.size, 2, none⟩ = some (.slice A ss.length c) := hx.cell_new 2
  clear hx
  go_wp2_with fail
  refine (HM.out _ _ _ (H.out.ext X1.out)).mono ?_
  rintro e w2 ⟨A2, c2, rfl, hown, hx⟩
  have X2 := Lib.hid (X1.out.trans hx)
  have Hown := Lib.hid hown
  clear p0 p1 p2 hx hown
  go_wp2_with fail
  refine (room_any _ _ _ _ _ _ ((At.of_own Hown.out).ext ((Ext.refl w2).alloc _)) HS.out).mono ?_
  rw [← Hrr.out]
  rintro e w3 ⟨rfl, hx⟩
  have X3 := Lib.hid hx
  have p0 : w3.cell? ⟨w2.heap.size, 0, none⟩ = some (.int .i64 kk) := hx.cell_new 0
  have p1 : w3.cell? ⟨w2.heap.size, 1, none⟩ = some (.int .i64 ll) := hx.cell_new 1
  have p2 : w3.cell? ⟨w2.heap.size, 2, none⟩ = some (.slice A2 I.length c2) := hx.cell_new 2
  clear hx
  go_wp2_with fail
  refine (free_any _ _ _ _ _ _ _ ((At.of_own Hown.out).ext (((Ext.refl w2).alloc _).trans X3.out)) HS.out).mono ?_
  rw [← Hff.out]
  rintro e w4 ⟨rfl, hx⟩
  have X4 := Lib.hid (X3.out.trans hx)
  clear p0 p1 p2 hx X3
  rcases HL.out with ⟨hf, hr00, hall⟩ | ⟨K, rfl, hK, heK, hall, hput0, hput1⟩
  · have Hall := Lib.hid hall
    clear HL hall
    obtain rfl : r = 0 := hr00
    go_wp2
    go_loopw [7] (fun i wr => ∃ j : Nat, j ≤ 24 ∧ i = .int .i64 j ∧ Ext (w2.alloc (.cells #[.int .i64 kk, .int .i64 ll, .slice A2 I.length c2] 26)) wr) (fun i _ => 24 - (intOf i).toNat)
    case atStart => exact ⟨0, Nat.zero_le _, rfl, X4.out⟩
    case round =>
      obtain ⟨j, hj, rfl, hx⟩ := hrel
      have p0 : wr.cell? ⟨w2.heap.size, 0, none⟩ = some (.int .i64 kk) := hx.cell_new 0
      have p1 : wr.cell? ⟨w2.heap.size, 1, none⟩ = some (.int .i64 ll) := hx.cell_new 1
      have p2 : wr.cell? ⟨w2.heap.size, 2, none⟩ = some (.slice A2 I.length c2) := hx.cell_new 2
      have XR := Lib.hid hx
      clear hx
      rcases Nat.lt_or_ge j 24 with hlt | hge
      · have hemp := Hall.out j hlt
        obtain ⟨s, hs⟩ : ∃ s, s = itemF I j := ⟨_, rfl⟩
        rw [← hs] at hemp
        have Hs := Lib.hid hs
        have hemp' : s.toList.isEmpty = false := hemp
        clear hs hemp
        go_wp2_with (go_at_call 17; refine (at_any _ _ _ _ _ _ _ _ rfl ((At.of_own Hown.out).ext (((Ext.refl w2).alloc _).trans XR.out)) (by omega)).mono ?_; rw [← Hs.out]; rintro e w5 ⟨rfl, hx⟩; have X5 := Lib.hid (XR.out.trans hx); clear hx)
        go_roundw
        case rel => exact ⟨j + 1, by omega, by go_num, X5.out⟩
        case measure => simp [intOf]; omega
      · obtain rfl : j = 24 := by omega
        go_wp2
        go_ret
        exact ⟨rfl, (X2.out.alloc _).trans XR.out⟩
  · obtain ⟨rn, rfl⟩ := Int.eq_ofNat_of_zero_le hr0
    have Hall := Lib.hid hall
    have HeK := Lib.hid heK
    have H0 := Lib.hid hput0
    have H1 := Lib.hid hput1
    clear HL hall heK hput0 hput1
    go_wp2
    go_loopw [7] (fun i wr => ∃ j : Nat, j ≤ K ∧ i = .int .i64 j ∧ Ext (w2.alloc (.cells #[.int .i64 kk, .int .i64 ll, .slice A2 I.length c2] 26)) wr) (fun i _ => K - (intOf i).toNat)
    case atStart => exact ⟨0, Nat.zero_le _, rfl, X4.out⟩
    case round =>
      obtain ⟨j, hj, rfl, hx⟩ := hrel
      have p0 : wr.cell? ⟨w2.heap.size, 0, none⟩ = some (.int .i64 kk) := hx.cell_new 0
      have p1 : wr.cell? ⟨w2.heap.size, 1, none⟩ = some (.int .i64 ll) := hx.cell_new 1
      have p2 : wr.cell? ⟨w2.heap.size, 2, none⟩ = some (.slice A2 I.length c2) := hx.cell_new 2
      have XR := Lib.hid hx
      clear hx
      rcases Nat.lt_or_ge j K with hlt | hge
      · have hemp := Hall.out j hlt
        obtain ⟨s, hs⟩ : ∃ s, s = itemF I j := ⟨_, rfl⟩
        rw [← hs] at hemp
        have Hs := Lib.hid hs
        have hemp' : s.toList.isEmpty = false := hemp
        clear hs hemp
        go_wp2_with (go_at_call 17; refine (at_any _ _ _ _ _ _ _ _ rfl ((At.of_own Hown.out).ext (((Ext.refl w2).alloc _).trans XR.out)) (by omega)).mono ?_; rw [← Hs.out]; rintro e w5 ⟨rfl, hx⟩; have X5 := Lib.hid (XR.out.trans hx); clear hx)
        go_roundw
        case rel => exact ⟨j + 1, by omega, by go_num, X5.out⟩
        case measure => simp [intOf]; omega
      · obtain rfl : j = K := by omega
        obtain ⟨s, hs⟩ : ∃ s, s = itemF I j := ⟨_, rfl⟩
        have Hs := Lib.hid hs
        have hemp : s.toList.isEmpty = true := by rw [hs]; exact HeK.out
        clear hs
        go_wp2_with (first
          | (go_at_call 17; refine (at_any _ _ _ _ _ _ _ _ rfl ((At.of_own Hown.out).ext (((Ext.refl w2).alloc _).trans XR.out)) (by omega)).mono ?_; rw [← Hs.out]; rintro e w5 ⟨rfl, hx⟩; have X5 := Lib.hid (XR.out.trans hx); clear hx p0 p1 p2))
        have HXW := Lib.hid X5.out
        have HAI := Lib.hid (show ∀ W, Ext (w2.alloc (.cells #[.int .i64 kk, .int .i64 ll, .slice A2 I.length c2] 26)) W → At W A2 (I.map Value.string) from fun W hx => (At.of_own Hown.out).ext (((Ext.refl w2).alloc _).trans hx))
        have pk0 := Keeps.of (p := ⟨w2.heap.size, 0, none⟩) (x := .int .i64 kk) (X5.out.cell_new 0)
        have pk1 := Keeps.of (p := ⟨w2.heap.size, 1, none⟩) (x := .int .i64 ll) (X5.out.cell_new 1)
        have pk2 := Keeps.of (p := ⟨w2.heap.size, 2, none⟩) (x := .slice A2 I.length c2) (X5.out.cell_new 2)
        have E0 := Lib.hid (H0.out (zerosS rn) (by rw [zerosS_size]))
        obtain ⟨r1, hr1⟩ : ∃ x, x = rn + 1 := ⟨_, rfl⟩
        have hr1b : r1 ≤ 401 := by omega
        have W1 : IntKind.i64.wrap ((rn : Int) + 1) = (r1 : Int) := by rw [hr1, IntWalk.i64_in _ (by omega)]; rfl
        obtain ⟨q, hq⟩ : ∃ q, q = putErr kk ll I j (zerosS r1) := ⟨_, rfl⟩
        have hq2 : q = if (rn : Int) = 400 then 21 else 20 := by rw [hq]; exact H1.out (zerosS r1) (by rw [zerosS_size, hr1]; rfl)
        have E1 := Lib.hid hq
        have E2 := Lib.hid hq2
        clear hq hq2 hr1
        -- REGION ops3.txt room14.spec
        refine wp_region_steps1 (by kernel_rfl) 10 8 (fun ix v W => match ix with | 0 => v = .agg #[.int .i64 kk, .int .i64 ll, .slice A2 I.length c2] | 1 => v = .int .i64 j | 2 => v = .int .i64 rn | 3 => NewBytes rn v W | 4 => v = .string (zerosS rn) | 5 => PeVal (putKind kk ll I j (zerosS rn)) (putLsn kk ll I j (zerosS rn)) (putItems kk ll I j (zerosS rn)) 0 0 v W | 6 => PeVal (putKind kk ll I j (zerosS rn)) (putLsn kk ll I j (zerosS rn)) (putItems kk ll I j (zerosS rn)) 0 0 v W | 7 => PgVal (putKind kk ll I j (zerosS rn)) (putLsn kk ll I j (zerosS rn)) (putItems kk ll I j (zerosS rn)) 0 v W | 8 => v = .int .i64 0 | 9 => NewVar 26 PZ (w2.heap.size + 1) v W | _ => True) (by decide) (by kernel_rfl) (by kernel_rfl) (by decide) (by kernel_rfl) (by kernel_rfl) (by kernel_rfl) (by kernel_rfl) ?rgLast ?rgStab ?rgSteps ?rgIdle ?rgRest
        case rgLast => exact ⟨rfl, rfl, fun a v => last_store _ _ _ _ _ _ _ _ (by decide) (by decide)⟩
        case rgStab =>
          intro ix v W W' h hx
          match ix, h with
          | 0, h => exact h
          | 1, h => exact h
          | 2, h => exact h
          | 3, h => exact NewBytes.ext h hx
          | 4, h => exact h
          | 5, h => exact PeVal.ext h hx
          | 6, h => exact PeVal.ext h hx
          | 7, h => exact PgVal.ext h hx
          | 8, h => exact h
          | 9, h => exact NewVar.ext h hx
          | _ + 10, _ => trivial
        case rgSteps =>
          refine ⟨⟨⟨⟨⟨⟨⟨⟨⟨⟨trivial, ?s0⟩, ?s1⟩, ?s2⟩, ?s3⟩, ?s4⟩, ?s5⟩, ?s6⟩, ?s7⟩, ?s8⟩, ?s9⟩
          case s0 =>
            intro _
            intro ρ W hS hx hout hpre
            have f4 : ρ (.tmp 4) = .pointer (some ⟨w2.heap.size, 0, none⟩) := hout 4 (by kernel_rfl)
            exact OpDoes.value (v := .agg #[.int .i64 kk, .int .i64 ll, .slice A2 I.length c2]) (w' := W) (by simp [go_sem, f4, pk0 W hx, pk1 W hx, pk2 W hx]) ⟨rfl, Ext.refl _⟩
          case s1 =>
            intro _
            intro ρ W hS hx hout hpre
            have f6 : ρ (.tmp 6) = .int .i64 j := hout 6 (by kernel_rfl)
            exact OpDoes.value (v := .int .i64 j) (w' := W) (by simp [go_sem, f6]) ⟨rfl, Ext.refl _⟩
          case s2 =>
            intro _
            intro ρ W hS hx hout hpre
            have f5 : ρ (.tmp 5) = .int .i64 rn := hout 5 (by kernel_rfl)
            exact OpDoes.value (v := .int .i64 rn) (w' := W) (by simp [go_sem, f5]) ⟨rfl, Ext.refl _⟩
          case s3 =>
            intro _
            intro ρ W hS hx hout hpre
            have f70 : ρ (.tmp 70) = .int .i64 rn := hpre 2 70 (by kernel_rfl)
            exact OpDoes.value (v := .slice (some ⟨W.heap.size, 0, none⟩) rn rn) (w' := W.alloc (.cells (madeCells #[.int .u8 0] rn) 5)) (by simp [go_sem, f70, run_mk_bytes rn (by omega)]) ⟨⟨_, rfl, Blk.new _ _ _⟩, (Ext.refl W).alloc _⟩
          case s4 =>
            intro _
            intro ρ W hS hx hout hpre
            have f71 := hpre 3 71 (by kernel_rfl)
            obtain ⟨B, e71, hb⟩ := f71
            exact OpDoes.value (v := .string (zerosS rn)) (w' := W) (by simp [go_sem, e71, run_cv_blk hb]) ⟨rfl, Ext.refl _⟩
          case s5 =>
            intro _
            intro ρ W hS hx hout hpre
            have f68 : ρ (.tmp 68) = .agg #[.int .i64 kk, .int .i64 ll, .slice A2 I.length c2] := hpre 0 68 (by kernel_rfl)
            have f69 : ρ (.tmp 69) = .int .i64 j := hpre 1 69 (by kernel_rfl)
            have f72 : ρ (.tmp 72) = .string (zerosS rn) := hpre 4 72 (by kernel_rfl)
            refine OpDoes.call (f := 18) (args := #[.agg #[.int .i64 kk, .int .i64 ll, .slice A2 I.length c2], .int .i64 j, .string (zerosS rn)]) (w' := W) (by simp [go_sem, hS.func, f68, f69, f72]) ?_
            refine (put_any _ _ _ _ _ _ _ _ _ rfl (HAI.out W (HXW.out.trans hx)) HS.out (by rw [zerosS_size]; omega)).mono ?_
            rw [put_eq, E0.out]
            rintro e w6 ⟨A6, c6, rfl, hown6, hx6⟩
            exact ⟨_, rfl, ⟨A6, c6, rfl, own_mono hown6 (Nat.zero_le _)⟩, hx6⟩
          case s6 =>
            intro _
            intro ρ W hS hx hout hpre
            have f73 := hpre 5 73 (by kernel_rfl)
            exact OpDoes.value (v := ρ (.tmp 73)) (w' := W) (by simp [go_sem]) ⟨f73, Ext.refl _⟩
          case s7 =>
            intro _
            intro ρ W hS hx hout hpre
            have f67 := hpre 6 67 (by kernel_rfl)
            obtain ⟨A6, c6, e67, ho⟩ := f67
            exact OpDoes.value (w' := W) (by simp [go_sem, e67]) ⟨⟨A6, c6, rfl, ho⟩, Ext.refl _⟩
          case s8 => exact fun h => absurd rfl h
          case s9 =>
            intro _
            intro ρ W hS hx hout hpre
            exact OpDoes.value (v := .pointer (some ⟨W.heap.size, 0, none⟩)) (w' := W.alloc (.cells PZ 26)) (by simp [go_sem]) ⟨⟨_, rfl, (HXW.out.trans hx).size1, Blk.new _ _ _⟩, (Ext.refl W).alloc _⟩
        case rgIdle =>
            intro ρ W hS hx hout hpre
            have f67 := hpre 6 67 (by kernel_rfl)
            obtain ⟨A6, c6, e67, ho⟩ := f67
            exact ⟨.int .i64 0, fun W' => by simp [go_sem, e67], rfl⟩
        case rgRest =>
          intro vs W hl hD hx
          match vs, hl with
          | [v68, v69, v70, v71, v72, v73, v67, v74, v75, v8], _ =>
            obtain rfl : v68 = .agg #[.int .i64 kk, .int .i64 ll, .slice A2 I.length c2] := hD 0 v68 rfl
            obtain rfl : v69 = .int .i64 j := hD 1 v69 rfl
            obtain rfl : v70 = .int .i64 rn := hD 2 v70 rfl
            have d71 : NewBytes rn v71 W := hD 3 v71 rfl
            obtain rfl : v72 = .string (zerosS rn) := hD 4 v72 rfl
            have d73 : PeVal (putKind kk ll I j (zerosS rn)) (putLsn kk ll I j (zerosS rn)) (putItems kk ll I j (zerosS rn)) 0 0 v73 W := hD 5 v73 rfl
            have d67 : PeVal (putKind kk ll I j (zerosS rn)) (putLsn kk ll I j (zerosS rn)) (putItems kk ll I j (zerosS rn)) 0 0 v67 W := hD 6 v67 rfl
            have d74 : PgVal (putKind kk ll I j (zerosS rn)) (putLsn kk ll I j (zerosS rn)) (putItems kk ll I j (zerosS rn)) 0 v74 W := hD 7 v74 rfl
            obtain rfl : v75 = .int .i64 0 := hD 8 v75 rfl
            have d8 : NewVar 26 PZ (w2.heap.size + 1) v8 W := hD 9 v8 rfl
            clear hD
            rw [show headDsts _ 10 = [68, 69, 70, 71, 72, 73, 67, 74, 75, 8] by kernel_rfl]
            simp only [putAll, List.setIfInBounds_toArray, List.set_cons_succ, List.set_cons_zero, List.drop_succ_cons, List.drop_zero]
        -- END
            obtain ⟨A6, c6, rfl, hown6⟩ := d74
            obtain ⟨B8, rfl, hB8, hblk8⟩ := d8
            have Hblk8 := Lib.hid hblk8
            have HX14 := Lib.hid (HXW.out.trans hx)
            have q0 : W.cell? ⟨B8, 0, none⟩ = some (.int .i64 0) := Hblk8.out.cell 0
            have q1 : W.cell? ⟨B8, 1, none⟩ = some (.int .i64 0) := Hblk8.out.cell 1
            have q2 : W.cell? ⟨B8, 2, none⟩ = some (.slice none 0 0) := Hblk8.out.cell 2
            have f0 := Hblk8.out.frozen 0
            have f1 := Hblk8.out.frozen 1
            have f2 := Hblk8.out.frozen 2
            clear hblk8 hx hown6 d71 d73 d67
            refine ⟨_, by simp [go_sem, q0, q1, q2, f0, f1, f2]; exact rfl, ?_⟩
            have hB8' : (w2.alloc (.cells #[.int .i64 kk, .int .i64 ll, .slice A2 I.length c2] 26)).heap.size ≤ B8 := by simpa using hB8
            have HY := Lib.hid ((((HX14.out.set (p := ⟨B8, 0, none⟩) hB8' (.int .i64 (putKind kk ll I j (zerosS rn)))).set (p := ⟨B8, 1, none⟩) hB8' (.int .i64 (putLsn kk ll I j (zerosS rn)))).set (p := ⟨B8, 2, none⟩) hB8' (.slice A6 (putItems kk ll I j (zerosS rn)).length c6)))
            clear q0 q1 q2 f0 f1 f2 HX14 Hblk8 pk0 pk1 pk2 HXW
            obtain ⟨wy, hwy⟩ : ∃ x, x = ((W.setCell ⟨B8, 0, none⟩ (.int .i64 (putKind kk ll I j (zerosS rn)))).setCell ⟨B8, 1, none⟩ (.int .i64 (putLsn kk ll I j (zerosS rn)))).setCell ⟨B8, 2, none⟩ (.slice A6 (putItems kk ll I j (zerosS rn)).length c6) := ⟨_, rfl⟩
            rw [← hwy] at HY ⊢
            clear hwy
            have HXW := HY
            have pk0 := Keeps.of (p := ⟨w2.heap.size, 0, none⟩) (x := .int .i64 kk) (HXW.out.cell_new 0)
            have pk1 := Keeps.of (p := ⟨w2.heap.size, 1, none⟩) (x := .int .i64 ll) (HXW.out.cell_new 1)
            have pk2 := Keeps.of (p := ⟨w2.heap.size, 2, none⟩) (x := .slice A2 I.length c2) (HXW.out.cell_new 2)
            go_wp2_with fail
            -- REGION ops3.txt room15.spec
            refine wp_region_steps1 (by kernel_rfl) 11 9 (fun ix v W => match ix with | 0 => v = .agg #[.int .i64 kk, .int .i64 ll, .slice A2 I.length c2] | 1 => v = .int .i64 j | 2 => v = .int .i64 rn | 3 => v = .int .i64 r1 | 4 => NewBytes r1 v W | 5 => v = .string (zerosS r1) | 6 => PeVal (putKind kk ll I j (zerosS r1)) (putLsn kk ll I j (zerosS r1)) (putItems kk ll I j (zerosS r1)) q 0 v W | 7 => PeVal (putKind kk ll I j (zerosS r1)) (putLsn kk ll I j (zerosS r1)) (putItems kk ll I j (zerosS r1)) q 0 v W | 8 => PgVal (putKind kk ll I j (zerosS r1)) (putLsn kk ll I j (zerosS r1)) (putItems kk ll I j (zerosS r1)) 0 v W | 9 => v = .int .i64 q | 10 => NewVar 26 PZ (w2.heap.size + 1) v W | _ => True) (by decide) (by kernel_rfl) (by kernel_rfl) (by decide) (by kernel_rfl) (by kernel_rfl) (by kernel_rfl) (by kernel_rfl) ?rgLast ?rgStab ?rgSteps ?rgIdle ?rgRest
            case rgLast => exact ⟨rfl, rfl, fun a v => last_store _ _ _ _ _ _ _ _ (by decide) (by decide)⟩
            case rgStab =>
              intro ix v W W' h hx
              match ix, h with
              | 0, h => exact h
              | 1, h => exact h
              | 2, h => exact h
              | 3, h => exact h
              | 4, h => exact NewBytes.ext h hx
              | 5, h => exact h
              | 6, h => exact PeVal.ext h hx
              | 7, h => exact PeVal.ext h hx
              | 8, h => exact PgVal.ext h hx
              | 9, h => exact h
              | 10, h => exact NewVar.ext h hx
              | _ + 11, _ => trivial
            case rgSteps =>
              refine ⟨⟨⟨⟨⟨⟨⟨⟨⟨⟨⟨trivial, ?s0⟩, ?s1⟩, ?s2⟩, ?s3⟩, ?s4⟩, ?s5⟩, ?s6⟩, ?s7⟩, ?s8⟩, ?s9⟩, ?s10⟩
              case s0 =>
                intro _
                intro ρ W hS hx hout hpre
                have f4 : ρ (.tmp 4) = .pointer (some ⟨w2.heap.size, 0, none⟩) := hout 4 (by kernel_rfl)
                exact OpDoes.value (v := .agg #[.int .i64 kk, .int .i64 ll, .slice A2 I.length c2]) (w' := W) (by simp [go_sem, f4, pk0 W hx, pk1 W hx, pk2 W hx]) ⟨rfl, Ext.refl _⟩
              case s1 =>
                intro _
                intro ρ W hS hx hout hpre
                have f6 : ρ (.tmp 6) = .int .i64 j := hout 6 (by kernel_rfl)
                exact OpDoes.value (v := .int .i64 j) (w' := W) (by simp [go_sem, f6]) ⟨rfl, Ext.refl _⟩
              case s2 =>
                intro _
                intro ρ W hS hx hout hpre
                have f5 : ρ (.tmp 5) = .int .i64 rn := hout 5 (by kernel_rfl)
                exact OpDoes.value (v := .int .i64 rn) (w' := W) (by simp [go_sem, f5]) ⟨rfl, Ext.refl _⟩
              case s3 =>
                intro _
                intro ρ W hS hx hout hpre
                have f79 : ρ (.tmp 79) = .int .i64 rn := hpre 2 79 (by kernel_rfl)
                exact OpDoes.value (v := .int .i64 r1) (w' := W) (by simp [go_sem, hS.const, f79, W1]) ⟨rfl, Ext.refl _⟩
              case s4 =>
                intro _
                intro ρ W hS hx hout hpre
                have f80 : ρ (.tmp 80) = .int .i64 r1 := hpre 3 80 (by kernel_rfl)
                exact OpDoes.value (v := .slice (some ⟨W.heap.size, 0, none⟩) r1 r1) (w' := W.alloc (.cells (madeCells #[.int .u8 0] r1) 5)) (by simp [go_sem, f80, run_mk_bytes r1 (by omega)]) ⟨⟨_, rfl, Blk.new _ _ _⟩, (Ext.refl W).alloc _⟩
              case s5 =>
                intro _
                intro ρ W hS hx hout hpre
                have f81 := hpre 4 81 (by kernel_rfl)
                obtain ⟨B, e81, hb⟩ := f81
                exact OpDoes.value (v := .string (zerosS r1)) (w' := W) (by simp [go_sem, e81, run_cv_blk hb]) ⟨rfl, Ext.refl _⟩
              case s6 =>
                intro _
                intro ρ W hS hx hout hpre
                have f77 : ρ (.tmp 77) = .agg #[.int .i64 kk, .int .i64 ll, .slice A2 I.length c2] := hpre 0 77 (by kernel_rfl)
                have f78 : ρ (.tmp 78) = .int .i64 j := hpre 1 78 (by kernel_rfl)
                have f82 : ρ (.tmp 82) = .string (zerosS r1) := hpre 5 82 (by kernel_rfl)
                refine OpDoes.call (f := 18) (args := #[.agg #[.int .i64 kk, .int .i64 ll, .slice A2 I.length c2], .int .i64 j, .string (zerosS r1)]) (w' := W) (by simp [go_sem, hS.func, f77, f78, f82]) ?_
                refine (put_any _ _ _ _ _ _ _ _ _ rfl (HAI.out W (HXW.out.trans hx)) HS.out (by rw [zerosS_size]; omega)).mono ?_
                rw [put_eq, ← E1.out]
                rintro e w6 ⟨A6, c6, rfl, hown6, hx6⟩
                exact ⟨_, rfl, ⟨A6, c6, rfl, own_mono hown6 (Nat.zero_le _)⟩, hx6⟩
              case s7 =>
                intro _
                intro ρ W hS hx hout hpre
                have f83 := hpre 6 83 (by kernel_rfl)
                exact OpDoes.value (v := ρ (.tmp 83)) (w' := W) (by simp [go_sem]) ⟨f83, Ext.refl _⟩
              case s8 =>
                intro _
                intro ρ W hS hx hout hpre
                have f76 := hpre 7 76 (by kernel_rfl)
                obtain ⟨A6, c6, e76, ho⟩ := f76
                exact OpDoes.value (w' := W) (by simp [go_sem, e76]) ⟨⟨A6, c6, rfl, ho⟩, Ext.refl _⟩
              case s9 => exact fun h => absurd rfl h
              case s10 =>
                intro _
                intro ρ W hS hx hout hpre
                exact OpDoes.value (v := .pointer (some ⟨W.heap.size, 0, none⟩)) (w' := W.alloc (.cells PZ 26)) (by simp [go_sem]) ⟨⟨_, rfl, (HXW.out.trans hx).size1, Blk.new _ _ _⟩, (Ext.refl W).alloc _⟩
            case rgIdle =>
                intro ρ W hS hx hout hpre
                have f76 := hpre 7 76 (by kernel_rfl)
                obtain ⟨A6, c6, e76, ho⟩ := f76
                exact ⟨.int .i64 q, fun W' => by simp [go_sem, e76], rfl⟩
            case rgRest =>
              intro vs W hl hD hx
              match vs, hl with
              | [v77, v78, v79, v80, v81, v82, v83, v76, v84, v85, v10], _ =>
                obtain rfl : v77 = .agg #[.int .i64 kk, .int .i64 ll, .slice A2 I.length c2] := hD 0 v77 rfl
                obtain rfl : v78 = .int .i64 j := hD 1 v78 rfl
                obtain rfl : v79 = .int .i64 rn := hD 2 v79 rfl
                obtain rfl : v80 = .int .i64 r1 := hD 3 v80 rfl
                have d81 : NewBytes r1 v81 W := hD 4 v81 rfl
                obtain rfl : v82 = .string (zerosS r1) := hD 5 v82 rfl
                have d83 : PeVal (putKind kk ll I j (zerosS r1)) (putLsn kk ll I j (zerosS r1)) (putItems kk ll I j (zerosS r1)) q 0 v83 W := hD 6 v83 rfl
                have d76 : PeVal (putKind kk ll I j (zerosS r1)) (putLsn kk ll I j (zerosS r1)) (putItems kk ll I j (zerosS r1)) q 0 v76 W := hD 7 v76 rfl
                have d84 : PgVal (putKind kk ll I j (zerosS r1)) (putLsn kk ll I j (zerosS r1)) (putItems kk ll I j (zerosS r1)) 0 v84 W := hD 8 v84 rfl
                obtain rfl : v85 = .int .i64 q := hD 9 v85 rfl
                have d10 : NewVar 26 PZ (w2.heap.size + 1) v10 W := hD 10 v10 rfl
                clear hD
                rw [show headDsts _ 11 = [77, 78, 79, 80, 81, 82, 83, 76, 84, 85, 10] by kernel_rfl]
                simp only [putAll, List.setIfInBounds_toArray, List.set_cons_succ, List.set_cons_zero, List.drop_succ_cons, List.drop_zero]
            -- END
                obtain ⟨A7, c7, rfl, hown7⟩ := d84
                obtain ⟨B10, rfl, hB10, hblk10⟩ := d10
                have Hblk10 := Lib.hid hblk10
                have HX15 := Lib.hid (HXW.out.trans hx)
                have q0 : W.cell? ⟨B10, 0, none⟩ = some (.int .i64 0) := Hblk10.out.cell 0
                have q1 : W.cell? ⟨B10, 1, none⟩ = some (.int .i64 0) := Hblk10.out.cell 1
                have q2 : W.cell? ⟨B10, 2, none⟩ = some (.slice none 0 0) := Hblk10.out.cell 2
                have f0 := Hblk10.out.frozen 0
                have f1 := Hblk10.out.frozen 1
                have f2 := Hblk10.out.frozen 2
                clear hblk10 hx hown7 d81 d83 d76
                refine ⟨_, by simp [go_sem, q0, q1, q2, f0, f1, f2]; exact rfl, ?_⟩
                have hB10' : (w2.alloc (.cells #[.int .i64 kk, .int .i64 ll, .slice A2 I.length c2] 26)).heap.size ≤ B10 := by simpa using hB10
                have HZ := Lib.hid ((((HX15.out.set (p := ⟨B10, 0, none⟩) hB10' (.int .i64 (putKind kk ll I j (zerosS r1)))).set (p := ⟨B10, 1, none⟩) hB10' (.int .i64 (putLsn kk ll I j (zerosS r1)))).set (p := ⟨B10, 2, none⟩) hB10' (.slice A7 (putItems kk ll I j (zerosS r1)).length c7)))
                clear q0 q1 q2 f0 f1 f2 HX15 Hblk10 pk0 pk1 pk2 HXW HY
                obtain ⟨wz, hwz⟩ : ∃ x, x = ((W.setCell ⟨B10, 0, none⟩ (.int .i64 (putKind kk ll I j (zerosS r1)))).setCell ⟨B10, 1, none⟩ (.int .i64 (putLsn kk ll I j (zerosS r1)))).setCell ⟨B10, 2, none⟩ (.slice A7 (putItems kk ll I j (zerosS r1)).length c7) := ⟨_, rfl⟩
                rw [← hwz] at HZ ⊢
                clear hwz
                by_cases hc : (rn : Int) = 400
                · have hq : q = 21 := by rw [E2.out, if_pos hc]
                  have hcb : ((rn : Int) == 400) = true := by simpa using hc
                  clear hc E0 E1 E2
                  subst hq
                  go_wp2
                  go_ret
                  exact ⟨rfl, (X2.out.alloc _).trans HZ.out⟩
                · have hq : q = 20 := by rw [E2.out, if_neg hc]
                  have hcb : ((rn : Int) == 400) = false := by simpa using hc
                  clear hc E0 E1 E2
                  subst hq
                  go_wp2
                  go_ret
                  exact ⟨rfl, (X2.out.alloc _).trans HZ.out⟩
end Go.Proofs.Ytkkldciofndedaa
