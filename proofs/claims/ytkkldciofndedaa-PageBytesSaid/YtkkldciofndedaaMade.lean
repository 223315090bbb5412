/- the reference's Made, the law's made. -/
import Derived.Test.YtkkldciofndedaaSame
import Derived.Deep.DeepCutAuto
import Derived.Test.YtkkldciofndedaaRegion
namespace Go.Proofs.Ytkkldciofndedaa
open Go.RowKit
set_option linter.unusedVariables false

def cutN (s : ByteArray) (n : Nat) : ByteArray := s.extract 0 (if s.size ≤ n then s.size else n)
theorem cutN_size (s : ByteArray) (n : Nat) : (cutN s n).size ≤ n := by
  unfold cutN
  rw [ByteArray.size_extract]
  split <;> omega
def madeL (k l : Int) (ss : List ByteArray) : Nat → List ByteArray
  | 0 => []
  | i + 1 => if putErr k l (madeL k l ss i) i (cutN (ss.getD i ByteArray.empty) 400) = 0 then plainL (withL (madeL k l ss i) i (cutN (ss.getD i ByteArray.empty) 400)) else madeL k l ss i
theorem madeL_succ (k l : Int) (ss : List ByteArray) (i : Nat) : madeL k l ss (i + 1) = if putErr k l (madeL k l ss i) i (cutN (ss.getD i ByteArray.empty) 400) = 0 then plainL (withL (madeL k l ss i) i (cutN (ss.getD i ByteArray.empty) 400)) else madeL k l ss i := rfl
def kindF (k : Int) : Int := (wrap64 (k.tmod 3 + 3)).tmod 3
def lsnF (l : Int) : Int := bits .and .i64 l 2147483647
theorem kindF_bd (k : Int) : 0 ≤ kindF k ∧ kindF k ≤ 2 := by
  have h1 : -3 < k.tmod 3 := by have := Int.lt_tmod_of_pos k (show (0 : Int) < 3 by omega); omega
  have h2 : k.tmod 3 < 3 := Int.tmod_lt_of_pos k (by omega)
  have e : wrap64 (k.tmod 3 + 3) = k.tmod 3 + 3 := IntWalk.wrap64_in _ ⟨by omega, by omega⟩
  rw [kindF, e]
  have h3 := Int.tmod_nonneg (a := k.tmod 3 + 3) 3 (by omega)
  have h4 := Int.tmod_lt_of_pos (k.tmod 3 + 3) (show (0 : Int) < 3 by omega)
  omega
theorem lsnF_bd (l : Int) : 0 ≤ lsnF l ∧ lsnF l ≤ 2147483647 := by
  have e : lsnF l = IntKind.i64.wrap ((BitVec.ofInt 64 l &&& BitVec.ofInt 64 2147483647).toNat : Int) := rfl
  have h : (BitVec.ofInt 64 l &&& BitVec.ofInt 64 2147483647).toNat ≤ 2147483647 := by
    rw [BitVec.toNat_and]
    exact Nat.le_trans (Nat.and_le_right) (by decide)
  rw [e, IntKind.wrap_i64]
  omega
/-- what a page is that is made so -/
theorem right_nil {k l : Int} (h : 0 ≤ k ∧ k ≤ 2) (h' : 0 ≤ l ∧ l ≤ 2147483647) : rightB k l [] = true := by
  simp [rightB, h, h', longB, sizeL, plainL, sizeT]

theorem withL_len (ss : List ByteArray) (K : Nat) (s : ByteArray) : (withL ss K s).length = max (plainL ss).length (K + 1) := by
  simp only [withL, padTo, List.length_set, List.length_append, List.length_replicate]; omega
theorem withL_mem {ss : List ByteArray} {K : Nat} {s x : ByteArray} (h : x ∈ withL ss K s) : x = s ∨ x ∈ ss ∨ x = ByteArray.empty := by
  rcases List.mem_or_eq_of_mem_set h with h | h
  · rcases List.mem_append.1 h with h1 | h1
    · exact .inr (.inl (List.mem_of_mem_take h1))
    · exact .inr (.inr (List.mem_replicate.1 h1).2)
  · exact .inl h
theorem put_right {k l : Int} {ss : List ByteArray} {slot : Int} {s : ByteArray} (h : rightB k l ss = true) (hp : putErr k l ss slot s = 0) : rightB k l (plainL (withL ss slot.toNat s)) = true := by
  obtain ⟨hk, hl, ⟨h24, hsz⟩, _⟩ := right_parts h
  unfold putErr at hp
  rw [h, if_neg (by simp)] at hp
  split at hp
  · cases hp
  · rename_i hb
    split at hp
    · cases hp
    · rename_i hz
      have hpl := plainL_len (withL ss slot.toNat s)
      have htr := trimN_le (withL ss slot.toNat s) (withL ss slot.toNat s).length
      have hwl := withL_len ss slot.toNat s
      have hpl2 := plainL_len ss
      have htr2 := trimN_le ss ss.length
      have hz2 : sizeL (plainL (withL ss slot.toNat s)) = sizeL (withL ss slot.toNat s) := by rw [sizeL, plain_plain, sizeL]
      have hlong : longB (plainL (withL ss slot.toNat s)) = false := by
        rw [longB, List.any_eq_false]
        intro x hx
        have hx' := withL_mem (List.mem_of_mem_take hx)
        rcases hx' with rfl | hx' | rfl
        · simp; omega
        · have := hsz x hx'; simp; omega
        · simp
      simp only [rightB, Bool.and_eq_true, decide_eq_true_eq, hlong, Bool.not_false, hz2, true_and]
      exact ⟨hk.1, hk.2, hl.1, hl.2, by omega, by omega⟩
def MadeRel (k l : Int) (ss : List ByteArray) (w : World) (v : Value) (wr : World) : Prop :=
  ∃ (i : Nat) (A : Option Addr) (c : Nat), v = .int .i64 i ∧ i ≤ ss.length ∧ i ≤ 24 ∧ Blk wr (w.heap.size + 1) 26 #[.int .i64 k, .int .i64 l, .slice A (madeL k l ss i).length c] ∧
    wr.ownsRow (w.heap.size + 2) 9 1 (.slice A (madeL k l ss i).length c) (madeL k l ss i).length ((madeL k l ss i).map Value.string) ∧ Blk wr w.heap.size 26 #[.int .i64 0, .int .i64 0, .slice none 0 0] ∧ Ext w wr ∧ rightB k l (madeL k l ss i) = true

def putKind (k l : Int) (ss : List ByteArray) (slot : Int) (s : ByteArray) : Int := if putErr k l ss slot s = 0 then k else 0
def putLsn (k l : Int) (ss : List ByteArray) (slot : Int) (s : ByteArray) : Int := if putErr k l ss slot s = 0 then l else 0
def putItems (k l : Int) (ss : List ByteArray) (slot : Int) (s : ByteArray) : List ByteArray := if putErr k l ss slot s = 0 then plainL (withL ss slot.toNat s) else []
theorem rput_eq {k l : Int} {ss : List ByteArray} {slot : Int} {s : ByteArray} {w : World} :
    RPutPost k l ss slot s w = GotPost (putKind k l ss slot s) (putLsn k l ss slot s) (putItems k l ss slot s) (putErr k l ss slot s) w := by
  unfold RPutPost putKind putLsn putItems
  split
  · rename_i h; rw [h]
  · rfl
theorem put_eq {k l : Int} {ss : List ByteArray} {slot : Int} {s : ByteArray} {w : World} :
    PutPost k l ss slot s w = PgPost (putKind k l ss slot s) (putLsn k l ss slot s) (putItems k l ss slot s) (putErr k l ss slot s) w := by
  unfold PutPost putKind putLsn putItems
  split
  · rename_i h; rw [h]
  · rfl
theorem Keeps.of {w : World} {p : Addr} {x : Value} (h : w.cell? p = some x) : ∀ W, Ext w W → W.cell? p = some x := fun W hx => (hx.cell (World.block_lt_of_cell? w p h)).trans h
/-- the answer as a value -/
def GotVal (k l : Int) (items : List ByteArray) (err : Int) (base : Nat) (v : Value) (w : World) : Prop :=
  ∃ A c, v = .agg #[.int .i64 k, .int .i64 l, .slice A items.length c, .int .i64 err] ∧ w.ownsRow base 9 1 (.slice A items.length c) items.length (items.map Value.string)
theorem GotVal.ext {k l : Int} {items : List ByteArray} {err : Int} {base : Nat} {v : Value} {w w' : World} (h : GotVal k l items err base v w) (hx : Ext w w') : GotVal k l items err base v w' := by
  obtain ⟨A, c, h1, h2⟩ := h
  exact ⟨A, c, h1, own_ext h2 hx⟩
/-- a variable of the answer's type, and the answer in it -/
def GotAt (k l : Int) (items : List ByteArray) (err : Int) (w wr : World) (v : Value) (wx : World) : Prop :=
  ∃ B A c, v = .pointer (some ⟨B, 0, none⟩) ∧ Blk wx B 49 #[.int .i64 k, .int .i64 l, .slice A items.length c, .int .i64 err] ∧ w.heap.size + 2 ≤ B ∧
    wx.ownsRow (w.heap.size + 2) 9 1 (.slice A items.length c) items.length (items.map Value.string) ∧ Ext wr wx

theorem GotAt.new3 {k l : Int} {items : List ByteArray} {err : Int} {w wr w2 : World} {B c : Nat} {A : Option Addr} {a0 a1 a2 a3 : Value}
    (h : w2.ownsRow (w.heap.size + 2) 9 1 (.slice A items.length c) items.length (items.map Value.string)) (hx : Ext wr w2) (h9 : Blk w2 B 49 #[a0, a1, a2, a3]) (hz : w.heap.size + 1 < wr.heap.size) (hb : wr.heap.size ≤ B) :
    GotAt k l items err w wr (.pointer (some ⟨B, 0, none⟩)) ((((w2.setCell ⟨B, 0, none⟩ (.int .i64 k)).setCell ⟨B, 1, none⟩ (.int .i64 l)).setCell ⟨B, 2, none⟩ (.slice A items.length c)).setCell ⟨B, 3, none⟩ (.int .i64 err)) := by
  have hne := own_ne h h9 (by decide)
  refine ⟨_, A, c, rfl, (((h9.set_ 0 _).set_ 1 _).set_ 2 _).set_ 3 _, by omega, own_set (own_set (own_set (own_set h hne 0 _) hne 1 _) hne 2 _) hne 3 _, ?_⟩
  exact (((hx.set hb _).set hb _).set hb _).set hb _

set_option maxRecDepth 100000 in
set_option maxHeartbeats 4000000 in
theorem made_any (k l : Int) (A : Option Addr) (n c : Nat) (ss : List ByteArray) (w : World) (hn : n = ss.length) (h : At w A (ss.map Value.string)) (hl : ss.length ≤ 9223372036854775807) :
    Calls Try.prog 39 #[.int .i64 k, .int .i64 l, .slice A n c] w (PgOne (kindF k) (lsnF l) (madeL (kindF k) (lsnF l) ss (min ss.length 24)) w) := by
  subst hn
  have H := Lib.hid h; clear h
  have hk := kindF_bd k
  have hll := lsnF_bd l
  go_enter Try.func39, Try.ntmps39
  go_wp2
  obtain ⟨kk, hkk⟩ : ∃ kk, kk = kindF k := ⟨_, rfl⟩
  obtain ⟨ll, hl2⟩ : ∃ ll, ll = lsnF l := ⟨_, rfl⟩
  rw [← hkk] at hk ⊢
  rw [← hl2] at hll ⊢
  rw [show (wrap64 (k.tmod 3 + 3)).tmod 3 = kk from hkk.symm, show bits BinOp.and IntKind.i64 l 2147483647 = ll from hl2.symm]
  have Hkk := Lib.hid hkk
  have Hll := Lib.hid hl2
  clear hkk hl2
  have R0 := Lib.hid (right_nil hk hll)
  clear hk hll
  go_loopw [8] (fun v wr => MadeRel kk ll ss w v wr) (fun v _ => 24 - (intOf v).toNat)
  case atStart => exact ⟨0, none, 0, rfl, Nat.zero_le _, Nat.zero_le _, Blk.new' (by simp), World.ownsRow_nil _ _ _ _, (Blk.new' rfl).alloc _, ((Ext.refl w).alloc _).alloc _, R0.out⟩
  case round =>
    obtain ⟨i, A', c', rfl, hi1, hi2, hb7, hown, hb6, hx, hr⟩ := hrel
    have Hb7 := Lib.hid hb7
    have Hb6 := Lib.hid hb6
    have Hw := Lib.hid hown
    have XR := Lib.hid hx
    have HR := Lib.hid hr
    have p0 : wr.cell? ⟨w.heap.size + 1, 0, none⟩ = some (.int .i64 kk) := hb7.cell 0
    have p1 : wr.cell? ⟨w.heap.size + 1, 1, none⟩ = some (.int .i64 ll) := hb7.cell 1
    have p2 : wr.cell? ⟨w.heap.size + 1, 2, none⟩ = some (.slice A' (madeL kk ll ss i).length c') := hb7.cell 2
    have hz7 := hb7.lt
    clear hb7 hown hb6 hx hr
    by_cases hgo : i < ss.length ∧ i < 24
    · obtain ⟨hlt, h24⟩ := hgo
      have i1 : (0 : Int) ≤ (i : Int) := by omega
      have i2 : (i : Int) < (ss.length : Int) := by omega
      have i3 : (i : Int) < 24 := by omega
      obtain ⟨ad, rfl, hadl, hcell⟩ := (H.out.ext XR.out).get (k := i) (by simpa using hlt)
      rw [List.getElem_map] at hcell
      have Hs := Lib.hid (show ss[i] = ss.getD i ByteArray.empty by simp [List.getD, hlt])
      have Hm := Lib.hid (madeL_succ kk ll ss i)
      obtain ⟨s, hs⟩ : ∃ s, s = ss[i] := ⟨_, rfl⟩
      rw [← hs] at hcell Hs
      rw [← Hs.out] at Hm
      clear hs Hs
      obtain ⟨items, hit⟩ : ∃ items, items = madeL kk ll ss i := ⟨_, rfl⟩
      rw [← hit] at p2 Hb7 Hw HR Hm
      clear hit
      have Hrp := Lib.hid (right_parts HR.out)
      have hii : items.length ≤ 24 := Hrp.out.2.2.1.1
      have HSm := Lib.hid (show Small items from ⟨by omega, fun x hx => by have := Hrp.out.2.2.1.2 x hx; omega⟩)
      have Hcz := Lib.hid (cutN_size s 400)
      obtain ⟨X, hX, hXz⟩ : ∃ X, cutN s 400 = s.extract 0 X ∧ ((X = 400 ∧ (400 : Int) ≤ (s.size : Int) ∧ 400 < (s.size : Int)) ∨ (X = s.size ∧ (s.size : Int) ≤ 400 ∧ ¬ 400 < (s.size : Int))) := by
        unfold cutN
        split
        · exact ⟨_, rfl, .inr ⟨rfl, by omega, by omega⟩⟩
        · exact ⟨_, rfl, .inl ⟨rfl, by omega, by omega⟩⟩
      rw [hX] at Hm Hcz
      clear hX
      have p0h := Keeps.of p0
      have p1h := Keeps.of p1
      have p2h := Keeps.of p2
      have hclh := Keeps.of hcell
      go_upto_region 5 with fail
      go_cut [9] (fun v9 wx => GotAt (putKind kk ll items i (s.extract 0 X)) (putLsn kk ll items i (s.extract 0 X)) (putItems kk ll items i (s.extract 0 X)) (putErr kk ll items i (s.extract 0 X)) w wr v9 wx)
      case first =>
        -- REGION ops39.txt made5.spec
        refine wp_region_steps (by kernel_rfl) 15 (fun ix v W => match ix with | 0 => v = .agg #[.int .i64 kk, .int .i64 ll, .slice A' items.length c'] | 1 => v = .int .i64 i | 2 => v = .slice (some ad) ss.length c | 3 => v = .int .i64 i | 4 => v = .pointer (some (ad.add i)) | 5 => v = .string s | 6 => v = .slice (some ad) ss.length c | 7 => v = .int .i64 i | 8 => v = .pointer (some (ad.add i)) | 9 => v = .string s | 10 => v = .int .i64 s.size | 11 => v = .int .i64 X | 12 => v = .string (s.extract 0 X) | 13 => GotVal (putKind kk ll items i (s.extract 0 X)) (putLsn kk ll items i (s.extract 0 X)) (putItems kk ll items i (s.extract 0 X)) (putErr kk ll items i (s.extract 0 X)) (w.heap.size + 2) v W | 14 => ∃ B, v = .pointer (some ⟨B, 0, none⟩) ∧ wr.heap.size ≤ B ∧ Blk W B 49 #[.int .i64 0, .int .i64 0, .slice none 0 0, .int .i64 0] | _ => True) (by kernel_rfl) (by kernel_rfl) (by decide) (by kernel_rfl) (by kernel_rfl) ?rgStab ?rgSteps ?rgRest
        case rgStab =>
          intro ix v W W' h hx
          match ix, h with
          | 0, h => exact h
          | 1, h => exact h
          | 2, h => exact h
          | 3, h => exact h
          | 4, h => exact h
          | 5, h => exact h
          | 6, h => exact h
          | 7, h => exact h
          | 8, h => exact h
          | 9, h => exact h
          | 10, h => exact h
          | 11, h => exact h
          | 12, h => exact h
          | 13, h => exact GotVal.ext h hx
          | 14, h => obtain ⟨B, h1, h2, h3⟩ := h; exact ⟨B, h1, h2, h3.ext hx⟩
          | _ + 15, _ => trivial
        case rgSteps =>
          refine ⟨⟨⟨⟨⟨⟨⟨⟨⟨⟨⟨⟨⟨⟨⟨trivial, ?s0⟩, ?s1⟩, ?s2⟩, ?s3⟩, ?s4⟩, ?s5⟩, ?s6⟩, ?s7⟩, ?s8⟩, ?s9⟩, ?s10⟩, ?s11⟩, ?s12⟩, ?s13⟩, ?s14⟩
          case s0 =>
            intro ρ W hS hx hout hpre
            have f7 : ρ (.tmp 7) = .pointer (some ⟨w.heap.size + 1, 0, none⟩) := hout 7 (by kernel_rfl)
            exact OpDoes.value (v := .agg #[.int .i64 kk, .int .i64 ll, .slice A' items.length c']) (w' := W) (by simp [go_sem, f7, p0h W hx, p1h W hx, p2h W hx]) ⟨rfl, Ext.refl _⟩
          case s1 =>
            intro ρ W hS hx hout hpre
            have f8 : ρ (.tmp 8) = .int .i64 i := hout 8 (by kernel_rfl)
            exact OpDoes.value (v := .int .i64 i) (w' := W) (by simp [go_sem, f8]) ⟨rfl, Ext.refl _⟩
          case s2 =>
            intro ρ W hS hx hout hpre
            have f2 : ρ (.tmp 2) = .slice (some ad) ss.length c := hout 2 (by kernel_rfl)
            exact OpDoes.value (v := .slice (some ad) ss.length c) (w' := W) (by simp [go_sem, f2]) ⟨rfl, Ext.refl _⟩
          case s3 =>
            intro ρ W hS hx hout hpre
            have f8 : ρ (.tmp 8) = .int .i64 i := hout 8 (by kernel_rfl)
            exact OpDoes.value (v := .int .i64 i) (w' := W) (by simp [go_sem, f8]) ⟨rfl, Ext.refl _⟩
          case s4 =>
            intro ρ W hS hx hout hpre
            have f29 : ρ (.tmp 29) = .slice (some ad) ss.length c := hpre 2 29 (by kernel_rfl)
            have f30 : ρ (.tmp 30) = .int .i64 i := hpre 3 30 (by kernel_rfl)
            exact OpDoes.value (v := .pointer (some (ad.add i))) (w' := W) (by simp [go_sem, f29, f30, i1, i2]) ⟨rfl, Ext.refl _⟩
          case s5 =>
            intro ρ W hS hx hout hpre
            have f31 : ρ (.tmp 31) = .pointer (some (ad.add i)) := hpre 4 31 (by kernel_rfl)
            exact OpDoes.value (v := .string s) (w' := W) (by simp [go_sem, f31, hclh W hx]) ⟨rfl, Ext.refl _⟩
          case s6 =>
            intro ρ W hS hx hout hpre
            have f2 : ρ (.tmp 2) = .slice (some ad) ss.length c := hout 2 (by kernel_rfl)
            exact OpDoes.value (v := .slice (some ad) ss.length c) (w' := W) (by simp [go_sem, f2]) ⟨rfl, Ext.refl _⟩
          case s7 =>
            intro ρ W hS hx hout hpre
            have f8 : ρ (.tmp 8) = .int .i64 i := hout 8 (by kernel_rfl)
            exact OpDoes.value (v := .int .i64 i) (w' := W) (by simp [go_sem, f8]) ⟨rfl, Ext.refl _⟩
          case s8 =>
            intro ρ W hS hx hout hpre
            have f33 : ρ (.tmp 33) = .slice (some ad) ss.length c := hpre 6 33 (by kernel_rfl)
            have f34 : ρ (.tmp 34) = .int .i64 i := hpre 7 34 (by kernel_rfl)
            exact OpDoes.value (v := .pointer (some (ad.add i))) (w' := W) (by simp [go_sem, f33, f34, i1, i2]) ⟨rfl, Ext.refl _⟩
          case s9 =>
            intro ρ W hS hx hout hpre
            have f35 : ρ (.tmp 35) = .pointer (some (ad.add i)) := hpre 8 35 (by kernel_rfl)
            exact OpDoes.value (v := .string s) (w' := W) (by simp [go_sem, f35, hclh W hx]) ⟨rfl, Ext.refl _⟩
          case s10 =>
            intro ρ W hS hx hout hpre
            have f36 : ρ (.tmp 36) = .string s := hpre 9 36 (by kernel_rfl)
            exact OpDoes.value (v := .int .i64 s.size) (w' := W) (by simp [go_sem, f36]) ⟨rfl, Ext.refl _⟩
          case s11 =>
            intro ρ W hS hx hout hpre
            have f37 : ρ (.tmp 37) = .int .i64 s.size := hpre 10 37 (by kernel_rfl)
            exact OpDoes.value (v := .int .i64 X) (w' := W) (by rcases hXz with ⟨rfl, h4a, h4⟩ | ⟨rfl, h4a, h4⟩ <;> simp [go_sem, hS.const, f37, h4]) ⟨rfl, Ext.refl _⟩
          case s12 =>
            intro ρ W hS hx hout hpre
            have f32 : ρ (.tmp 32) = .string s := hpre 5 32 (by kernel_rfl)
            have f38 : ρ (.tmp 38) = .int .i64 X := hpre 11 38 (by kernel_rfl)
            exact OpDoes.value (v := .string (s.extract 0 X)) (w' := W) (by rcases hXz with ⟨rfl, h4a, h4⟩ | ⟨rfl, h4a, h4⟩ <;> simp [go_sem, f32, f38, h4a]) ⟨rfl, Ext.refl _⟩
          case s13 =>
            intro ρ W hS hx hout hpre
            have f27 : ρ (.tmp 27) = .agg #[.int .i64 kk, .int .i64 ll, .slice A' items.length c'] := hpre 0 27 (by kernel_rfl)
            have f28 : ρ (.tmp 28) = .int .i64 i := hpre 1 28 (by kernel_rfl)
            have f39 : ρ (.tmp 39) = .string (s.extract 0 X) := hpre 12 39 (by kernel_rfl)
            refine OpDoes.call (f := 23) (args := #[.agg #[.int .i64 kk, .int .i64 ll, .slice A' items.length c'], .int .i64 i, .string (s.extract 0 X)]) (w' := W) (by simp [go_sem, hS.func, f27, f28, f39]) ?_
            refine (rput_any _ _ _ _ _ _ _ _ _ rfl ((At.of_own Hw.out).ext hx) HSm.out (own_cap Hw.out) (Nat.le_trans Hcz.out (by decide))).mono ?_
            rw [rput_eq]
            rintro e w2 ⟨A2, c2, rfl, hown2, hx2⟩
            exact ⟨_, rfl, ⟨A2, c2, rfl, own_mono hown2 (by have := hx.size; omega)⟩, hx2⟩
          case s14 =>
            intro ρ W hS hx hout hpre
            exact OpDoes.value (v := .pointer (some ⟨W.heap.size, 0, none⟩)) (w' := W.alloc (.cells #[.int .i64 0, .int .i64 0, .slice none 0 0, .int .i64 0] 49)) (by simp [go_sem]) ⟨⟨_, rfl, hx.size, Blk.new _ _ _⟩, (Ext.refl W).alloc _⟩
        case rgRest =>
          intro vs W hl hD hx
          match vs, hl with
          | [v27, v28, v29, v30, v31, v32, v33, v34, v35, v36, v37, v38, v39, v40, v9], _ =>
            obtain rfl : v27 = .agg #[.int .i64 kk, .int .i64 ll, .slice A' items.length c'] := hD 0 v27 rfl
            obtain rfl : v28 = .int .i64 i := hD 1 v28 rfl
            obtain rfl : v29 = .slice (some ad) ss.length c := hD 2 v29 rfl
            obtain rfl : v30 = .int .i64 i := hD 3 v30 rfl
            obtain rfl : v31 = .pointer (some (ad.add i)) := hD 4 v31 rfl
            obtain rfl : v32 = .string s := hD 5 v32 rfl
            obtain rfl : v33 = .slice (some ad) ss.length c := hD 6 v33 rfl
            obtain rfl : v34 = .int .i64 i := hD 7 v34 rfl
            obtain rfl : v35 = .pointer (some (ad.add i)) := hD 8 v35 rfl
            obtain rfl : v36 = .string s := hD 9 v36 rfl
            obtain rfl : v37 = .int .i64 s.size := hD 10 v37 rfl
            obtain rfl : v38 = .int .i64 X := hD 11 v38 rfl
            obtain rfl : v39 = .string (s.extract 0 X) := hD 12 v39 rfl
            have d40 : GotVal (putKind kk ll items i (s.extract 0 X)) (putLsn kk ll items i (s.extract 0 X)) (putItems kk ll items i (s.extract 0 X)) (putErr kk ll items i (s.extract 0 X)) (w.heap.size + 2) v40 W := hD 13 v40 rfl
            have d9 : ∃ B, v9 = .pointer (some ⟨B, 0, none⟩) ∧ wr.heap.size ≤ B ∧ Blk W B 49 #[.int .i64 0, .int .i64 0, .slice none 0 0, .int .i64 0] := hD 14 v9 rfl
            clear hD
            rw [show headDsts _ 15 = [27, 28, 29, 30, 31, 32, 33, 34, 35, 36, 37, 38, 39, 40, 9] by kernel_rfl]
            simp only [putAll, List.setIfInBounds_toArray, List.set_cons_succ, List.set_cons_zero, List.drop_succ_cons, List.drop_zero]
        -- END
            obtain ⟨A2, c2, rfl, hown2⟩ := d40
            obtain ⟨B, rfl, hB, hblk⟩ := d9
            have Hown2 := Lib.hid hown2
            have Hblk := Lib.hid hblk
            have HX := Lib.hid hx
            have q0 : W.cell? ⟨B, 0, none⟩ = some (.int .i64 0) := hblk.cell 0
            have q1 : W.cell? ⟨B, 1, none⟩ = some (.int .i64 0) := hblk.cell 1
            have q2 : W.cell? ⟨B, 2, none⟩ = some (.slice none 0 0) := hblk.cell 2
            have q3 : W.cell? ⟨B, 3, none⟩ = some (.int .i64 0) := hblk.cell 3
            have f0 := hblk.frozen 0
            have f1 := hblk.frozen 1
            have f2 := hblk.frozen 2
            have f3 := hblk.frozen 3
            clear hown2 hblk hx p0h p1h p2h hclh
            go_wp2_with fail
            go_meet
            exact GotAt.new3 Hown2.out HX.out Hblk.out hz7 hB
      case rest =>
        obtain ⟨B, A2, c2, rfl, hblk, hB, hown, hx⟩ := hcut
        have q0 : wc.cell? ⟨B, 0, none⟩ = some (.int .i64 (putKind kk ll items i (s.extract 0 X))) := hblk.cell 0
        have q1 : wc.cell? ⟨B, 1, none⟩ = some (.int .i64 (putLsn kk ll items i (s.extract 0 X))) := hblk.cell 1
        have q2 : wc.cell? ⟨B, 2, none⟩ = some (.slice A2 (putItems kk ll items i (s.extract 0 X)).length c2) := hblk.cell 2
        have q3 : wc.cell? ⟨B, 3, none⟩ = some (.int .i64 (putErr kk ll items i (s.extract 0 X))) := hblk.cell 3
        have Hb7' := Lib.hid (Hb7.out.ext hx)
        have r0 : wc.cell? ⟨w.heap.size + 1, 0, none⟩ = some (.int .i64 kk) := Hb7'.out.cell 0
        have r1 : wc.cell? ⟨w.heap.size + 1, 1, none⟩ = some (.int .i64 ll) := Hb7'.out.cell 1
        have r2 : wc.cell? ⟨w.heap.size + 1, 2, none⟩ = some (.slice A' items.length c') := Hb7'.out.cell 2
        have g0 := Hb7'.out.frozen 0
        have g1 := Hb7'.out.frozen 1
        have g2 := Hb7'.out.frozen 2
        have Hown := Lib.hid hown
        have XC := Lib.hid hx
        clear hown hx hblk p0h p1h p2h hclh
        by_cases hp : putErr kk ll items i (s.extract 0 X) = 0
        · have hpb : (putErr kk ll items i (s.extract 0 X) == 0) = true := by simpa using hp
          have HP := Lib.hid hp
          clear hp
          go_wp2
          go_roundw
          case rel =>
            have e1 : putKind kk ll items i (s.extract 0 X) = kk := by rw [putKind, if_pos HP.out]
            have e2 : putLsn kk ll items i (s.extract 0 X) = ll := by rw [putLsn, if_pos HP.out]
            have e3 : putItems kk ll items i (s.extract 0 X) = madeL kk ll ss (i + 1) := by rw [putItems, if_pos HP.out, Hm.out, if_pos HP.out, Int.toNat_natCast]
            have hown3 := Hown.out
            rw [e1, e2, e3]
            rw [e3] at hown3
            have hne := own_ne hown3 Hb7'.out (by decide)
            refine ⟨i + 1, A2, c2, by go_num, by omega, by omega, ((Hb7'.out.set_ 0 _).set_ 1 _).set_ 2 _, own_set (own_set (own_set hown3 hne 0 _) hne 1 _) hne 2 _, ?_, ?_, ?_⟩
            · have hb := Hb6.out.ext XC.out
              exact ((hb.far (by show w.heap.size ≠ w.heap.size + 1; omega) _).far (by show w.heap.size ≠ w.heap.size + 1; omega) _).far (by show w.heap.size ≠ w.heap.size + 1; omega) _
            · exact (((XR.out.trans XC.out).set (by simp) _).set (by simp) _).set (by simp) _
            · rw [Hm.out, if_pos HP.out]
              have := put_right HR.out HP.out
              rwa [Int.toNat_natCast] at this
          case measure => simp [intOf]; omega
        · have hpb : (putErr kk ll items i (s.extract 0 X) == 0) = false := by simpa using hp
          have HP := Lib.hid hp
          clear hp
          go_wp2
          go_roundw
          case rel =>
            have e3 : items = madeL kk ll ss (i + 1) := by rw [Hm.out, if_neg HP.out]
            have hown3 := own_ext Hw.out XC.out
            have hb7 := Hb7'.out
            have hr := HR.out
            rw [e3] at hown3 hb7 hr
            exact ⟨i + 1, A', c', by go_num, by omega, by omega, hb7, hown3, Hb6.out.ext XC.out, XR.out.trans XC.out, hr⟩
          case measure => simp [intOf]; omega
    · have q0 : wr.cell? ⟨w.heap.size, 0, none⟩ = some (.int .i64 0) := Hb6.out.cell 0
      have q1 : wr.cell? ⟨w.heap.size, 1, none⟩ = some (.int .i64 0) := Hb6.out.cell 1
      have q2 : wr.cell? ⟨w.heap.size, 2, none⟩ = some (.slice none 0 0) := Hb6.out.cell 2
      have f0 := Hb6.out.frozen 0
      have f1 := Hb6.out.frozen 1
      have f2 := Hb6.out.frozen 2
      have He := Lib.hid (show min ss.length 24 = i by omega)
      have hca : i < ss.length ∧ 24 ≤ (i : Int) ∨ ss.length ≤ i := by omega
      clear hgo
      rcases hca with ⟨hlt, h24⟩ | hge
      all_goals
        go_wp2
        refine bodyPost_ret (v := .agg #[.int .i64 kk, .int .i64 ll, .slice A' (madeL kk ll ss i).length c']) (by simp [results, Try.results39, go_sem, q0, q1, q2]) rfl ?_
        rw [← Hkk.out, ← Hll.out, He.out]
        refine ⟨A', c', rfl, own_mono (ownsRow_setCell_below (ownsRow_setCell_below (ownsRow_setCell_below Hw.out (by simp) _) (by simp) _) (by simp) _) (by omega), ?_⟩
        exact ((XR.out.set (by simp) _).set (by simp) _).set (by simp) _
end Go.Proofs.Ytkkldciofndedaa
