/- octet.Reader: Left, Failed, Take. -/
import Derived.Test.YtfjpglohcppjeaaDoorOct
import Derived.Deep.QuietTactic
import Derived.BigQuiet
namespace Go.Proofs.YtfjpglohcppjeaaDoor
open Go.RowKit
set_option linter.unusedVariables false
set_option linter.unusedSimpArgs false

/-- a reader: the string, the position, whether a call has failed -/
def Rd (t : TypeId) (w : World) (B : Nat) (s : ByteArray) (p : Nat) (f : Bool) : Prop := Blk w B t #[.string s, .int .i64 p, .bool f] ∧ p ≤ s.size ∧ s.size ≤ 1000000
theorem Rd.blk {t : TypeId} {w : World} {B : Nat} {s : ByteArray} {p : Nat} {f : Bool} (h : Rd t w B s p f) : Blk w B t #[.string s, .int .i64 p, .bool f] := h.1
def RdPost (t : TypeId) (v : Value) (B : Nat) (s : ByteArray) (p : Nat) (f : Bool) (w : World) (e : Ending) (w' : World) : Prop := e = .returned v ∧ Rd t w' B s p f ∧ Upd [B] w w'

set_option maxRecDepth 100000 in
set_option maxHeartbeats 1000000 in
theorem left_any (B : Nat) (s : ByteArray) (p : Nat) (f : Bool) (w : World) (h : Rd 154 w B s p f) :
    Calls Tryd.prog 125 #[.pointer (some ⟨B, 0, none⟩)] w (Ret1 (.int .i64 (s.size - p : Nat)) w) := by
  obtain ⟨hb, hp, hs⟩ := h
  have c0 : w.cell? ⟨B, 0, none⟩ = some (.string s) := hb.cell 0
  have c1 : w.cell? ⟨B, 1, none⟩ = some (.int .i64 p) := hb.cell 1
  have e1 := Lib.hid (show (s.size : Int) - (p : Int) = ((s.size - p : Nat) : Int) by omega)
  clear hb
  go_enter Tryd.func125, Tryd.ntmps125
  go_wp2
  go_quiet (fail)
  go_wp2
  go_ret
  exact Ret1.int e1.out ((Ext.refl w).drewN _)

set_option maxRecDepth 100000 in
set_option maxHeartbeats 1000000 in
theorem failed_any (B : Nat) (s : ByteArray) (p : Nat) (f : Bool) (w : World) (h : Rd 154 w B s p f) :
    Calls Tryd.prog 53 #[.pointer (some ⟨B, 0, none⟩)] w fun e w' => e = .returned (.bool f) ∧ w = w' := by
  obtain ⟨hb, hp, hs⟩ := h
  have c2 : w.cell? ⟨B, 2, none⟩ = some (.bool f) := hb.cell 2
  clear hb
  go_enter Tryd.func53, Tryd.ntmps53
  go_wp2
  go_ret
  exact ⟨rfl, rfl⟩

set_option maxRecDepth 100000 in
set_option maxHeartbeats 1000000 in
theorem take_ok (B : Nat) (s : ByteArray) (p n : Nat) (w : World) (h : Rd 154 w B s p false) (hn : p + n ≤ s.size) :
    Calls Tryd.prog 95 #[.pointer (some ⟨B, 0, none⟩), .int .i64 n] w (RdPost 154 (.string (s.extract p (p + n))) B s (p + n) false w) := by
  obtain ⟨hb, hp, hs⟩ := h
  have HB := Lib.hid hb
  have c0 : w.cell? ⟨B, 0, none⟩ = some (.string s) := hb.cell 0
  have c1 : w.cell? ⟨B, 1, none⟩ = some (.int .i64 p) := hb.cell 1
  have c2 : w.cell? ⟨B, 2, none⟩ = some (.bool false) := hb.cell 2
  clear hb
  go_enter Tryd.func95, Tryd.ntmps95
  go_wp2_with fail
  refine (left_any _ _ _ _ _ ⟨HB.out, hp, hs⟩).mono ?_
  rintro e w1 ⟨rfl, hx⟩
  have HB1 := Lib.hid (HB.out.ext hx)
  have X1 := Lib.hid hx
  clear hx c0 c1 c2
  have c0 : w1.cell? ⟨B, 0, none⟩ = some (.string s) := HB1.out.cell 0
  have c1 : w1.cell? ⟨B, 1, none⟩ = some (.int .i64 p) := HB1.out.cell 1
  have f1 := HB1.out.frozen 1
  have hlt := HB1.out.lt
  have hn1 : (n : Int) ≤ ((s.size - p : Nat) : Int) := by omega
  have e1 : (0 : Int) ≤ (p : Int) + (n : Int) := by omega
  have e2 : (p : Int) + (n : Int) ≤ (s.size : Int) := by omega
  have e3 : (p : Int) ≤ (p : Int) + (n : Int) := by omega
  go_wp2_with fail
  go_quiet (fail)
  go_wp2
  go_ret
  refine ⟨rfl, ⟨?_, hn, hs⟩, ((Upd.of_ext X1.out).set (.inl (by simp)) _).drewN _⟩
  rw [show ((p + n : Nat) : Int) = (p : Int) + (n : Int) by omega]
  exact (HB1.out.set_ 1 _).drewN _
set_option maxRecDepth 100000 in
set_option maxHeartbeats 1000000 in
theorem take_bad (B : Nat) (s : ByteArray) (p : Nat) (f : Bool) (n : Int) (w : World) (h : Rd 154 w B s p f) (hn : f = true ∨ n < 0 ∨ (s.size : Int) < p + n) :
    Calls Tryd.prog 95 #[.pointer (some ⟨B, 0, none⟩), .int .i64 n] w (RdPost 154 (.string ByteArray.empty) B s p true w) := by
  obtain ⟨hb, hp, hs⟩ := h
  have HB := Lib.hid hb
  have c2 : w.cell? ⟨B, 2, none⟩ = some (.bool f) := hb.cell 2
  have f2 := hb.frozen 2
  clear hb
  rcases f with _ | _
  · by_cases h0 : n < 0
    · go_enter Tryd.func95, Tryd.ntmps95
      go_wp2
      go_ret
      exact ⟨rfl, ⟨HB.out.set_ 2 _, hp, hs⟩, (Upd.refl _ _).set (.inl (by simp)) _⟩
    · have h1 : (s.size : Int) < p + n := by simpa [h0] using hn
      have h0' : 0 ≤ n := by omega
      have h2 : ((s.size - p : Nat) : Int) < n := by omega
      clear hn h1 h0
      go_enter Tryd.func95, Tryd.ntmps95
      go_wp2_with fail
      refine (left_any _ _ _ _ _ ⟨HB.out, hp, hs⟩).mono ?_
      rintro e w1 ⟨rfl, hx⟩
      have HB1 := Lib.hid (HB.out.ext hx)
      have X1 := Lib.hid hx
      clear hx c2 f2
      have c2 : w1.cell? ⟨B, 2, none⟩ = some (.bool false) := HB1.out.cell 2
      have f2 := HB1.out.frozen 2
      go_wp2
      go_ret
      exact ⟨rfl, ⟨HB1.out.set_ 2 _, hp, hs⟩, (Upd.of_ext X1.out).set (.inl (by simp)) _⟩
  · clear hn
    go_enter Tryd.func95, Tryd.ntmps95
    go_wp2
    go_ret
    exact ⟨rfl, ⟨HB.out.set_ 2 _, hp, hs⟩, (Upd.refl _ _).set (.inl (by simp)) _⟩

def numL (l : List UInt8) : Nat := l.foldl (fun n c => n * 256 + c.toNat) 0
theorem numL_snoc (l : List UInt8) (c : UInt8) : numL (l ++ [c]) = numL l * 256 + c.toNat := by rw [numL, List.foldl_append]; rfl
theorem numL_lt (l : List UInt8) : numL l < 256 ^ l.length := by
  have h : ∀ (l : List UInt8) (n : Nat), l.foldl (fun n c => n * 256 + c.toNat) n < (n + 1) * 256 ^ l.length := by
    intro l
    induction l with
    | nil => intro n; simp
    | cons c l ih =>
      intro n
      have h1 := ih (n * 256 + c.toNat)
      have h2 : c.toNat < 256 := UInt8.toNat_lt _
      have h3 : (n * 256 + c.toNat + 1) * 256 ^ l.length ≤ ((n + 1) * 256) * 256 ^ l.length := Nat.mul_le_mul_right _ (by omega)
      rw [List.foldl_cons, List.length_cons, Nat.pow_succ, Nat.mul_comm (256 ^ l.length) 256, ← Nat.mul_assoc]
      omega
  have := h l 0
  simpa [numL] using this
def byteVals (s : ByteArray) : List Value := s.data.toList.map fun b => Value.int .u8 b.toNat
/-- []byte(s) -/
theorem conv_sb (s : ByteArray) (w : World) : ∃ cap w', (convert 9 42 (.string s)).run Tryd.prog w = .ok (.slice (some ⟨w.heap.size, 0, none⟩) s.size cap) w' ∧ Ext w w' ∧ At w' (some ⟨w.heap.size, 0, none⟩) (byteVals s) ∧ s.size ≤ cap := by
  have hcut : s.size ≤ grownCap w s.size 0 5 := grownCap_ge w s.size 0 5
  refine ⟨_, _, run_bytes_of_string w 9 42 5 s Tryd.underlying9 Tryd.underlying42 Tryd.underlying5, (Ext.refl w).drew.alloc _, ?_, hcut⟩
  intro j u hj
  have hjl : j < s.data.toList.length := by
    rcases Nat.lt_or_ge j s.data.toList.length with h | h
    · exact h
    · rw [byteVals, List.getElem?_eq_none (by simpa using h)] at hj; cases hj
  refine ⟨_, rfl, by simp, ?_⟩
  have hh := heap_alloc_new w.drew (.cells (bytesRow s (grownCap w s.size 0 5)) 5 ((bytesRow s (grownCap w s.size 0 5)).size, (bytesRow s (grownCap w s.size 0 5)).size + 1))
  have hh' : (w.drew.alloc (.cells (bytesRow s (grownCap w s.size 0 5)) 5 ((bytesRow s (grownCap w s.size 0 5)).size, (bytesRow s (grownCap w s.size 0 5)).size + 1))).heap[w.heap.size]? = _ := hh
  rw [Addr.add_lit, Nat.zero_add]
  unfold World.cell?
  rw [hh']
  show (bytesRow s (grownCap w s.size 0 5))[j]? = some u
  rw [bytesRow, Array.getElem?_append_left (by simpa using hjl), ← hj, byteVals]
  simp
theorem or_i64 (a b : Nat) (ha : a < 4611686018427387904) (hb : b < 4611686018427387904) : bits .or .i64 (a : Int) (b : Int) = ((a ||| b : Nat) : Int) := by
  have e : bits .or .i64 (a : Int) (b : Int) = IntKind.i64.wrap ((BitVec.ofInt 64 (a : Int) ||| BitVec.ofInt 64 (b : Int)).toNat : Int) := rfl
  have h1 : ∀ n : Nat, n < 4611686018427387904 → (BitVec.ofInt 64 (n : Int)).toNat = n := fun n hn => by
    rw [BitVec.ofInt_natCast, BitVec.toNat_ofNat, Nat.mod_eq_of_lt (by omega)]
  have h2 : a ||| b < 2 ^ 62 := Nat.or_lt_two_pow (by omega) (by omega)
  rw [e, BitVec.toNat_or, h1 a ha, h1 b hb, IntKind.wrap_i64]
  omega
theorem or_256 (a c : Nat) (hc : c < 256) : a * 256 ||| c = a * 256 + c := by
  have := Nat.two_pow_add_eq_or_of_lt (i := 8) (b := c) (by omega) a
  rw [Nat.mul_comm a 256]
  exact this.symm
def numS (s : ByteArray) (p k : Nat) : Nat := numL (s.extract p (p + k)).data.toList
set_option maxRecDepth 100000 in
set_option maxHeartbeats 1000000 in
theorem num_ok (B : Nat) (s : ByteArray) (p k : Nat) (w : World) (h : Rd 154 w B s p false) (hk : k ≤ 4) (hn : p + k ≤ s.size) :
    Calls Tryd.prog 51 #[.pointer (some ⟨B, 0, none⟩), .int .i64 k] w (RdPost 154 (.int .i64 (numS s p k)) B s (p + k) false w) := by
  have H := Lib.hid h; clear h
  have hsk := Lib.hid (show sizeF k = k by unfold sizeF; omega)
  go_enter Tryd.func51, Tryd.ntmps51
  go_wp2_with fail
  refine (osize_any _ _).mono ?_
  rw [hsk.out]
  rintro e w1 ⟨rfl, rfl⟩
  go_wp2_with fail
  refine (take_ok _ _ _ _ _ H.out hn).mono ?_
  rintro e w1 ⟨rfl, hr, hu⟩
  obtain ⟨t, ht⟩ : ∃ t, t = s.extract p (p + k) := ⟨_, rfl⟩
  rw [← ht]
  have htk : t.size = k := by rw [ht, ByteArray.size_extract]; omega
  have HT := Lib.hid (show numS s p k = numL t.data.toList by rw [numS, ← ht])
  have HK := Lib.hid htk
  have HR := Lib.hid hr
  have HU := Lib.hid hu
  have hts : (t.size : Int) ≤ 4 := by omega
  clear hr hu ht htk
  obtain ⟨cap, w2, hcv, hx, hAt, hcap⟩ := conv_sb t w1
  have X2 := Lib.hid hx
  have HA := Lib.hid hAt
  clear hx hAt
  go_wp2
  go_loop [5, 14] (fun x v => ∃ j : Nat, v = .int .i64 j ∧ j ≤ t.size ∧ x = .int .i64 (numL (t.data.toList.take j))) (fun _ v => t.size - (intOf v).toNat)
  case atStart => exact ⟨0, rfl, Nat.zero_le _, rfl⟩
  case round =>
    obtain ⟨j, rfl, hj, rfl⟩ := hrel
    rcases Nat.lt_or_ge j t.size with hlt | hge
    · have hb := numL_lt (t.data.toList.take j)
      have hlen : (t.data.toList.take j).length = j := by simp; omega
      have h256 : 256 ^ (t.data.toList.take j).length ≤ 16777216 := by
        rw [hlen]
        exact Nat.le_trans (Nat.pow_le_pow_right (by omega) (show j ≤ 3 by omega)) (by decide)
      have hsn : t.data.toList.take (j + 1) = t.data.toList.take j ++ [t[j]] := by rw [List.take_succ_eq_append_getElem (by simpa using hlt)]; rfl
      have HN := Lib.hid (show numL (t.data.toList.take (j + 1)) = numL (t.data.toList.take j) * 256 + t[j].toNat by rw [hsn, numL_snoc])
      have hcell : w2.cell? ⟨w1.heap.size, j, none⟩ = some (.int .u8 t[j].toNat) := by
        obtain ⟨ad, e, _, hc⟩ := HA.out j _ (by rw [byteVals, List.getElem?_map, List.getElem?_eq_getElem (by simpa using hlt)]; rfl)
        injection e with e
        subst e
        rwa [Addr.add_lit, Nat.zero_add] at hc
      obtain ⟨a, ha⟩ : ∃ a, a = numL (t.data.toList.take j) := ⟨_, rfl⟩
      obtain ⟨c, hc⟩ : ∃ c, c = t[j].toNat := ⟨_, rfl⟩
      have hc8 : c < 256 := by rw [hc]; exact UInt8.toNat_lt _
      rw [← ha] at hb HN ⊢
      rw [← hc] at HN hcell
      have ha1 : (a : Int) ≤ 16777216 := by omega
      have i1 : (0 : Int) ≤ (j : Int) := by omega
      have i2 : (j : Int) < (t.size : Int) := by omega
      have HO := Lib.hid (show bits .or .i64 ((a : Int) * 256) (c : Int) = ((a * 256 + c : Nat) : Int) by
        rw [show ((a : Int) * 256) = ((a * 256 : Nat) : Int) by omega, or_i64 _ _ (by omega) (by omega), or_256 a c hc8])
      clear hsn hlen h256 hb ha hc
      go_wp2
      go_round
      case rel => exact ⟨j + 1, by go_num, by omega, by rw [HN.out, HO.out]⟩
      case measure => simp [intOf]; omega
    · obtain rfl : j = t.size := by omega
      have e : t.data.toList.take t.size = t.data.toList := List.take_of_length_le (by simp)
      rw [e]
      clear e
      go_wp2
      go_ret
      refine ⟨?_, ⟨HR.out.1.ext X2.out, HR.out.2.1, HR.out.2.2⟩, HU.out.ext X2.out⟩
      rw [HT.out]
      rfl

set_option maxRecDepth 100000 in
set_option maxHeartbeats 1000000 in
theorem num_bad (B : Nat) (s : ByteArray) (p k : Nat) (f : Bool) (w : World) (h : Rd 154 w B s p f) (hk : k ≤ 4) (hn : f = true ∨ s.size < p + k) :
    Calls Tryd.prog 51 #[.pointer (some ⟨B, 0, none⟩), .int .i64 k] w (RdPost 154 (.int .i64 0) B s p true w) := by
  have H := Lib.hid h; clear h
  have hsk := Lib.hid (show sizeF k = k by unfold sizeF; omega)
  have HN := Lib.hid (show f = true ∨ ((k : Nat) : Int) < 0 ∨ (s.size : Int) < p + (k : Nat) by
    rcases hn with h | h
    · exact .inl h
    · exact .inr (.inr (by omega)))
  clear hn
  go_enter Tryd.func51, Tryd.ntmps51
  go_wp2_with fail
  refine (osize_any _ _).mono ?_
  rw [hsk.out]
  rintro e w1 ⟨rfl, rfl⟩
  go_wp2_with fail
  refine (take_bad _ _ _ _ _ _ H.out HN.out).mono ?_
  rintro e w1 ⟨rfl, hr, hu⟩
  obtain ⟨cap, w2, hcv, hx, hAt, hcap⟩ := conv_sb ByteArray.empty w1
  have HR := Lib.hid hr
  have HU := Lib.hid hu
  have X2 := Lib.hid hx
  have hz : (ByteArray.empty).size = 0 := rfl
  clear hr hu hx hAt hcap
  go_wp2
  go_loop [5, 14] (fun x v => x = .int .i64 0 ∧ v = .int .i64 0) (fun _ _ => 0)
  case atStart => exact ⟨rfl, rfl⟩
  case round =>
    obtain ⟨rfl, rfl⟩ := hrel
    go_wp2
    go_ret
    exact ⟨rfl, ⟨HR.out.1.ext X2.out, HR.out.2.1, HR.out.2.2⟩, HU.out.ext X2.out⟩

def textS (s : ByteArray) (p : Nat) : ByteArray := s.extract (p + 2) (p + 2 + numS s p 2)
theorem Rd.cells {t : TypeId} {w : World} {B : Nat} {s : ByteArray} {p : Nat} {f : Bool} (h : Rd t w B s p f) :
    w.cell? ⟨B, 0, none⟩ = some (.string s) ∧ w.cell? ⟨B, 1, none⟩ = some (.int .i64 p) ∧ w.cell? ⟨B, 2, none⟩ = some (.bool f) ∧ w.frozen? ⟨B, 1, none⟩ = false ∧ w.frozen? ⟨B, 2, none⟩ = false :=
  ⟨h.1.cell 0, h.1.cell 1, h.1.cell 2, h.1.frozen 1, h.1.frozen 2⟩

set_option maxRecDepth 100000 in
set_option maxHeartbeats 1000000 in
theorem text_ok (B : Nat) (s : ByteArray) (p : Nat) (w : World) (h : Rd 154 w B s p false) (h2 : p + 2 ≤ s.size) (hn : p + 2 + numS s p 2 ≤ s.size) :
    Calls Tryd.prog 52 #[.pointer (some ⟨B, 0, none⟩)] w (RdPost 154 (.string (textS s p)) B s (p + 2 + numS s p 2) false w) := by
  have H := Lib.hid h
  obtain ⟨c0, c1, c2, _, _⟩ := h.cells
  clear h
  go_enter Tryd.func52, Tryd.ntmps52
  go_wp2_with fail
  refine (num_ok _ _ _ 2 _ H.out (by omega) h2).mono ?_
  rintro e w1 ⟨rfl, hr, hu⟩
  have HR1 := Lib.hid hr
  have HU1 := Lib.hid hu
  clear hr hu c0 c1 c2
  go_wp2_with fail
  refine (take_ok _ _ _ _ _ HR1.out hn).mono ?_
  rintro e w2 ⟨rfl, hr, hu⟩
  have HR2 := Lib.hid hr
  have HU2 := Lib.hid (HU1.out.trans hu)
  obtain ⟨c0, c1, c2, _, _⟩ := hr.cells
  clear hr hu
  have HT := Lib.hid (show textS s p = s.extract (p + 2) (p + 2 + numS s p 2) from rfl)
  obtain ⟨x, hx⟩ : ∃ x, x = s.extract (p + 2) (p + 2 + numS s p 2) := ⟨_, rfl⟩
  rw [← hx] at HT ⊢
  clear hx
  go_wp2
  go_ret
  exact ⟨by rw [HT.out]; rfl, HR2.out, HU2.out⟩

set_option maxRecDepth 100000 in
set_option maxHeartbeats 1000000 in
theorem text_bad (B : Nat) (s : ByteArray) (p : Nat) (f : Bool) (w : World) (h : Rd 154 w B s p f) (hn : f = true ∨ s.size < p + 2 ∨ s.size < p + 2 + numS s p 2) :
    Calls Tryd.prog 52 #[.pointer (some ⟨B, 0, none⟩)] w (RdPost 154 (.string ByteArray.empty) B s p true w) := by
  have H := Lib.hid h
  obtain ⟨c0, c1, c2, _, _⟩ := h.cells
  have hps := h.2
  clear h
  by_cases h1 : f = true ∨ s.size < p + 2
  · have HN := Lib.hid h1
    clear hn h1
    go_enter Tryd.func52, Tryd.ntmps52
    go_wp2_with fail
    refine (num_bad _ _ _ 2 _ _ H.out (by omega) HN.out).mono ?_
    rintro e w1 ⟨rfl, hr, hu⟩
    have HR1 := Lib.hid hr
    have HU1 := Lib.hid hu
    clear hr hu c0 c1 c2
    go_wp2_with fail
    refine (take_bad _ _ _ _ _ _ HR1.out (.inl rfl)).mono ?_
    rintro e w2 ⟨rfl, hr, hu⟩
    have HR2 := Lib.hid hr
    have HU2 := Lib.hid (HU1.out.trans hu)
    obtain ⟨c0, c1, c2, z1, _⟩ := hr.cells
    clear hr hu
    go_wp2
    go_ret
    exact ⟨rfl, ⟨HR2.out.1.set_ 1 _, hps⟩, HU2.out.set (.inl (by simp)) _⟩
  · have hf : f = false := by
      cases f with
      | true => exact absurd (.inl rfl) h1
      | false => rfl
    subst hf
    have h2 : p + 2 ≤ s.size := by omega
    have h3 : s.size < p + 2 + numS s p 2 := by
      rcases hn with h | h | h
      · cases h
      · omega
      · exact h
    clear hn h1
    go_enter Tryd.func52, Tryd.ntmps52
    go_wp2_with fail
    refine (num_ok _ _ _ 2 _ H.out (by omega) h2).mono ?_
    rintro e w1 ⟨rfl, hr, hu⟩
    have HR1 := Lib.hid hr
    have HU1 := Lib.hid hu
    clear hr hu c0 c1 c2
    go_wp2_with fail
    refine (take_bad _ _ _ _ _ _ HR1.out (.inr (.inr (by omega)))).mono ?_
    rintro e w2 ⟨rfl, hr, hu⟩
    have HR2 := Lib.hid hr
    have HU2 := Lib.hid (HU1.out.trans hu)
    obtain ⟨c0, c1, c2, z1, _⟩ := hr.cells
    clear hr hu
    go_wp2
    go_ret
    exact ⟨rfl, ⟨HR2.out.1.set_ 1 _, hps⟩, HU2.out.set (.inl (by simp)) _⟩
end Go.Proofs.YtfjpglohcppjeaaDoor
