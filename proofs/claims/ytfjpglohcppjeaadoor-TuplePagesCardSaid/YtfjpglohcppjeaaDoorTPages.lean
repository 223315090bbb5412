/- TuplePages: tuples put side by side on a page, the page's bytes read back. -/
import Derived.Test.YtfjpglohcppjeaaDoorVo
import Derived.Test.YtfjpglohcppjeaaDoorT5
import Derived.Test.YtfjpglohcppjeaaDoorPgRd
import Derived.Test.YtfjpglohcppjeaaDoorPgPl
import Derived.Test.YtfjpglohcppjeaaDoorTBytes
namespace Go.Proofs.YtfjpglohcppjeaaDoor
open Go.RowKit
set_option linter.unusedVariables false
set_option linter.unusedSimpArgs false

/-- all of R as one entry -/
def eM (R : List Ent) : Ent := ⟨R.flatMap (·.fp), fun W => ∀ e ∈ R, e.holds W ∧ e.loc⟩
theorem eM_loc (R : List Ent) : (eM R).loc := fun W W' hk h e he =>
  ⟨(h e he).2 W W' (fun k hk' => hk k (List.mem_flatMap.2 ⟨e, he, hk'⟩)) (h e he).1, (h e he).2⟩
theorem St.emNil {w0 W : World} {bor : List Nat} {L : List Ent} (h : St w0 bor L W) : St w0 bor (L ++ [eM []]) W := by
  refine ⟨h.upd, fun x hx => ?_, ?_⟩
  · rcases List.mem_append.1 hx with hx | hx
    · exact h.ok x hx
    · rw [List.mem_singleton] at hx
      subst hx
      exact ⟨fun e he => (by cases he), eM_loc _, fun k hk => (by cases hk)⟩
  · rw [List.pairwise_append]
    refine ⟨h.apart, List.pairwise_singleton _ _, fun a _ b hb => ?_⟩
    rw [List.mem_singleton] at hb
    subst hb
    exact fun k _ hk => by cases hk
/-- the last entry joins the many -/
theorem St.merge {w0 W : World} {bor : List Nat} {L R : List Ent} {e : Ent} (h : St w0 bor (L ++ [eM R, e]) W) : St w0 bor (L ++ [eM (R ++ [e])]) W := by
  have hM := h.ok (eM R) (by simp)
  have hE := h.ok e (by simp)
  have hfp : ∀ k, k ∈ (eM (R ++ [e])).fp ↔ k ∈ (eM R).fp ∨ k ∈ e.fp := fun k => by simp [eM]
  refine ⟨h.upd, fun x hx => ?_, ?_⟩
  · rcases List.mem_append.1 hx with hx | hx
    · exact h.ok x (by simp [hx])
    · rw [List.mem_singleton] at hx
      subst hx
      refine ⟨fun x hx => ?_, eM_loc _, fun k hk => ?_⟩
      · rcases List.mem_append.1 hx with hx | hx
        · exact hM.holds x hx
        · rw [List.mem_singleton] at hx
          subst hx
          exact ⟨hE.holds, hE.loc⟩
      · rcases (hfp k).1 hk with hk | hk
        · exact hM.own k hk
        · exact hE.own k hk
  · have ha := h.apart
    rw [List.pairwise_append] at ha ⊢
    refine ⟨ha.1, List.pairwise_singleton _ _, fun a ha' b hb => ?_⟩
    rw [List.mem_singleton] at hb
    subst hb
    intro k hk hkb
    rcases (hfp k).1 hkb with hkb | hkb
    · exact ha.2.2 a ha' (eM R) (by simp) k hk hkb
    · exact ha.2.2 a ha' e (by simp) k hk hkb
/-- a ver that is kept: the list it was made of, its row's address and room -/
abbrev KV := List Int × Option Addr × Nat
def kv0 : KV := ([], none, 0)
def cellsK (k : KV) : List Value := [.int .i64 (vminF k.1), .int .i64 (vmaxF k.1), .int .i64 (vpgF k.1), .int .i64 (vslF k.1), .bool (vhotF k.1), .slice k.2.1 (vrowF k.1).length k.2.2]
theorem cellsK_len (k : KV) : (cellsK k).length = 6 := rfl
def entK (k : KV) : Ent := eO 103 3 (.slice k.2.1 (vrowF k.1).length k.2.2) (vrowF k.1).length (flatR (vrowF k.1))
def eK (ks : List KV) : Ent := eM (ks.map entK)
theorem St.mergeK {w0 W : World} {bor : List Nat} {L : List Ent} {ks : List KV} {l : List Int} {A : Option Addr} {c : Nat} (h : St w0 bor (L ++ [eK ks, eO 103 3 (.slice A (vrowF l).length c) (vrowF l).length (flatR (vrowF l))]) W) : St w0 bor (L ++ [eK (ks ++ [(l, A, c)])]) W := by
  have h2 := h.merge
  have e : ks.map entK ++ [eO 103 3 (.slice A (vrowF l).length c) (vrowF l).length (flatR (vrowF l))] = (ks ++ [(l, A, c)]).map entK := by simp [entK]
  rw [e] at h2
  exact h2
theorem St.kept {W : World} {ks : List KV} {m : Nat} (h : (eK ks).holds W) (hm : m < ks.length) : W.ownsRow 0 103 3 (.slice (ks.getD m kv0).2.1 (vrowF (ks.getD m kv0).1).length (ks.getD m kv0).2.2) (vrowF (ks.getD m kv0).1).length (flatR (vrowF (ks.getD m kv0).1)) := by
  have h2 := (h (entK (ks.getD m kv0)) (List.mem_map.2 ⟨ks.getD m kv0, by simp [hm], rfl⟩)).1
  exact h2

theorem Tryd.infoVerP : (Tryd.prog.info? 27).map (fun i => (i.zero, i.size, i.bytes)) = some (some (.agg #[.int .i64 0, .int .i64 0, .int .i64 0, .int .i64 0, .bool false, .slice none 0 0]), 6, 64) := by kernel_rfl
theorem kept_snoc (ks : List KV) (k : KV) : ks.flatMap cellsK ++ cellsK k = (ks ++ [k]).flatMap cellsK := by simp
def slV (k : KV) : Value := .slice k.2.1 k.1.length k.2.2
theorem getD_slV {ls : List KV} {m : Nat} (h : m < ls.length) : (ls.map slV)[m]? = some (.slice (ls.getD m kv0).2.1 (ls.getD m kv0).1.length (ls.getD m kv0).2.2) := by simp [h, slV]
def tbK (k : KV) : ByteArray := tbytesF (vminF k.1) (vmaxF k.1) (vpgF k.1) (vslF k.1) (vhotF k.1) (vrowF k.1)
def vsK (ls : List KV) (i : Nat) : ByteArray := tbK (ls.getD i kv0)
theorem tbK_size (k : KV) : (tbK k).size ≤ 309 ∧ 8 ≤ (tbK k).size := by
  rw [tbK, tb_size (made_right k.1)]
  have := vbytes_size (vrowF k.1)
  omega
theorem bad_pos {F j : Nat} {vs : Nat → ByteArray} (hF : F < 10) (hs : (vs 0).size ≤ 309) (h : putErr 1 0 (pgI F vs j) ((F : Int) + (j : Int)) (vs j) ≠ 0) : 0 < j := by
  rcases Nat.eq_zero_or_pos j with e | e
  · subst e
    exact absurd (pg_first hF (by omega)) h
  · exact e
theorem kl_snoc {ls ks : List KV} {j : Nat} (h : j < ls.length) (hk : ks.map Prod.fst = (ls.take j).map Prod.fst) (A : Option Addr) (c : Nat) : (ks ++ [((ls.getD j kv0).1, A, c)]).map Prod.fst = (ls.take (j + 1)).map Prod.fst := by
  rw [List.map_append, hk, List.take_add_one, List.map_append]
  simp [h]
theorem ok_snoc {F j : Nat} {vs : Nat → ByteArray} (h : ∀ i, i < j → putErr 1 0 (pgI F vs i) ((F + i : Nat) : Int) (vs i) = 0) (h2 : putErr 1 0 (pgI F vs j) ((F : Int) + (j : Int)) (vs j) = 0) : ∀ i, i < j + 1 → putErr 1 0 (pgI F vs i) ((F + i : Nat) : Int) (vs i) = 0 := fun i hi => by
  rcases Nat.lt_or_ge i j with g | g
  · exact h i g
  · have e : i = j := by omega
    subst e; exact h2
theorem kept_fst {ls ks : List KV} {j m : Nat} (hj : j ≤ ls.length) (hl : ks.length = j) (hk : ks.map Prod.fst = (ls.take j).map Prod.fst) (hm : m < j) : (ks.getD m kv0).1 = (ls.getD m kv0).1 := by
  have h := congrArg (fun l : List (List Int) => l[m]?) hk
  simp only [List.getElem?_map, List.getElem?_take, hm, if_true] at h
  rw [List.getElem?_eq_getElem (by omega), List.getElem?_eq_getElem (by omega)] at h
  simp only [Option.map_some, Option.some.injEq] at h
  rw [List.getD_eq_getElem?_getD, List.getD_eq_getElem?_getD, List.getElem?_eq_getElem (by omega), List.getElem?_eq_getElem (by omega)]
  exact h
theorem sameV_kept {a b : List Int} (h : b = a) : sameV (vminF a) (vmaxF a) (vpgF a) (vslF a) (vhotF a) (vrowF a) (vminF b) (vmaxF b) (vpgF b) (vslF b) (vhotF b) (vrowF b) = true := by subst h; exact sameV_self'
theorem vrow_le (l : List Int) : (vrowF l).length ≤ 3 := by rw [vrowF, madeR_len]; omega
theorem CtxV.hold {ops : Array Oper} {L : List Nat} {a0 : Act} {w0 : World} {bor : List Nat} {X0 : List Ent} {us : List (List Nat)} {D : Nat → (Tmp → Value) → (Tmp → Value) → (Nat → Ent) → Prop} {i : Nat} {ρ : Operand → Value} {β : Tmp → Value} {W : World} {X : Nat → Ent} {q : Nat} {E : Ent} (cx : CtxV ops L a0 w0 bor X0 us D i ρ β W X) (hX : X q = E) (hu : (atV us i).contains q = true) : E.holds W := by
  have h := (cx.ok q hu).holds
  rw [hX] at h; exact h
theorem pg_bytes_ok {F n : Nat} {vs : Nat → ByteArray} {A : Option Addr} {c : Nat} {w : World} (hA : At w A ((pgI F vs n).map Value.string)) (hok : ∀ i, i < n → putErr 1 0 (pgI F vs i) ((F + i : Nat) : Int) (vs i) = 0) :
    Calls Tryd.prog 47 #[.agg #[.int .i64 1, .int .i64 0, .slice A (pgI F vs n).length c]] w (Ret (.tuple #[.string (bytesF 1 0 (pgI F vs n)), .int .i64 0]) w) := by
  have hr := pg_right hok
  have h := pgbytes_any 1 0 A c _ w hA (right_small hr)
  rw [show BytesPost 1 0 (pgI F vs n) w = Ret (.tuple #[.string (bytesF 1 0 (plainL (pgI F vs n))), .int .i64 0]) w from by unfold BytesPost; rw [if_pos hr], pg_plain] at h
  exact h
theorem pg_read_ok {F n : Nat} {vs : Nat → ByteArray} {w : World} (hok : ∀ i, i < n → putErr 1 0 (pgI F vs i) ((F + i : Nat) : Int) (vs i) = 0) :
    Calls Tryd.prog 48 #[.string (bytesF 1 0 (pgI F vs n))] w (PgPost 1 0 (pgI F vs n) 0 w) := by
  have h := pgread_any 1 0 (pgI F vs n) w (pg_right hok)
  rw [pg_plain] at h
  exact h
theorem tread_at {F j m : Nat} {ls : List KV} (hm : m < j) (w : World) (hN : NoneAt w) : Calls Tryd.prog 15 #[.string ((pgI F (vsK ls) j).getD (F + m) ByteArray.empty)] w (VerRd (vminF (ls.getD m kv0).1) (vmaxF (ls.getD m kv0).1) (vpgF (ls.getD m kv0).1) (vslF (ls.getD m kv0).1) (vhotF (ls.getD m kv0).1) (vrowF (ls.getD m kv0).1) 0 w) := by
  rw [pg_getD hm]
  exact tread_made _ w hN
theorem put_ok {k l : Int} {A : Option Addr} {c : Nat} {ss : List ByteArray} {slot : Int} {s : ByteArray} {w : World} (hA : At w A (ss.map Value.string)) (hS : Small ss) (hss : s.size ≤ 9223372036854775807) (h : putErr k l ss slot s = 0) :
    Calls Tryd.prog 46 #[.agg #[.int .i64 k, .int .i64 l, .slice A ss.length c], .int .i64 slot, .string s] w (PgPost k l (putL ss slot.toNat s) 0 w) := by
  have h2 := pgput_any k l A c ss slot s w hA hS hss
  rw [show PutPost k l ss slot s w = PgPost k l (plainL (withL ss slot.toNat s)) 0 w from by funext e w'; rw [PutPost, if_pos h]] at h2
  exact h2
theorem put_bad {k l : Int} {A : Option Addr} {c : Nat} {ss : List ByteArray} {slot : Int} {s : ByteArray} {w : World} (hA : At w A (ss.map Value.string)) (hS : Small ss) (hss : s.size ≤ 9223372036854775807) (h : putErr k l ss slot s ≠ 0) :
    Calls Tryd.prog 46 #[.agg #[.int .i64 k, .int .i64 l, .slice A ss.length c], .int .i64 slot, .string s] w (PgPost 0 0 [] (putErr k l ss slot s) w) := by
  have h2 := pgput_any k l A c ss slot s w hA hS hss
  rw [show PutPost k l ss slot s w = PgPost 0 0 [] (putErr k l ss slot s) w from by funext e w'; rw [PutPost, if_neg h]] at h2
  exact h2
set_option maxRecDepth 100000 in
set_option maxHeartbeats 16000000 in
theorem tuplepages_any (LA : Option Addr) (lc : Nat) (ls : List KV) (x : Int) (w : World) (hL : At w LA (ls.map slV)) (hI : ∀ k ∈ ls, At w k.2.1 (k.1.map (Value.int .i64)) ∧ k.1.length ≤ 100000000000000) (hll : ls.length ≤ 100000000000000) (hN : NoneAt w) :
    Calls Tryd.prog 11 #[.slice LA ls.length lc, .int .i64 x] w (Ret (.bool true) w) := by
  go_enter Tryd.func11, Tryd.ntmps11
  have hst0 := St.start w
  refine wp_seq ?_
  refine wp_region_P [0] [.k 4 (.bool false)] [(4, 0, 1, 5)] hst0 fun W1 hst1 => ?_
  refine then_normal ?_
  refine wp_seq ?_
  refine wp_region_T [0, 1] [] [] [] [.c 20 (.bool true), .k 5 (.bool true)] (fun _ _ _ _ => True) [] [0] [(5, 1, 1, 6), (14, 0, 1, 15)] hst1 ?_ ?_ ?_
  · exact fun _ _ _ _ _ _ _ _ _ _ h => h
  · refine ⟨?_, trivial⟩
    · exact sv_call rfl rfl rfl rfl rfl (fun _ _ _ h => h) fun ρ β W X cx => ⟨_, _, run_callF (args := #[]) rfl cx.sees rfl (by kernel_rfl) map0, sanity_any _ (hN.ext cx.upd.to_ext)⟩
  intro σ β X W2 hD hX hst2 fr hfr
  simp only [zM] at hst2
  dsimp only [mgT, vals, List.take, List.drop, List.cons_append, List.nil_append] at hfr
  clear hX hD; subst hfr; clear σ β X
  refine then_normal ?_
  refine wp_seq ?_
  refine wp_region_T [0, 0, 3] [[], [], [0]] [[], [0], [1]] [[], [], [0]] [.c 21 (.agg #[.int .i64 1, .int .i64 0, .slice none 0 0]), .a 6, .n] (fun ix σ β X => match ix with | 0 => True | 1 => σ 6 = .pointer (some ⟨(pb (β 6)), 0, none⟩) ∧ X 0 = eB (pb (β 6)) 94 #[.int .i64 0, .int .i64 0, .slice none 0 0] | 2 => X 1 = eB (pb (β 6)) 94 #[.int .i64 1, .int .i64 0, .slice none 0 0] | _ => True) [1] [0, 1, 2] [(6, 1, 1, 7), (14, 0, 1, 15)] hst2 ?_ ?_ ?_
  · exact fun ix _ _ _ _ _ _ hs hb hx h => match ix, h with
    | 1, h => by dsimp only at h ⊢; rw [← hs 6 rfl, ← hb 6 rfl, ← hx 0 rfl]; exact h
    | 2, h => by dsimp only at h ⊢; rw [← hb 6 rfl, ← hx 1 rfl]; exact h
    | 0, _ | _ + 3, _ => trivial
  · refine ⟨?_, ?_, ?_, trivial⟩
    · exact sv_call rfl rfl rfl rfl rfl (fun _ _ _ h => h) fun ρ β W X cx => ⟨_, _, run_callF (args := #[.int .i64 1]) rfl cx.sees rfl (by kernel_rfl) (map1 (cx.sees.const _)), pgnew_any 1 _⟩
    · refine sv_any rfl rfl fun ρ β W X cx => ?_
      exact dv_alloc (cs := #[.int .i64 0, .int .i64 0, .slice none 0 0]) rfl (by kernel_rfl) rfl rfl (fun σ β' X' hs hb hv hx => ⟨hv, hx⟩)
    · refine sv_any rfl rfl fun ρ β W X cx => ?_
      exact dv_store (n := 3) rfl (dTn (cx.anc 1 rfl)).1 (cx.anc 0 rfl) (by kernel_rfl) (by kernel_rfl) (by kernel_rfl) cx (dTn (cx.anc 1 rfl)).2 rfl (Nat.le_of_ble_eq_true rfl) (by kernel_rfl) rfl rfl rfl (fun σ β' X' hs hb hx => by rw [hb 6]; exact hx)
  intro σ β X W3 hD hX hst3 fr hfr
  obtain ⟨B6_3, hu_B6_3⟩ : ∃ z, pb (β 6) = z := ⟨_, rfl⟩
  simp only [zM, exq 1 ((dTn (hD 2 lq))), hu_B6_3] at hst3
  dsimp only [mgT, vals, List.take, List.drop, List.cons_append, List.nil_append] at hfr
  simp only [ed 6 ((dTn (hD 1 lq)).1), hu_B6_3] at hfr
  clear hX hD hu_B6_3; subst hfr; clear σ β X
  refine then_normal ?_
  refine wp_seq ?_
  refine wp_region_T [0, 1] [] [[1]] [] [.a 22, .a 7] (fun ix σ β X => match ix with | 0 => σ 22 = .slice ((some ⟨(pb' (β 22)), 0, none⟩)) 0 0 ∧ X 1 = eO 27 6 (.slice ((some ⟨(pb' (β 22)), 0, none⟩)) 0 0) 0 ([]) | 1 => σ 7 = .slice ((some ⟨(pb' (β 22)), 0, none⟩)) 0 0 | _ => True) [0, 1] [0, 1] [(7, 1, 1, 8), (14, 0, 1, 15)] hst3 ?_ ?_ ?_
  · exact fun ix _ _ _ _ _ _ hs hb hx h => match ix, h with
    | 0, h => by dsimp only at h ⊢; rw [← hs 22 rfl, ← hb 22 rfl, ← hx 1 rfl]; exact h
    | 1, h => by dsimp only at h ⊢; rw [← hs 7 rfl, ← hb 22 rfl]; exact h
    | _ + 2, _ => trivial
  · refine ⟨?_, ?_, trivial⟩
    · refine sv_any rfl rfl fun ρ β W X cx => ?_
      exact dv_litN (e := 27) (sz := 6) (xs := []) rfl (by simp [go_sem]) rfl (by decide) rfl rfl (fun σ β' X' hs hb hv hx => ⟨hv, hx⟩)
    · exact sv rfl rfl rfl rfl rfl _ (fun _ _ _ h => h) (fun β β' h => by rw [h 22 (by decide)]) fun ρ β W X cx => run_assign' rfl (dTn (cx.anc 0 rfl)).1
  intro σ β X W4 hD hX hst4 fr hfr
  obtain ⟨B22_4, hu_B22_4⟩ : ∃ z, pb' (β 22) = z := ⟨_, rfl⟩
  simp only [zM, exq 0 (hX 0 _ rfl), exq 1 ((dTn (hD 0 lq)).2), hu_B22_4] at hst4
  dsimp only [mgT, vals, List.take, List.drop, List.cons_append, List.nil_append] at hfr
  simp only [ed 22 ((dTn (hD 0 lq)).1), ed 7 ((dTn (hD 1 lq))), hu_B22_4] at hfr
  clear hX hD hu_B22_4; subst hfr; clear σ β X
  refine then_normal ?_
  refine wp_seq ?_
  refine wp_region_P [0, 1, 3, 7] [.k 23 (.int .i64 x), tAn 24 .i64 x 65535 (x % 65536) (bits_mask x 16 (by decide)), tRe 25 .i64 (x % 65536) 10 ((x % 65536) % 10) (Int.tmod_eq_emod_of_nonneg (by omega)), .k 8 (.int .i64 ((x % 65536) % 10))] [(8, 3, 1, 9), (14, 0, 3, 17)] hst4 fun W5 hst5 => ?_
  refine then_normal ?_
  obtain ⟨F, hF⟩ : ∃ F : Nat, x % 65536 % 10 = (F : Int) := ⟨(x % 65536 % 10).toNat, by omega⟩
  have hF10 : F < 10 := by omega
  rw [hF]
  refine wp_cut (fun az W => ∃ j : Nat, ∃ PA : Option Addr, ∃ PC : Nat, ∃ KA : Option Addr, ∃ KC : Nat, ∃ ks : List KV, ∃ u6_ : List Value, j ≤ ls.length ∧ j ≤ 12 ∧ ks.length = j ∧ ks.map Prod.fst = (ls.take j).map Prod.fst ∧ (∀ i, i < j → putErr 1 0 (pgI F (vsK ls) i) ((F + i : Nat) : Int) ((vsK ls) i) = 0) ∧ (ls.length = 0 ∨ 0 < j) ∧ az = ⟨#[.slice LA ls.length lc, .int .i64 x, undef, undef, .bool false, .bool true, .pointer (some ⟨B6_3, 0, none⟩), .slice KA j KC, .int .i64 ((F : Int)), (u6_.getD 0 undef), (u6_.getD 1 undef), (u6_.getD 2 undef), (u6_.getD 3 undef), undef, undef, undef, undef, undef, undef, undef, .bool true, .agg #[.int .i64 1, .int .i64 0, .slice none 0 0], .slice ((some ⟨B22_4, 0, none⟩)) 0 0, .int .i64 x, .int .i64 (x % 65536), .int .i64 ((F : Int)), (u6_.getD 4 undef), (u6_.getD 5 undef), (u6_.getD 6 undef), (u6_.getD 7 undef), (u6_.getD 8 undef), (u6_.getD 9 undef), (u6_.getD 10 undef), (u6_.getD 11 undef), (u6_.getD 12 undef), (u6_.getD 13 undef), (u6_.getD 14 undef), (u6_.getD 15 undef), (u6_.getD 16 undef), (u6_.getD 17 undef), (u6_.getD 18 undef), (u6_.getD 19 undef), (u6_.getD 20 undef), (u6_.getD 21 undef), (u6_.getD 22 undef), (u6_.getD 23 undef), (u6_.getD 24 undef), (u6_.getD 25 undef), (u6_.getD 26 undef), (u6_.getD 27 undef), (u6_.getD 28 undef), (u6_.getD 29 undef), (u6_.getD 30 undef), (u6_.getD 31 undef), (u6_.getD 32 undef), (u6_.getD 33 undef), (u6_.getD 34 undef), (u6_.getD 35 undef), undef, undef, undef, undef, undef, undef, undef, undef, undef, undef, undef, undef, undef, undef, undef, undef, undef, undef, undef, undef, undef, undef, undef, undef, undef, undef, undef, undef, undef, undef, undef, undef, undef, undef, undef, undef, undef, undef, undef, undef, undef, undef, undef, undef, undef, undef, undef, undef, undef, undef, undef, undef, undef, undef, undef, undef, undef, undef, undef, undef, undef, undef], []⟩ ∧ St w [] [eB B6_3 94 #[.int .i64 1, .int .i64 0, .slice PA ((pgI F (vsK ls) j).length) PC], eO 9 1 (.slice PA ((pgI F (vsK ls) j).length) PC) ((pgI F (vsK ls) j).length) ((pgI F (vsK ls) j).map Value.string), eO 27 6 (.slice KA j KC) j (ks.flatMap cellsK), eK ks] W) ?_ ?_
  · skip
    refine wp_seq ?_
    refine wp_region_P [0] [.k 9 (.int .i64 0)] [(9, 0, 1, 10)] hst5 fun W7 hst7 => ?_
    refine then_normal ?_
    refine wp_block ?_
    have hn8 := St.nilrow hst7 9
    have hn_9 : St _ _ (_ ++ [eK []]) _ := St.emNil hn8
    refine wp_loopN (fun mz az W => ∃ j : Nat, ∃ PA : Option Addr, ∃ PC : Nat, ∃ KA : Option Addr, ∃ KC : Nat, ∃ ks : List KV, ∃ u10_ : List Value, j ≤ ls.length ∧ j ≤ 12 ∧ ks.length = j ∧ ks.map Prod.fst = (ls.take j).map Prod.fst ∧ (∀ i, i < j → putErr 1 0 (pgI F (vsK ls) i) ((F + i : Nat) : Int) ((vsK ls) i) = 0) ∧ mz = 12 - j ∧ az = ⟨#[.slice LA ls.length lc, .int .i64 x, undef, undef, .bool false, .bool true, .pointer (some ⟨B6_3, 0, none⟩), .slice KA j KC, .int .i64 ((F : Int)), .int .i64 ((j : Int)), (u10_.getD 0 undef), (u10_.getD 1 undef), (u10_.getD 2 undef), undef, undef, undef, undef, undef, undef, undef, .bool true, .agg #[.int .i64 1, .int .i64 0, .slice none 0 0], .slice ((some ⟨B22_4, 0, none⟩)) 0 0, .int .i64 x, .int .i64 (x % 65536), .int .i64 ((F : Int)), (u10_.getD 3 undef), (u10_.getD 4 undef), (u10_.getD 5 undef), (u10_.getD 6 undef), (u10_.getD 7 undef), (u10_.getD 8 undef), (u10_.getD 9 undef), (u10_.getD 10 undef), (u10_.getD 11 undef), (u10_.getD 12 undef), (u10_.getD 13 undef), (u10_.getD 14 undef), (u10_.getD 15 undef), (u10_.getD 16 undef), (u10_.getD 17 undef), (u10_.getD 18 undef), (u10_.getD 19 undef), (u10_.getD 20 undef), (u10_.getD 21 undef), (u10_.getD 22 undef), (u10_.getD 23 undef), (u10_.getD 24 undef), (u10_.getD 25 undef), (u10_.getD 26 undef), (u10_.getD 27 undef), (u10_.getD 28 undef), (u10_.getD 29 undef), (u10_.getD 30 undef), (u10_.getD 31 undef), (u10_.getD 32 undef), (u10_.getD 33 undef), (u10_.getD 34 undef), undef, undef, undef, undef, undef, undef, undef, undef, undef, undef, undef, undef, undef, undef, undef, undef, undef, undef, undef, undef, undef, undef, undef, undef, undef, undef, undef, undef, undef, undef, undef, undef, undef, undef, undef, undef, undef, undef, undef, undef, undef, undef, undef, undef, undef, undef, undef, undef, undef, undef, undef, undef, undef, undef, undef, undef, undef, undef, undef, undef, undef, undef], []⟩ ∧ St w [] [eB B6_3 94 #[.int .i64 1, .int .i64 0, .slice PA ((pgI F (vsK ls) j).length) PC], eO 9 1 (.slice PA ((pgI F (vsK ls) j).length) PC) ((pgI F (vsK ls) j).length) ((pgI F (vsK ls) j).map Value.string), eO 27 6 (.slice KA j KC) j (ks.flatMap cellsK), eK ks] W) (12 - 0) ?_ ?_
    · -- the loop begins
      have hp11 := hn_9.pick [0, 2, 1, 3] (by decide) rfl
      exact ⟨0, none, 0, (some ⟨B22_4, 0, none⟩), 0, [], [undef, undef, undef, undef, undef, undef, undef, undef, undef, undef, undef, undef, undef, undef, undef, undef, undef, undef, undef, undef, undef, undef, undef, undef, undef, undef, undef, undef, undef, undef, undef, undef, undef, undef, undef], Nat.zero_le _, Nat.zero_le _, rfl, rfl, fun i hi => absurd hi (Nat.not_lt_zero i), rfl, rfl, hp11⟩
    rintro n10 a10 W10 ⟨j, PA, PC, KA, KC, ks, u10_, hj, hj12, hks, hkl, hok, rfl, rfl, hst10⟩
    refine wp_seq ?_
    refine wp_seq ?_
    refine wp_region_P [0, 0, 2, 7, 15, 31, 63, 127] [.k 26 (.int .i64 ((j : Int))), .k 27 (.slice LA ls.length lc), .k 28 (.int .i64 ((ls.length : Int))), .k 29 (.bool (decide ((j : Int) < (ls.length : Int)))), .k 30 (.bool (decide ((j : Int) < (ls.length : Int)))), .z 31 (decide ((j : Int) < (ls.length : Int))) (.int .i64 ((j : Int))), .z 32 (decide ((j : Int) < (ls.length : Int))) (.bool (decide ((j : Int) < 12))), tA 33 (decide ((j : Int) < (ls.length : Int))) (decide ((j : Int) < 12))] [(26, 0, 8, 34)] hst10 fun W12 hst12 => ?_
    refine then_normal ?_
    rcases Bool.eq_false_or_eq_true ((decide ((j : Int) < (ls.length : Int))) && (decide ((j : Int) < 12))) with hs13 | hs13
    · skip
      have hs13p := hs13
      simp only [zB] at hs13p
      obtain ⟨hs13p1, hs13p2⟩ := hs13p
      refine wp_cond_true (show Act.eval _ _ = .bool true from (congrArg Value.bool hs13)) ?_
      refine wp_skip ?_
      refine then_normal ?_
      refine wp_seq ?_
      refine wp_block ?_
      refine wp_seq ?_
      have hjl : j < ls.length := by omega
      have hIj := hI (ls.getD j kv0) (by rw [List.getD_eq_getElem?_getD, List.getElem?_eq_getElem hjl]; exact List.getElem_mem hjl)
      refine wp_region_T [0, 0, 3, 7, 15, 0, 63] [[], [], [], [], [], [], [5]] [[], [], [], [], [4], [5], [6]] [[], [], [], [], [], [], [5]] [.k 36 (.slice LA ls.length lc), .k 37 (.int .i64 ((j : Int))), .c 38 (.pointer (some ((ad LA).add j))), .c 39 (.slice ((ls.getD j kv0).2.1) ((ls.getD j kv0).1.length) ((ls.getD j kv0).2.2)), .a 40, .a 10, .n] (fun ix σ β X => match ix with | 0 => True | 1 => True | 2 => True | 3 => True | 4 => σ 40 = .agg #[.int .i64 (vminF ((ls.getD j kv0).1)), .int .i64 (vmaxF ((ls.getD j kv0).1)), .int .i64 (vpgF ((ls.getD j kv0).1)), .int .i64 (vslF ((ls.getD j kv0).1)), .bool (vhotF ((ls.getD j kv0).1)), .slice (sA (tg (β 40) 5)) ((vrowF ((ls.getD j kv0).1)).length) (sC (tg (β 40) 5))] ∧ X 4 = eO 103 3 (.slice (sA (tg (β 40) 5)) ((vrowF ((ls.getD j kv0).1)).length) (sC (tg (β 40) 5))) ((vrowF ((ls.getD j kv0).1)).length) (flatR (vrowF ((ls.getD j kv0).1))) | 5 => σ 10 = .pointer (some ⟨(pb (β 10)), 0, none⟩) ∧ X 5 = eB (pb (β 10)) 27 #[.int .i64 0, .int .i64 0, .int .i64 0, .int .i64 0, .bool false, .slice none 0 0] | 6 => X 6 = eB (pb (β 10)) 27 #[.int .i64 (vminF ((ls.getD j kv0).1)), .int .i64 (vmaxF ((ls.getD j kv0).1)), .int .i64 (vpgF ((ls.getD j kv0).1)), .int .i64 (vslF ((ls.getD j kv0).1)), .bool (vhotF ((ls.getD j kv0).1)), .slice (sA (tg (β 40) 5)) ((vrowF ((ls.getD j kv0).1)).length) (sC (tg (β 40) 5))] | _ => True) [0, 1, 2, 3, 4, 6] [2, 3, 4, 5, 6] [(10, 5, 1, 11), (25, 0, 5, 30)] hst12 ?_ ?_ ?_
      · exact fun ix _ _ _ _ _ _ hs hb hx h => match ix, h with
        | 4, h => by dsimp only at h ⊢; rw [← hs 40 rfl, ← hb 40 rfl, ← hx 4 rfl]; exact h
        | 5, h => by dsimp only at h ⊢; rw [← hs 10 rfl, ← hb 10 rfl, ← hx 5 rfl]; exact h
        | 6, h => by dsimp only at h ⊢; rw [← hb 10 rfl, ← hb 40 rfl, ← hx 6 rfl]; exact h
        | 0, _ | 1, _ | 2, _ | 3, _ | _ + 7, _ => trivial
      · refine ⟨?_, ?_, ?_, ?_, ?_, trivial⟩
        · exact s4 rfl (fun _ _ _ h => h) fun cx => run_indexSl (e := 28) (m := j) rfl (by kernel_rfl) (by kernel_rfl) (cx.anc 0 rfl) (cx.anc 1 rfl) (by omega) (by omega) (hL.ext cx.upd.to_ext) (by simp)
        · exact s4 rfl (fun _ _ _ h => h) fun cx => run_load1 rfl (by kernel_rfl) (cx.anc 2 rfl) (At.cellAd (hL.ext cx.upd.to_ext) (getD_slV (by omega)))
        · refine sv_any rfl rfl fun ρ β W X cx => ?_
          refine DoesU.call (run_callF (args := #[.slice ((ls.getD j kv0).2.1) ((ls.getD j kv0).1.length) ((ls.getD j kv0).2.2)]) rfl cx.sees rfl (by kernel_rfl) (map1 (cx.anc 3 rfl))) ?_
          refine (made08_any _ _ ((ls.getD j kv0).1) _ (hIj.1.ext cx.upd.to_ext) (by omega)).mono ?_
          rintro e W1 ⟨A4, c4, rfl, ho, hx⟩
          refine ⟨_, rfl, post_call [eO 103 3 (.slice A4 ((vrowF ((ls.getD j kv0).1)).length) c4) ((vrowF ((ls.getD j kv0).1)).length) (flatR (vrowF ((ls.getD j kv0).1)))] rfl rfl hx (one_new (eO_new ho)) (List.pairwise_singleton _ _) (fun σ β' X' hs hb hv hN => ?_)⟩
          have hv1 := (hv 40 rfl).1; have hv2 := (hv 40 rfl).2
          exact ⟨hv1.trans (by rw [hv2]; rfl), (by rw [hv2]; exact (List.cons.inj hN).1)⟩
        · refine sv_any rfl rfl fun ρ β W X cx => ?_
          exact dv_alloc (cs := #[.int .i64 0, .int .i64 0, .int .i64 0, .int .i64 0, .bool false, .slice none 0 0]) rfl (by kernel_rfl) rfl rfl (fun σ β' X' hs hb hv hx => ⟨hv, hx⟩)
        · refine sv_any rfl rfl fun ρ β W X cx => ?_
          exact dv_store (n := 6) rfl (dTn (cx.anc 5 rfl)).1 (dTn (cx.anc 4 rfl)).1 (by kernel_rfl) (by kernel_rfl) (by kernel_rfl) cx (dTn (cx.anc 5 rfl)).2 rfl (Nat.le_of_ble_eq_true rfl) (by kernel_rfl) rfl rfl rfl (fun σ β' X' hs hb hx => by rw [hb 10, hb 40]; exact hx)
      intro σ β X W14 hD hX hst14 fr hfr
      obtain ⟨A40_14, hu_A40_14⟩ : ∃ z, sA (tg (β 40) 5) = z := ⟨_, rfl⟩
      obtain ⟨c40_14, hu_c40_14⟩ : ∃ z, sC (tg (β 40) 5) = z := ⟨_, rfl⟩
      obtain ⟨B10_14, hu_B10_14⟩ : ∃ z, pb (β 10) = z := ⟨_, rfl⟩
      simp only [zM, exq 0 (hX 0 _ rfl), exq 1 (hX 1 _ rfl), exq 2 (hX 2 _ rfl), exq 3 (hX 3 _ rfl), exq 4 ((dTn (hD 4 lq)).2), exq 6 ((dTn (hD 6 lq))), hu_A40_14, hu_c40_14, hu_B10_14] at hst14
      dsimp only [mgT, vals, List.take, List.drop, List.cons_append, List.nil_append] at hfr
      simp only [ed 40 ((dTn (hD 4 lq)).1), ed 10 ((dTn (hD 5 lq)).1), hu_A40_14, hu_c40_14, hu_B10_14] at hfr
      clear hX hD hu_A40_14 hu_c40_14 hu_B10_14; subst hfr; clear σ β X
      refine then_normal ?_
      refine wp_seq ?_
      have hrj := pg_right hok
      have hSj := right_small hrj
      have hsj : (vsK ls j).size ≤ 309 := (tbK_size _).1
      have hvr := vrow_le (ls.getD j kv0).1
      rcases Decidable.em (putErr 1 0 (pgI F (vsK ls) j) ((F : Int) + (j : Int)) (vsK ls j) = 0) with hpe | hpe
      · skip
        refine wp_region_T [0, 0, 0, 6, 0, 16, 63, 127, 255, 255, 0, 1535, 4095] [[0], [], [], [], [5], [4], [1], [], [], [], [], [7]] [[], [], [], [], [], [], [6], [], [], [], [7], [8]] [[], [], [], [], [], [], [], [], [], [], [], [7]] [.c 42 (.agg #[.int .i64 1, .int .i64 0, .slice PA ((pgI F (vsK ls) j).length) PC]), .k 43 (.int .i64 ((F : Int))), .k 44 (.int .i64 ((j : Int))), tI 45 ((F : Int) + (j : Int)) (by omega), .c 46 (.agg #[.int .i64 (vminF ((ls.getD j kv0).1)), .int .i64 (vmaxF ((ls.getD j kv0).1)), .int .i64 (vpgF ((ls.getD j kv0).1)), .int .i64 (vslF ((ls.getD j kv0).1)), .bool (vhotF ((ls.getD j kv0).1)), .slice A40_14 ((vrowF ((ls.getD j kv0).1)).length) c40_14]), .c 47 (.string ((vsK ls j))), .a 48, .a 41, .a 49, .c 50 (.int .i64 0), .a 11, .n, .k 12 (.int .i64 0)] (fun ix σ β X => match ix with | 0 => True | 1 => True | 2 => True | 3 => True | 4 => True | 5 => True | 6 => σ 48 = .tuple #[.agg #[.int .i64 1, .int .i64 0, .slice (sA (tg (tg (β 48) 0) 2)) ((pgI F (vsK ls) (j + 1)).length) (sC (tg (tg (β 48) 0) 2))], .int .i64 0] ∧ X 6 = eO 9 1 (.slice (sA (tg (tg (β 48) 0) 2)) ((pgI F (vsK ls) (j + 1)).length) (sC (tg (tg (β 48) 0) 2))) ((pgI F (vsK ls) (j + 1)).length) ((pgI F (vsK ls) (j + 1)).map Value.string) | 7 => σ 41 = .tuple #[.agg #[.int .i64 1, .int .i64 0, .slice (sA (tg (tg (β 48) 0) 2)) ((pgI F (vsK ls) (j + 1)).length) (sC (tg (tg (β 48) 0) 2))], .int .i64 0] | 8 => σ 49 = .agg #[.int .i64 1, .int .i64 0, .slice (sA (tg (tg (β 48) 0) 2)) ((pgI F (vsK ls) (j + 1)).length) (sC (tg (tg (β 48) 0) 2))] | 9 => True | 10 => σ 11 = .pointer (some ⟨(pb (β 11)), 0, none⟩) ∧ X 7 = eB (pb (β 11)) 94 #[.int .i64 0, .int .i64 0, .slice none 0 0] | 11 => X 8 = eB (pb (β 11)) 94 #[.int .i64 1, .int .i64 0, .slice (sA (tg (tg (β 48) 0) 2)) ((pgI F (vsK ls) (j + 1)).length) (sC (tg (tg (β 48) 0) 2))] | _ => True) [0, 1, 2, 3, 4, 5, 6, 8] [0, 4, 5, 6, 7, 8, 9, 10, 11] [(11, 10, 3, 13), (28, 7, 1, 29), (0, 0, 7, 7), (0, 8, 2, 2)] hst14 ?_ ?_ ?_
        · exact fun ix _ _ _ _ _ _ hs hb hx h => match ix, h with
          | 6, h => by dsimp only at h ⊢; rw [← hs 48 rfl, ← hb 48 rfl, ← hx 6 rfl]; exact h
          | 7, h => by dsimp only at h ⊢; rw [← hs 41 rfl, ← hb 48 rfl]; exact h
          | 8, h => by dsimp only at h ⊢; rw [← hs 49 rfl, ← hb 48 rfl]; exact h
          | 10, h => by dsimp only at h ⊢; rw [← hs 11 rfl, ← hb 11 rfl, ← hx 7 rfl]; exact h
          | 11, h => by dsimp only at h ⊢; rw [← hb 11 rfl, ← hb 48 rfl, ← hx 8 rfl]; exact h
          | 0, _ | 1, _ | 2, _ | 3, _ | 4, _ | 5, _ | 9, _ | _ + 12, _ => trivial
        · refine ⟨?_, ?_, ?_, ?_, ?_, ?_, ?_, ?_, ?_, trivial⟩
          · exact s4 rfl (fun _ _ _ h => h) fun cx => run_loadB (n := 3) rfl (by kernel_rfl) (by kernel_rfl) (cx.out 6 rfl) (cx.blk (cx.init 0 _ rfl) rfl) (Nat.le_of_ble_eq_true rfl) rfl
          · exact s4 rfl (fun _ _ _ h => h) fun cx => run_loadB (n := 6) rfl (by kernel_rfl) (by kernel_rfl) (cx.out 10 rfl) (cx.blk (cx.init 5 _ rfl) rfl) (Nat.le_of_ble_eq_true rfl) rfl
          · exact sv_call rfl rfl rfl rfl rfl (fun _ _ _ h => h) fun ρ β W X cx => ⟨_, _, run_callF (args := #[.agg #[.int .i64 (vminF ((ls.getD j kv0).1)), .int .i64 (vmaxF ((ls.getD j kv0).1)), .int .i64 (vpgF ((ls.getD j kv0).1)), .int .i64 (vslF ((ls.getD j kv0).1)), .bool (vhotF ((ls.getD j kv0).1)), .slice A40_14 ((vrowF ((ls.getD j kv0).1)).length) c40_14]]) rfl cx.sees rfl (by kernel_rfl) (map1 (cx.anc 4 rfl)), tbytes_any _ _ _ _ _ _ _ _ _ (At.of_ownN (cx.row (cx.init 4 _ rfl) rfl)) (by omega) (hN.ext cx.upd.to_ext)⟩
          · refine sv_any rfl rfl fun ρ β W X cx => ?_
            refine DoesU.call (run_callF (args := #[.agg #[.int .i64 1, .int .i64 0, .slice PA ((pgI F (vsK ls) j).length) PC], .int .i64 ((F : Int) + (j : Int)), .string ((vsK ls j))]) rfl cx.sees rfl (by kernel_rfl) (map3 (cx.anc 0 rfl) (cx.anc 3 rfl) (cx.anc 5 rfl))) ?_
            refine (put_ok (At.of_own (cx.row (cx.init 1 _ rfl) rfl)) hSj (by omega) hpe).mono ?_
            rintro e W1 ⟨A4, c4, rfl, ho, hx⟩
            refine ⟨_, rfl, post_call [eO 9 1 (.slice A4 ((pgI F (vsK ls) (j + 1)).length) c4) ((pgI F (vsK ls) (j + 1)).length) ((pgI F (vsK ls) (j + 1)).map Value.string)] rfl rfl hx (one_new (eO_new ho)) (List.pairwise_singleton _ _) (fun σ β' X' hs hb hv hN => ?_)⟩
            have hv1 := (hv 48 rfl).1; have hv2 := (hv 48 rfl).2
            exact ⟨hv1.trans (by rw [hv2]; rfl), (by rw [hv2]; exact (List.cons.inj hN).1)⟩
          · exact sv rfl rfl rfl rfl rfl _ (fun _ _ _ h => h) (fun β β' h => by rw [h 48 (by decide)]) fun ρ β W X cx => run_move' rfl (dTn (cx.anc 6 rfl)).1
          · exact sv rfl rfl rfl rfl rfl _ (fun _ _ _ h => h) (fun β β' h => by rw [h 48 (by decide)]) fun ρ β W X cx => run_extract' rfl (dTn (cx.anc 7 rfl)) rfl
          · exact s4 rfl (fun _ _ _ h => h) fun cx => run_extract' rfl (dTn (cx.anc 7 rfl)) rfl
          · refine sv_any rfl rfl fun ρ β W X cx => ?_
            exact dv_alloc (cs := #[.int .i64 0, .int .i64 0, .slice none 0 0]) rfl (by kernel_rfl) rfl rfl (fun σ β' X' hs hb hv hx => ⟨hv, hx⟩)
          · refine sv_any rfl rfl fun ρ β W X cx => ?_
            exact dv_store (n := 3) rfl (dTn (cx.anc 10 rfl)).1 (dTn (cx.anc 8 rfl)) (by kernel_rfl) (by kernel_rfl) (by kernel_rfl) cx (dTn (cx.anc 10 rfl)).2 rfl (Nat.le_of_ble_eq_true rfl) (by kernel_rfl) rfl rfl rfl (fun σ β' X' hs hb hx => by rw [hb 11, hb 48]; exact hx)
        intro σ β X W15 hD hX hst15 fr hfr
        obtain ⟨A48_15, hu_A48_15⟩ : ∃ z, sA (tg (tg (β 48) 0) 2) = z := ⟨_, rfl⟩
        obtain ⟨c48_15, hu_c48_15⟩ : ∃ z, sC (tg (tg (β 48) 0) 2) = z := ⟨_, rfl⟩
        obtain ⟨B11_15, hu_B11_15⟩ : ∃ z, pb (β 11) = z := ⟨_, rfl⟩
        simp only [zM, exq 0 (hX 0 _ rfl), exq 1 (hX 1 _ rfl), exq 2 (hX 2 _ rfl), exq 3 (hX 3 _ rfl), exq 4 (hX 4 _ rfl), exq 5 (hX 5 _ rfl), exq 6 ((dTn (hD 6 lq)).2), exq 8 ((dTn (hD 11 lq))), hu_A48_15, hu_c48_15, hu_B11_15] at hst15
        dsimp only [mgT, vals, List.take, List.drop, List.cons_append, List.nil_append] at hfr
        simp only [ed 48 ((dTn (hD 6 lq)).1), ed 41 ((dTn (hD 7 lq))), ed 49 ((dTn (hD 8 lq))), ed 11 ((dTn (hD 10 lq)).1), hu_A48_15, hu_c48_15, hu_B11_15] at hfr
        clear hX hD hu_A48_15 hu_c48_15 hu_B11_15; subst hfr; clear σ β X
        refine then_normal ?_
        refine wp_seq ?_
        refine wp_seq ?_
        refine wp_region_P [0, 1] [.k 51 (.int .i64 0), .k 52 (.bool false)] [(51, 0, 2, 53)] hst15 fun W16 hst16 => ?_
        refine then_normal ?_
        refine wp_cond_false (show Act.eval _ _ = .bool false from rfl) ?_
        refine wp_skip ?_
        refine then_normal ?_
        refine wp_seq ?_
        refine wp_region_T [0, 1] [[7], [0]] [[], [8]] [[], [0]] [.c 53 (.agg #[.int .i64 1, .int .i64 0, .slice A48_15 ((pgI F (vsK ls) (j + 1)).length) c48_15]), .n] (fun ix σ β X => match ix with | 0 => True | 1 => X 8 = eB B6_3 94 #[.int .i64 1, .int .i64 0, .slice A48_15 ((pgI F (vsK ls) (j + 1)).length) c48_15] | _ => True) [1, 2, 3, 4, 5, 6, 7, 8] [0, 1] [(53, 0, 1, 54)] hst16 ?_ ?_ ?_
        · exact fun ix _ _ _ _ _ _ hs hb hx h => match ix, h with
          | 1, h => by dsimp only at h ⊢; rw [← hx 8 rfl]; exact h
          | 0, _ | _ + 2, _ => trivial
        · refine ⟨?_, ?_, trivial⟩
          · exact s4 rfl (fun _ _ _ h => h) fun cx => run_loadB (n := 3) rfl (by kernel_rfl) (by kernel_rfl) (cx.out 11 rfl) (cx.blk (cx.init 7 _ rfl) rfl) (Nat.le_of_ble_eq_true rfl) rfl
          · refine sv_any rfl rfl fun ρ β W X cx => ?_
            exact dv_store (n := 3) rfl (cx.out 6 rfl) (cx.anc 0 rfl) (by kernel_rfl) (by kernel_rfl) (by kernel_rfl) cx (cx.init 0 _ rfl) rfl (Nat.le_of_ble_eq_true rfl) (by kernel_rfl) rfl rfl rfl (fun σ β' X' hs hb hx => hx)
        intro σ β X W17 hD hX hst17 fr hfr
        simp only [zM, exq 1 (hX 1 _ rfl), exq 2 (hX 2 _ rfl), exq 3 (hX 3 _ rfl), exq 4 (hX 4 _ rfl), exq 5 (hX 5 _ rfl), exq 6 (hX 6 _ rfl), exq 7 (hX 7 _ rfl), exq 8 ((dTn (hD 1 lq)))] at hst17
        dsimp only [mgT, vals, List.take, List.drop, List.cons_append, List.nil_append] at hfr
        clear hX hD; subst hfr; clear σ β X
        refine then_normal ?_
        refine wp_region_T [0, 0, 2, 7, 15] [[], [4], [], [8, 1]] [[], [], [8], [9]] [[], [], [], [1]] [.k 54 (.slice KA j KC), .c 55 (.agg #[.int .i64 (vminF ((ls.getD j kv0).1)), .int .i64 (vmaxF ((ls.getD j kv0).1)), .int .i64 (vpgF ((ls.getD j kv0).1)), .int .i64 (vslF ((ls.getD j kv0).1)), .bool (vhotF ((ls.getD j kv0).1)), .slice A40_14 ((vrowF ((ls.getD j kv0).1)).length) c40_14]), .a 56, .a 57, .a 7] (fun ix σ β X => match ix with | 0 => True | 1 => True | 2 => σ 56 = .slice ((some ⟨(pb' (β 56)), 0, none⟩)) 1 1 ∧ X 8 = eO 27 6 (.slice ((some ⟨(pb' (β 56)), 0, none⟩)) 1 1) 1 (cellsK ((ls.getD j kv0).1, A40_14, c40_14)) | 3 => σ 57 = .slice (sA (β 57)) (j + 1) (sC (β 57)) ∧ X 9 = eO 27 6 (.slice (sA (β 57)) (j + 1) (sC (β 57))) (j + 1) ((ks ++ [((ls.getD j kv0).1, A40_14, c40_14)]).flatMap cellsK) | 4 => σ 7 = .slice (sA (β 57)) (j + 1) (sC (β 57)) | _ => True) [0, 2, 3, 4, 5, 6, 7, 8, 9] [1, 2, 3, 4] [(7, 4, 1, 8), (46, 0, 4, 50)] hst17 ?_ ?_ ?_
        · exact fun ix _ _ _ _ _ _ hs hb hx h => match ix, h with
          | 2, h => by dsimp only at h ⊢; rw [← hs 56 rfl, ← hb 56 rfl, ← hx 8 rfl]; exact h
          | 3, h => by dsimp only at h ⊢; rw [← hs 57 rfl, ← hb 57 rfl, ← hx 9 rfl]; exact h
          | 4, h => by dsimp only at h ⊢; rw [← hs 7 rfl, ← hb 57 rfl]; exact h
          | 0, _ | 1, _ | _ + 5, _ => trivial
        · refine ⟨?_, ?_, ?_, ?_, trivial⟩
          · exact s4 rfl (fun _ _ _ h => h) fun cx => run_loadB (n := 6) rfl (by kernel_rfl) (by kernel_rfl) (cx.out 10 rfl) (cx.blk (cx.init 4 _ rfl) rfl) (Nat.le_of_ble_eq_true rfl) rfl
          · refine sv_any rfl rfl fun ρ β W X cx => ?_
            have fF55 : ρ (.tmp 55) = .agg #[.int .i64 (vminF ((ls.getD j kv0).1)), .int .i64 (vmaxF ((ls.getD j kv0).1)), .int .i64 (vpgF ((ls.getD j kv0).1)), .int .i64 (vslF ((ls.getD j kv0).1)), .bool (vhotF ((ls.getD j kv0).1)), .slice A40_14 ((vrowF ((ls.getD j kv0).1)).length) c40_14] := (cx.anc 1 rfl)
            exact dv_litN (e := 27) (sz := 6) (xs := [.int .i64 (vminF ((ls.getD j kv0).1)), .int .i64 (vmaxF ((ls.getD j kv0).1)), .int .i64 (vpgF ((ls.getD j kv0).1)), .int .i64 (vslF ((ls.getD j kv0).1)), .bool (vhotF ((ls.getD j kv0).1)), .slice A40_14 ((vrowF ((ls.getD j kv0).1)).length) c40_14]) rfl (by simp [go_sem, fF55]) rfl (by decide) rfl rfl (fun σ β' X' hs hb hv hx => ⟨hv, hx⟩)
          · refine sv_any rfl rfl fun ρ β W X cx => ?_
            obtain ⟨i0, hi0, hz0, hz1, hz2⟩ := info_parts Tryd.infoVerP
            refine dv_appendN (n := j) (m := 1) (nm := j + 1) (sz := 6) (xs := ks.flatMap cellsK) (news := cellsK ((ls.getD j kv0).1, A40_14, c40_14)) (xs' := (ks ++ [((ls.getD j kv0).1, A40_14, c40_14)]).flatMap cellsK) rfl (ty := 72) rfl (by kernel_rfl) hi0 hz0 hz1 hz2 rfl (by decide) (cx.anc 0 rfl) cx (cx.init 1 _ rfl) rfl (dTn (cx.anc 2 rfl)).1 (by rfl) (At.of_ownN (cx.row (dTn (cx.anc 2 rfl)).2 rfl)) (by simp [cellsK, Value.oneCell']) (by simp only [maxLen]; omega) (by omega) rfl rfl rfl (by omega) (kept_snoc _ _) (fun σ β' X' hs hb hv hx => ?_)
            exact ⟨hv, hx⟩
          · exact sv rfl rfl rfl rfl rfl _ (fun _ _ _ h => h) (fun β β' h => by rw [h 57 (by decide)]) fun ρ β W X cx => run_assign' rfl (dTn (cx.anc 3 rfl)).1
        intro σ β X W18 hD hX hst18 fr hfr
        obtain ⟨B56_18, hu_B56_18⟩ : ∃ z, pb' (β 56) = z := ⟨_, rfl⟩
        obtain ⟨A57_18, hu_A57_18⟩ : ∃ z, sA (β 57) = z := ⟨_, rfl⟩
        obtain ⟨c57_18, hu_c57_18⟩ : ∃ z, sC (β 57) = z := ⟨_, rfl⟩
        simp only [zM, exq 0 (hX 0 _ rfl), exq 2 (hX 2 _ rfl), exq 3 (hX 3 _ rfl), exq 4 (hX 4 _ rfl), exq 5 (hX 5 _ rfl), exq 6 (hX 6 _ rfl), exq 7 (hX 7 _ rfl), exq 8 ((dTn (hD 2 lq)).2), exq 9 ((dTn (hD 3 lq)).2), hu_B56_18, hu_A57_18, hu_c57_18] at hst18
        dsimp only [mgT, vals, List.take, List.drop, List.cons_append, List.nil_append] at hfr
        simp only [ed 56 ((dTn (hD 2 lq)).1), ed 57 ((dTn (hD 3 lq)).1), ed 7 ((dTn (hD 4 lq))), hu_B56_18, hu_A57_18, hu_c57_18] at hfr
        clear hX hD hu_B56_18 hu_A57_18 hu_c57_18; subst hfr; clear σ β X
        refine blk_normal ?_
        refine then_normal ?_
        refine wp_region_P [0, 1, 3] [.k 34 (.int .i64 ((j : Int))), tI 35 ((j : Int) + 1) (by omega), .k 9 (.int .i64 ((j : Int) + 1))] [(9, 2, 1, 10), (24, 0, 2, 26)] hst18 fun W19 hst19 => ?_
        refine then_normal ?_
        have hm20 := St.mergeK (l := (ls.getD j kv0).1) (A := A40_14) (c := c40_14) (L := [eO 9 1 (.slice PA ((pgI F (vsK ls) j).length) PC) ((pgI F (vsK ls) j).length) ((pgI F (vsK ls) j).map Value.string), eB B10_14 27 #[.int .i64 (vminF ((ls.getD j kv0).1)), .int .i64 (vmaxF ((ls.getD j kv0).1)), .int .i64 (vpgF ((ls.getD j kv0).1)), .int .i64 (vslF ((ls.getD j kv0).1)), .bool (vhotF ((ls.getD j kv0).1)), .slice A40_14 ((vrowF ((ls.getD j kv0).1)).length) c40_14], eO 9 1 (.slice A48_15 ((pgI F (vsK ls) (j + 1)).length) c48_15) ((pgI F (vsK ls) (j + 1)).length) ((pgI F (vsK ls) (j + 1)).map Value.string), eB B11_15 94 #[.int .i64 1, .int .i64 0, .slice A48_15 ((pgI F (vsK ls) (j + 1)).length) c48_15], eB B6_3 94 #[.int .i64 1, .int .i64 0, .slice A48_15 ((pgI F (vsK ls) (j + 1)).length) c48_15], eO 27 6 (.slice ((some ⟨B56_18, 0, none⟩)) 1 1) 1 (cellsK ((ls.getD j kv0).1, A40_14, c40_14)), eO 27 6 (.slice A57_18 (j + 1) c57_18) (j + 1) ((ks ++ [((ls.getD j kv0).1, A40_14, c40_14)]).flatMap cellsK)]) (hst19.pick [0, 3, 4, 5, 6, 7, 8, 1, 2] (by decide) rfl)
        refine ⟨12 - ((j + 1)), by omega, ?_⟩
        have hp21 := hm20.pick [4, 2, 6, 7] (by decide) rfl
        exact ⟨(j + 1), A48_15, c48_15, A57_18, c57_18, (ks ++ [((ls.getD j kv0).1, A40_14, c40_14)]), [.pointer (some ⟨B10_14, 0, none⟩), .pointer (some ⟨B11_15, 0, none⟩), .int .i64 0, .int .i64 ((j : Int)), .slice LA ls.length lc, .int .i64 ((ls.length : Int)), .bool (decide ((j : Int) < (ls.length : Int))), .bool (decide ((j : Int) < (ls.length : Int))), mb (decide ((j : Int) < (ls.length : Int))) (.int .i64 ((j : Int))), mb (decide ((j : Int) < (ls.length : Int))) (.bool (decide ((j : Int) < 12))), .bool ((decide ((j : Int) < (ls.length : Int))) && (decide ((j : Int) < 12))), .int .i64 ((j : Int)), .int .i64 ((j : Int) + 1), .slice LA ls.length lc, .int .i64 ((j : Int)), .pointer (some ((ad LA).add j)), .slice ((ls.getD j kv0).2.1) ((ls.getD j kv0).1.length) ((ls.getD j kv0).2.2), .agg #[.int .i64 (vminF ((ls.getD j kv0).1)), .int .i64 (vmaxF ((ls.getD j kv0).1)), .int .i64 (vpgF ((ls.getD j kv0).1)), .int .i64 (vslF ((ls.getD j kv0).1)), .bool (vhotF ((ls.getD j kv0).1)), .slice A40_14 ((vrowF ((ls.getD j kv0).1)).length) c40_14], .tuple #[.agg #[.int .i64 1, .int .i64 0, .slice A48_15 ((pgI F (vsK ls) (j + 1)).length) c48_15], .int .i64 0], .agg #[.int .i64 1, .int .i64 0, .slice PA ((pgI F (vsK ls) j).length) PC], .int .i64 ((F : Int)), .int .i64 ((j : Int)), .int .i64 ((F : Int) + (j : Int)), .agg #[.int .i64 (vminF ((ls.getD j kv0).1)), .int .i64 (vmaxF ((ls.getD j kv0).1)), .int .i64 (vpgF ((ls.getD j kv0).1)), .int .i64 (vslF ((ls.getD j kv0).1)), .bool (vhotF ((ls.getD j kv0).1)), .slice A40_14 ((vrowF ((ls.getD j kv0).1)).length) c40_14], .string ((vsK ls j)), .tuple #[.agg #[.int .i64 1, .int .i64 0, .slice A48_15 ((pgI F (vsK ls) (j + 1)).length) c48_15], .int .i64 0], .agg #[.int .i64 1, .int .i64 0, .slice A48_15 ((pgI F (vsK ls) (j + 1)).length) c48_15], .int .i64 0, .int .i64 0, .bool false, .agg #[.int .i64 1, .int .i64 0, .slice A48_15 ((pgI F (vsK ls) (j + 1)).length) c48_15], .slice KA j KC, .agg #[.int .i64 (vminF ((ls.getD j kv0).1)), .int .i64 (vmaxF ((ls.getD j kv0).1)), .int .i64 (vpgF ((ls.getD j kv0).1)), .int .i64 (vslF ((ls.getD j kv0).1)), .bool (vhotF ((ls.getD j kv0).1)), .slice A40_14 ((vrowF ((ls.getD j kv0).1)).length) c40_14], .slice ((some ⟨B56_18, 0, none⟩)) 1 1, .slice A57_18 (j + 1) c57_18], by omega, by omega, by rw [List.length_append, hks]; rfl, kl_snoc hjl hkl _ _, ok_snoc hok hpe, rfl, rfl, hp21⟩
      · skip
        refine wp_region_T [0, 0, 0, 6, 0, 16, 63, 127, 255, 255, 0, 1535, 4095] [[0], [], [], [], [5], [4], [1], [], [], [], [], [7]] [[], [], [], [], [], [], [6], [], [], [], [7], [8]] [[], [], [], [], [], [], [], [], [], [], [], [7]] [.c 42 (.agg #[.int .i64 1, .int .i64 0, .slice PA ((pgI F (vsK ls) j).length) PC]), .k 43 (.int .i64 ((F : Int))), .k 44 (.int .i64 ((j : Int))), tI 45 ((F : Int) + (j : Int)) (by omega), .c 46 (.agg #[.int .i64 (vminF ((ls.getD j kv0).1)), .int .i64 (vmaxF ((ls.getD j kv0).1)), .int .i64 (vpgF ((ls.getD j kv0).1)), .int .i64 (vslF ((ls.getD j kv0).1)), .bool (vhotF ((ls.getD j kv0).1)), .slice A40_14 ((vrowF ((ls.getD j kv0).1)).length) c40_14]), .c 47 (.string ((vsK ls j))), .a 48, .a 41, .a 49, .c 50 (.int .i64 ((putErr 1 0 (pgI F (vsK ls) j) ((F : Int) + (j : Int)) (vsK ls j)))), .a 11, .n, .k 12 (.int .i64 ((putErr 1 0 (pgI F (vsK ls) j) ((F : Int) + (j : Int)) (vsK ls j))))] (fun ix σ β X => match ix with | 0 => True | 1 => True | 2 => True | 3 => True | 4 => True | 5 => True | 6 => σ 48 = .tuple #[.agg #[.int .i64 0, .int .i64 0, .slice (sA (tg (tg (β 48) 0) 2)) (([] : List ByteArray).length) (sC (tg (tg (β 48) 0) 2))], .int .i64 ((putErr 1 0 (pgI F (vsK ls) j) ((F : Int) + (j : Int)) (vsK ls j)))] ∧ X 6 = eO 9 1 (.slice (sA (tg (tg (β 48) 0) 2)) (([] : List ByteArray).length) (sC (tg (tg (β 48) 0) 2))) (([] : List ByteArray).length) (([] : List ByteArray).map Value.string) | 7 => σ 41 = .tuple #[.agg #[.int .i64 0, .int .i64 0, .slice (sA (tg (tg (β 48) 0) 2)) (([] : List ByteArray).length) (sC (tg (tg (β 48) 0) 2))], .int .i64 ((putErr 1 0 (pgI F (vsK ls) j) ((F : Int) + (j : Int)) (vsK ls j)))] | 8 => σ 49 = .agg #[.int .i64 0, .int .i64 0, .slice (sA (tg (tg (β 48) 0) 2)) (([] : List ByteArray).length) (sC (tg (tg (β 48) 0) 2))] | 9 => True | 10 => σ 11 = .pointer (some ⟨(pb (β 11)), 0, none⟩) ∧ X 7 = eB (pb (β 11)) 94 #[.int .i64 0, .int .i64 0, .slice none 0 0] | 11 => X 8 = eB (pb (β 11)) 94 #[.int .i64 0, .int .i64 0, .slice (sA (tg (tg (β 48) 0) 2)) (([] : List ByteArray).length) (sC (tg (tg (β 48) 0) 2))] | _ => True) [0, 1, 2, 3, 4, 5, 6, 8] [0, 4, 5, 6, 7, 8, 9, 10, 11] [(11, 10, 3, 13), (28, 7, 1, 29), (0, 0, 7, 7), (0, 8, 2, 2)] hst14 ?_ ?_ ?_
        · exact fun ix _ _ _ _ _ _ hs hb hx h => match ix, h with
          | 6, h => by dsimp only at h ⊢; rw [← hs 48 rfl, ← hb 48 rfl, ← hx 6 rfl]; exact h
          | 7, h => by dsimp only at h ⊢; rw [← hs 41 rfl, ← hb 48 rfl]; exact h
          | 8, h => by dsimp only at h ⊢; rw [← hs 49 rfl, ← hb 48 rfl]; exact h
          | 10, h => by dsimp only at h ⊢; rw [← hs 11 rfl, ← hb 11 rfl, ← hx 7 rfl]; exact h
          | 11, h => by dsimp only at h ⊢; rw [← hb 11 rfl, ← hb 48 rfl, ← hx 8 rfl]; exact h
          | 0, _ | 1, _ | 2, _ | 3, _ | 4, _ | 5, _ | 9, _ | _ + 12, _ => trivial
        · refine ⟨?_, ?_, ?_, ?_, ?_, ?_, ?_, ?_, ?_, trivial⟩
          · exact s4 rfl (fun _ _ _ h => h) fun cx => run_loadB (n := 3) rfl (by kernel_rfl) (by kernel_rfl) (cx.out 6 rfl) (cx.blk (cx.init 0 _ rfl) rfl) (Nat.le_of_ble_eq_true rfl) rfl
          · exact s4 rfl (fun _ _ _ h => h) fun cx => run_loadB (n := 6) rfl (by kernel_rfl) (by kernel_rfl) (cx.out 10 rfl) (cx.blk (cx.init 5 _ rfl) rfl) (Nat.le_of_ble_eq_true rfl) rfl
          · exact sv_call rfl rfl rfl rfl rfl (fun _ _ _ h => h) fun ρ β W X cx => ⟨_, _, run_callF (args := #[.agg #[.int .i64 (vminF ((ls.getD j kv0).1)), .int .i64 (vmaxF ((ls.getD j kv0).1)), .int .i64 (vpgF ((ls.getD j kv0).1)), .int .i64 (vslF ((ls.getD j kv0).1)), .bool (vhotF ((ls.getD j kv0).1)), .slice A40_14 ((vrowF ((ls.getD j kv0).1)).length) c40_14]]) rfl cx.sees rfl (by kernel_rfl) (map1 (cx.anc 4 rfl)), tbytes_any _ _ _ _ _ _ _ _ _ (At.of_ownN (cx.row (cx.init 4 _ rfl) rfl)) (by omega) (hN.ext cx.upd.to_ext)⟩
          · refine sv_any rfl rfl fun ρ β W X cx => ?_
            refine DoesU.call (run_callF (args := #[.agg #[.int .i64 1, .int .i64 0, .slice PA ((pgI F (vsK ls) j).length) PC], .int .i64 ((F : Int) + (j : Int)), .string ((vsK ls j))]) rfl cx.sees rfl (by kernel_rfl) (map3 (cx.anc 0 rfl) (cx.anc 3 rfl) (cx.anc 5 rfl))) ?_
            refine (put_bad (At.of_own (cx.row (cx.init 1 _ rfl) rfl)) hSj (by omega) hpe).mono ?_
            rintro e W1 ⟨A4, c4, rfl, ho, hx⟩
            refine ⟨_, rfl, post_call [eO 9 1 (.slice A4 (([] : List ByteArray).length) c4) (([] : List ByteArray).length) (([] : List ByteArray).map Value.string)] rfl rfl hx (one_new (eO_new ho)) (List.pairwise_singleton _ _) (fun σ β' X' hs hb hv hN => ?_)⟩
            have hv1 := (hv 48 rfl).1; have hv2 := (hv 48 rfl).2
            exact ⟨hv1.trans (by rw [hv2]; rfl), (by rw [hv2]; exact (List.cons.inj hN).1)⟩
          · exact sv rfl rfl rfl rfl rfl _ (fun _ _ _ h => h) (fun β β' h => by rw [h 48 (by decide)]) fun ρ β W X cx => run_move' rfl (dTn (cx.anc 6 rfl)).1
          · exact sv rfl rfl rfl rfl rfl _ (fun _ _ _ h => h) (fun β β' h => by rw [h 48 (by decide)]) fun ρ β W X cx => run_extract' rfl (dTn (cx.anc 7 rfl)) rfl
          · exact s4 rfl (fun _ _ _ h => h) fun cx => run_extract' rfl (dTn (cx.anc 7 rfl)) rfl
          · refine sv_any rfl rfl fun ρ β W X cx => ?_
            exact dv_alloc (cs := #[.int .i64 0, .int .i64 0, .slice none 0 0]) rfl (by kernel_rfl) rfl rfl (fun σ β' X' hs hb hv hx => ⟨hv, hx⟩)
          · refine sv_any rfl rfl fun ρ β W X cx => ?_
            exact dv_store (n := 3) rfl (dTn (cx.anc 10 rfl)).1 (dTn (cx.anc 8 rfl)) (by kernel_rfl) (by kernel_rfl) (by kernel_rfl) cx (dTn (cx.anc 10 rfl)).2 rfl (Nat.le_of_ble_eq_true rfl) (by kernel_rfl) rfl rfl rfl (fun σ β' X' hs hb hx => by rw [hb 11, hb 48]; exact hx)
        intro σ β X W22 hD hX hst22 fr hfr
        obtain ⟨A48_22, hu_A48_22⟩ : ∃ z, sA (tg (tg (β 48) 0) 2) = z := ⟨_, rfl⟩
        obtain ⟨c48_22, hu_c48_22⟩ : ∃ z, sC (tg (tg (β 48) 0) 2) = z := ⟨_, rfl⟩
        obtain ⟨B11_22, hu_B11_22⟩ : ∃ z, pb (β 11) = z := ⟨_, rfl⟩
        simp only [zM, exq 0 (hX 0 _ rfl), exq 1 (hX 1 _ rfl), exq 2 (hX 2 _ rfl), exq 3 (hX 3 _ rfl), exq 4 (hX 4 _ rfl), exq 5 (hX 5 _ rfl), exq 6 ((dTn (hD 6 lq)).2), exq 8 ((dTn (hD 11 lq))), hu_A48_22, hu_c48_22, hu_B11_22] at hst22
        dsimp only [mgT, vals, List.take, List.drop, List.cons_append, List.nil_append] at hfr
        simp only [ed 48 ((dTn (hD 6 lq)).1), ed 41 ((dTn (hD 7 lq))), ed 49 ((dTn (hD 8 lq))), ed 11 ((dTn (hD 10 lq)).1), hu_A48_22, hu_c48_22, hu_B11_22] at hfr
        clear hX hD hu_A48_22 hu_c48_22 hu_B11_22; subst hfr; clear σ β X
        refine then_normal ?_
        refine wp_seq ?_
        refine wp_seq ?_
        have hd24 : ((putErr 1 0 (pgI F (vsK ls) j) ((F : Int) + (j : Int)) (vsK ls j)) != 0) = true := (by simpa using hpe)
        refine wp_region_P [0, 1] [.k 51 (.int .i64 ((putErr 1 0 (pgI F (vsK ls) j) ((F : Int) + (j : Int)) (vsK ls j)))), .e 52 (.bool ((putErr 1 0 (pgI F (vsK ls) j) ((F : Int) + (j : Int)) (vsK ls j)) != 0)) (.bool true) (congrArg Value.bool hd24)] [(51, 0, 2, 53)] hst22 fun W23 hst23 => ?_
        refine then_normal ?_
        refine wp_cond_true (show Act.eval _ _ = .bool true from rfl) ?_
        refine wp_exit ?_
        refine then_exit ?_
        refine blk_ne (by decide) ?_
        refine then_exit ?_
        refine then_exit ?_
        refine blk_eq ?_
        refine then_normal ?_
        have hp25 := hst23.pick [0, 1, 2, 3] (by decide) rfl
        exact ⟨j, PA, PC, KA, KC, ks, [.int .i64 ((j : Int)), .pointer (some ⟨B10_14, 0, none⟩), .pointer (some ⟨B11_22, 0, none⟩), .int .i64 ((putErr 1 0 (pgI F (vsK ls) j) ((F : Int) + (j : Int)) (vsK ls j))), .int .i64 ((j : Int)), .slice LA ls.length lc, .int .i64 ((ls.length : Int)), .bool (decide ((j : Int) < (ls.length : Int))), .bool (decide ((j : Int) < (ls.length : Int))), mb (decide ((j : Int) < (ls.length : Int))) (.int .i64 ((j : Int))), mb (decide ((j : Int) < (ls.length : Int))) (.bool (decide ((j : Int) < 12))), .bool ((decide ((j : Int) < (ls.length : Int))) && (decide ((j : Int) < 12))), (u10_.getD 11 undef), (u10_.getD 12 undef), .slice LA ls.length lc, .int .i64 ((j : Int)), .pointer (some ((ad LA).add j)), .slice ((ls.getD j kv0).2.1) ((ls.getD j kv0).1.length) ((ls.getD j kv0).2.2), .agg #[.int .i64 (vminF ((ls.getD j kv0).1)), .int .i64 (vmaxF ((ls.getD j kv0).1)), .int .i64 (vpgF ((ls.getD j kv0).1)), .int .i64 (vslF ((ls.getD j kv0).1)), .bool (vhotF ((ls.getD j kv0).1)), .slice A40_14 ((vrowF ((ls.getD j kv0).1)).length) c40_14], .tuple #[.agg #[.int .i64 0, .int .i64 0, .slice A48_22 (([] : List ByteArray).length) c48_22], .int .i64 ((putErr 1 0 (pgI F (vsK ls) j) ((F : Int) + (j : Int)) (vsK ls j)))], .agg #[.int .i64 1, .int .i64 0, .slice PA ((pgI F (vsK ls) j).length) PC], .int .i64 ((F : Int)), .int .i64 ((j : Int)), .int .i64 ((F : Int) + (j : Int)), .agg #[.int .i64 (vminF ((ls.getD j kv0).1)), .int .i64 (vmaxF ((ls.getD j kv0).1)), .int .i64 (vpgF ((ls.getD j kv0).1)), .int .i64 (vslF ((ls.getD j kv0).1)), .bool (vhotF ((ls.getD j kv0).1)), .slice A40_14 ((vrowF ((ls.getD j kv0).1)).length) c40_14], .string ((vsK ls j)), .tuple #[.agg #[.int .i64 0, .int .i64 0, .slice A48_22 (([] : List ByteArray).length) c48_22], .int .i64 ((putErr 1 0 (pgI F (vsK ls) j) ((F : Int) + (j : Int)) (vsK ls j)))], .agg #[.int .i64 0, .int .i64 0, .slice A48_22 (([] : List ByteArray).length) c48_22], .int .i64 ((putErr 1 0 (pgI F (vsK ls) j) ((F : Int) + (j : Int)) (vsK ls j))), .int .i64 ((putErr 1 0 (pgI F (vsK ls) j) ((F : Int) + (j : Int)) (vsK ls j))), .bool true, (u10_.getD 30 undef), (u10_.getD 31 undef), (u10_.getD 32 undef), (u10_.getD 33 undef), (u10_.getD 34 undef)], hj, hj12, hks, hkl, hok, by first | omega | exact .inr (bad_pos hF10 (tbK_size _).1 hpe), rfl, hp25⟩
    have hs13p := hs13
    simp only [zB] at hs13p
    refine wp_cond_false (show Act.eval _ _ = .bool false from (congrArg Value.bool hs13)) ?_
    refine wp_exit ?_
    refine then_exit ?_
    refine then_exit ?_
    refine blk_eq ?_
    refine then_normal ?_
    have hp26 := hst12.pick [0, 1, 2, 3] (by decide) rfl
    exact ⟨j, PA, PC, KA, KC, ks, [.int .i64 ((j : Int)), (u10_.getD 0 undef), (u10_.getD 1 undef), (u10_.getD 2 undef), .int .i64 ((j : Int)), .slice LA ls.length lc, .int .i64 ((ls.length : Int)), .bool (decide ((j : Int) < (ls.length : Int))), .bool (decide ((j : Int) < (ls.length : Int))), mb (decide ((j : Int) < (ls.length : Int))) (.int .i64 ((j : Int))), mb (decide ((j : Int) < (ls.length : Int))) (.bool (decide ((j : Int) < 12))), .bool ((decide ((j : Int) < (ls.length : Int))) && (decide ((j : Int) < 12))), (u10_.getD 11 undef), (u10_.getD 12 undef), (u10_.getD 13 undef), (u10_.getD 14 undef), (u10_.getD 15 undef), (u10_.getD 16 undef), (u10_.getD 17 undef), (u10_.getD 18 undef), (u10_.getD 19 undef), (u10_.getD 20 undef), (u10_.getD 21 undef), (u10_.getD 22 undef), (u10_.getD 23 undef), (u10_.getD 24 undef), (u10_.getD 25 undef), (u10_.getD 26 undef), (u10_.getD 27 undef), (u10_.getD 28 undef), (u10_.getD 29 undef), (u10_.getD 30 undef), (u10_.getD 31 undef), (u10_.getD 32 undef), (u10_.getD 33 undef), (u10_.getD 34 undef)], hj, hj12, hks, hkl, hok, by first | omega | exact .inr (bad_pos hF10 (tbK_size _).1 hpe), rfl, hp26⟩
  rintro a6 W6 ⟨j, PA, PC, KA, KC, ks, u6_, hj, hj12, hks, hkl, hok, hne, rfl, hst6⟩
  refine wp_seq ?_
  refine wp_region_T [0, 1, 3, 7, 7, 15, 63] [[0], [1]] [] [] [.c 59 (.agg #[.int .i64 1, .int .i64 0, .slice PA ((pgI F (vsK ls) j).length) PC]), .c 60 (.tuple #[.string ((bytesF 1 0 (pgI F (vsK ls) j))), .int .i64 0]), .k 58 (.tuple #[.string ((bytesF 1 0 (pgI F (vsK ls) j))), .int .i64 0]), .k 61 (.string ((bytesF 1 0 (pgI F (vsK ls) j)))), .k 62 (.int .i64 0), .k 13 (.string ((bytesF 1 0 (pgI F (vsK ls) j)))), .k 14 (.int .i64 0)] (fun _ _ _ _ => True) [0, 1, 2, 3] [0, 1] [(13, 5, 2, 15), (43, 2, 1, 44), (0, 0, 2, 2), (0, 3, 2, 2)] hst6 ?_ ?_ ?_
  · exact fun _ _ _ _ _ _ _ _ _ _ h => h
  · refine ⟨?_, ?_, trivial⟩
    · exact s4 rfl (fun _ _ _ h => h) fun cx => run_loadB (n := 3) rfl (by kernel_rfl) (by kernel_rfl) (cx.out 6 rfl) (cx.blk (cx.init 0 _ rfl) rfl) (Nat.le_of_ble_eq_true rfl) rfl
    · exact sv_call rfl rfl rfl rfl rfl (fun _ _ _ h => h) fun ρ β W X cx => ⟨_, _, run_callF (args := #[.agg #[.int .i64 1, .int .i64 0, .slice PA ((pgI F (vsK ls) j).length) PC]]) rfl cx.sees rfl (by kernel_rfl) (map1 (cx.anc 0 rfl)), pg_bytes_ok (At.of_own (cx.row (cx.init 1 _ rfl) rfl)) hok⟩
  intro σ β X W27 hD hX hst27 fr hfr
  simp only [zM, exq 0 (hX 0 _ rfl), exq 1 (hX 1 _ rfl), exq 2 (hX 2 _ rfl), exq 3 (hX 3 _ rfl)] at hst27
  dsimp only [mgT, vals, List.take, List.drop, List.cons_append, List.nil_append] at hfr
  clear hX hD; subst hfr; clear σ β X
  refine then_normal ?_
  refine wp_seq ?_
  refine wp_region_T [0, 1, 3, 7, 7, 0, 47, 127] [[], [], [], [], [], [], [5]] [[], [4], [], [], [], [5], [6]] [[], [], [], [], [], [], [5]] [.k 64 (.string ((bytesF 1 0 (pgI F (vsK ls) j)))), .a 65, .a 63, .a 66, .c 67 (.int .i64 0), .a 15, .n, .k 16 (.int .i64 0)] (fun ix σ β X => match ix with | 0 => True | 1 => σ 65 = .tuple #[.agg #[.int .i64 1, .int .i64 0, .slice (sA (tg (tg (β 65) 0) 2)) ((pgI F (vsK ls) j).length) (sC (tg (tg (β 65) 0) 2))], .int .i64 0] ∧ X 4 = eO 9 1 (.slice (sA (tg (tg (β 65) 0) 2)) ((pgI F (vsK ls) j).length) (sC (tg (tg (β 65) 0) 2))) ((pgI F (vsK ls) j).length) ((pgI F (vsK ls) j).map Value.string) | 2 => σ 63 = .tuple #[.agg #[.int .i64 1, .int .i64 0, .slice (sA (tg (tg (β 65) 0) 2)) ((pgI F (vsK ls) j).length) (sC (tg (tg (β 65) 0) 2))], .int .i64 0] | 3 => σ 66 = .agg #[.int .i64 1, .int .i64 0, .slice (sA (tg (tg (β 65) 0) 2)) ((pgI F (vsK ls) j).length) (sC (tg (tg (β 65) 0) 2))] | 4 => True | 5 => σ 15 = .pointer (some ⟨(pb (β 15)), 0, none⟩) ∧ X 5 = eB (pb (β 15)) 94 #[.int .i64 0, .int .i64 0, .slice none 0 0] | 6 => X 6 = eB (pb (β 15)) 94 #[.int .i64 1, .int .i64 0, .slice (sA (tg (tg (β 65) 0) 2)) ((pgI F (vsK ls) j).length) (sC (tg (tg (β 65) 0) 2))] | _ => True) [0, 1, 2, 3, 4, 6] [1, 2, 3, 4, 5, 6] [(15, 5, 3, 17), (46, 2, 1, 47), (0, 0, 2, 2), (0, 3, 2, 2)] hst27 ?_ ?_ ?_
  · exact fun ix _ _ _ _ _ _ hs hb hx h => match ix, h with
    | 1, h => by dsimp only at h ⊢; rw [← hs 65 rfl, ← hb 65 rfl, ← hx 4 rfl]; exact h
    | 2, h => by dsimp only at h ⊢; rw [← hs 63 rfl, ← hb 65 rfl]; exact h
    | 3, h => by dsimp only at h ⊢; rw [← hs 66 rfl, ← hb 65 rfl]; exact h
    | 5, h => by dsimp only at h ⊢; rw [← hs 15 rfl, ← hb 15 rfl, ← hx 5 rfl]; exact h
    | 6, h => by dsimp only at h ⊢; rw [← hb 15 rfl, ← hb 65 rfl, ← hx 6 rfl]; exact h
    | 0, _ | 4, _ | _ + 7, _ => trivial
  · refine ⟨?_, ?_, ?_, ?_, ?_, ?_, trivial⟩
    · refine sv_any rfl rfl fun ρ β W X cx => ?_
      refine DoesU.call (run_callF (args := #[.string ((bytesF 1 0 (pgI F (vsK ls) j)))]) rfl cx.sees rfl (by kernel_rfl) (map1 (cx.anc 0 rfl))) ?_
      refine (pg_read_ok hok).mono ?_
      rintro e W1 ⟨A4, c4, rfl, ho, hx⟩
      refine ⟨_, rfl, post_call [eO 9 1 (.slice A4 ((pgI F (vsK ls) j).length) c4) ((pgI F (vsK ls) j).length) ((pgI F (vsK ls) j).map Value.string)] rfl rfl hx (one_new (eO_new ho)) (List.pairwise_singleton _ _) (fun σ β' X' hs hb hv hN => ?_)⟩
      have hv1 := (hv 65 rfl).1; have hv2 := (hv 65 rfl).2
      exact ⟨hv1.trans (by rw [hv2]; rfl), (by rw [hv2]; exact (List.cons.inj hN).1)⟩
    · exact sv rfl rfl rfl rfl rfl _ (fun _ _ _ h => h) (fun β β' h => by rw [h 65 (by decide)]) fun ρ β W X cx => run_move' rfl (dTn (cx.anc 1 rfl)).1
    · exact sv rfl rfl rfl rfl rfl _ (fun _ _ _ h => h) (fun β β' h => by rw [h 65 (by decide)]) fun ρ β W X cx => run_extract' rfl (dTn (cx.anc 2 rfl)) rfl
    · exact s4 rfl (fun _ _ _ h => h) fun cx => run_extract' rfl (dTn (cx.anc 2 rfl)) rfl
    · refine sv_any rfl rfl fun ρ β W X cx => ?_
      exact dv_alloc (cs := #[.int .i64 0, .int .i64 0, .slice none 0 0]) rfl (by kernel_rfl) rfl rfl (fun σ β' X' hs hb hv hx => ⟨hv, hx⟩)
    · refine sv_any rfl rfl fun ρ β W X cx => ?_
      exact dv_store (n := 3) rfl (dTn (cx.anc 5 rfl)).1 (dTn (cx.anc 3 rfl)) (by kernel_rfl) (by kernel_rfl) (by kernel_rfl) cx (dTn (cx.anc 5 rfl)).2 rfl (Nat.le_of_ble_eq_true rfl) (by kernel_rfl) rfl rfl rfl (fun σ β' X' hs hb hx => by rw [hb 15, hb 65]; exact hx)
  intro σ β X W28 hD hX hst28 fr hfr
  obtain ⟨A65_28, hu_A65_28⟩ : ∃ z, sA (tg (tg (β 65) 0) 2) = z := ⟨_, rfl⟩
  obtain ⟨c65_28, hu_c65_28⟩ : ∃ z, sC (tg (tg (β 65) 0) 2) = z := ⟨_, rfl⟩
  obtain ⟨B15_28, hu_B15_28⟩ : ∃ z, pb (β 15) = z := ⟨_, rfl⟩
  simp only [zM, exq 0 (hX 0 _ rfl), exq 1 (hX 1 _ rfl), exq 2 (hX 2 _ rfl), exq 3 (hX 3 _ rfl), exq 4 ((dTn (hD 1 lq)).2), exq 6 ((dTn (hD 6 lq))), hu_A65_28, hu_c65_28, hu_B15_28] at hst28
  dsimp only [mgT, vals, List.take, List.drop, List.cons_append, List.nil_append] at hfr
  simp only [ed 65 ((dTn (hD 1 lq)).1), ed 63 ((dTn (hD 2 lq))), ed 66 ((dTn (hD 3 lq))), ed 15 ((dTn (hD 5 lq)).1), hu_A65_28, hu_c65_28, hu_B15_28] at hfr
  clear hX hD hu_A65_28 hu_c65_28 hu_B15_28; subst hfr; clear σ β X
  refine then_normal ?_
  refine wp_seq ?_
  refine wp_seq ?_
  have hd30 : ((decide (0 < (ls.length : Int))) && ((j : Int) == 0)) = false := (by rcases hne with h_ | h_ <;> simp <;> omega)
  refine wp_region_P [0, 1, 3, 7, 15, 31, 63, 127, 255, 511, 1023, 2047, 4095, 8191, 16383, 32767] [.k 68 (.int .i64 0), .k 69 (.bool false), .k 70 (.bool false), .k 71 (.int .i64 0), .k 72 (.bool false), .k 73 (.bool false), .k 74 (.bool false), .k 75 (.slice LA ls.length lc), .k 76 (.int .i64 ((ls.length : Int))), .k 77 (.bool (decide (0 < (ls.length : Int)))), .k 78 (.bool (decide (0 < (ls.length : Int)))), .z 79 (decide (0 < (ls.length : Int))) (.slice KA j KC), .z 80 (decide (0 < (ls.length : Int))) (.int .i64 ((j : Int))), .z 81 (decide (0 < (ls.length : Int))) (.bool ((j : Int) == 0)), tAk 82 (decide (0 < (ls.length : Int))) ((j : Int) == 0) false hd30, .k 83 (.bool false)] [(68, 0, 16, 84)] hst28 fun W29 hst29 => ?_
  refine then_normal ?_
  refine wp_cond_false (show Act.eval _ _ = .bool false from rfl) ?_
  refine wp_skip ?_
  refine then_normal ?_
  refine wp_seq ?_
  refine wp_seq ?_
  refine wp_region_P [0] [.k 17 (.int .i64 0)] [(17, 0, 1, 18)] hst29 fun W31 hst31 => ?_
  refine then_normal ?_
  refine wp_block ?_
  refine wp_loopN (fun mz az W => ∃ m : Nat, ∃ u32_ : List Value, m ≤ j ∧ mz = j - m ∧ az = ⟨#[.slice LA ls.length lc, .int .i64 x, undef, undef, (u32_.getD 0 undef), .bool true, .pointer (some ⟨B6_3, 0, none⟩), .slice KA j KC, .int .i64 ((F : Int)), (u6_.getD 0 undef), (u6_.getD 1 undef), (u6_.getD 2 undef), (u6_.getD 3 undef), .string ((bytesF 1 0 (pgI F (vsK ls) j))), .int .i64 0, .pointer (some ⟨B15_28, 0, none⟩), .int .i64 0, .int .i64 ((m : Int)), (u32_.getD 1 undef), (u32_.getD 2 undef), .bool true, .agg #[.int .i64 1, .int .i64 0, .slice none 0 0], .slice ((some ⟨B22_4, 0, none⟩)) 0 0, .int .i64 x, .int .i64 (x % 65536), .int .i64 ((F : Int)), (u6_.getD 4 undef), (u6_.getD 5 undef), (u6_.getD 6 undef), (u6_.getD 7 undef), (u6_.getD 8 undef), (u6_.getD 9 undef), (u6_.getD 10 undef), (u6_.getD 11 undef), (u6_.getD 12 undef), (u6_.getD 13 undef), (u6_.getD 14 undef), (u6_.getD 15 undef), (u6_.getD 16 undef), (u6_.getD 17 undef), (u6_.getD 18 undef), (u6_.getD 19 undef), (u6_.getD 20 undef), (u6_.getD 21 undef), (u6_.getD 22 undef), (u6_.getD 23 undef), (u6_.getD 24 undef), (u6_.getD 25 undef), (u6_.getD 26 undef), (u6_.getD 27 undef), (u6_.getD 28 undef), (u6_.getD 29 undef), (u6_.getD 30 undef), (u6_.getD 31 undef), (u6_.getD 32 undef), (u6_.getD 33 undef), (u6_.getD 34 undef), (u6_.getD 35 undef), .tuple #[.string ((bytesF 1 0 (pgI F (vsK ls) j))), .int .i64 0], .agg #[.int .i64 1, .int .i64 0, .slice PA ((pgI F (vsK ls) j).length) PC], .tuple #[.string ((bytesF 1 0 (pgI F (vsK ls) j))), .int .i64 0], .string ((bytesF 1 0 (pgI F (vsK ls) j))), .int .i64 0, .tuple #[.agg #[.int .i64 1, .int .i64 0, .slice A65_28 ((pgI F (vsK ls) j).length) c65_28], .int .i64 0], .string ((bytesF 1 0 (pgI F (vsK ls) j))), .tuple #[.agg #[.int .i64 1, .int .i64 0, .slice A65_28 ((pgI F (vsK ls) j).length) c65_28], .int .i64 0], .agg #[.int .i64 1, .int .i64 0, .slice A65_28 ((pgI F (vsK ls) j).length) c65_28], .int .i64 0, .int .i64 0, .bool false, .bool false, .int .i64 0, .bool false, .bool false, .bool false, .slice LA ls.length lc, .int .i64 ((ls.length : Int)), .bool (decide (0 < (ls.length : Int))), .bool (decide (0 < (ls.length : Int))), mb (decide (0 < (ls.length : Int))) (.slice KA j KC), mb (decide (0 < (ls.length : Int))) (.int .i64 ((j : Int))), mb (decide (0 < (ls.length : Int))) (.bool ((j : Int) == 0)), .bool false, .bool false, (u32_.getD 3 undef), (u32_.getD 4 undef), (u32_.getD 5 undef), (u32_.getD 6 undef), (u32_.getD 7 undef), (u32_.getD 8 undef), (u32_.getD 9 undef), (u32_.getD 10 undef), (u32_.getD 11 undef), (u32_.getD 12 undef), (u32_.getD 13 undef), (u32_.getD 14 undef), (u32_.getD 15 undef), (u32_.getD 16 undef), (u32_.getD 17 undef), (u32_.getD 18 undef), (u32_.getD 19 undef), (u32_.getD 20 undef), (u32_.getD 21 undef), (u32_.getD 22 undef), (u32_.getD 23 undef), (u32_.getD 24 undef), (u32_.getD 25 undef), (u32_.getD 26 undef), (u32_.getD 27 undef), (u32_.getD 28 undef), (u32_.getD 29 undef), (u32_.getD 30 undef), (u32_.getD 31 undef), (u32_.getD 32 undef), (u32_.getD 33 undef), (u32_.getD 34 undef), (u32_.getD 35 undef), (u32_.getD 36 undef), (u32_.getD 37 undef), undef], []⟩ ∧ St w [] [eB B6_3 94 #[.int .i64 1, .int .i64 0, .slice PA ((pgI F (vsK ls) j).length) PC], eO 9 1 (.slice PA ((pgI F (vsK ls) j).length) PC) ((pgI F (vsK ls) j).length) ((pgI F (vsK ls) j).map Value.string), eO 27 6 (.slice KA j KC) j (ks.flatMap cellsK), eK ks, eO 9 1 (.slice A65_28 ((pgI F (vsK ls) j).length) c65_28) ((pgI F (vsK ls) j).length) ((pgI F (vsK ls) j).map Value.string), eB B15_28 94 #[.int .i64 1, .int .i64 0, .slice A65_28 ((pgI F (vsK ls) j).length) c65_28]] W) (j - 0) ?_ ?_
  · -- the loop begins
    have hp33 := hst31.pick [0, 1, 2, 3, 4, 5] (by decide) rfl
    exact ⟨0, [.bool false, undef, undef, undef, undef, undef, undef, undef, undef, undef, undef, undef, undef, undef, undef, undef, undef, undef, undef, undef, undef, undef, undef, undef, undef, undef, undef, undef, undef, undef, undef, undef, undef, undef, undef, undef, undef, undef], Nat.zero_le _, rfl, rfl, hp33⟩
  rintro n32 a32 W32 ⟨m, u32_, hm, rfl, rfl, hst32⟩
  refine wp_seq ?_
  refine wp_seq ?_
  refine wp_region_P [0, 0, 2, 7] [.k 84 (.int .i64 ((m : Int))), .k 85 (.slice KA j KC), .k 86 (.int .i64 ((j : Int))), .k 87 (.bool (decide ((m : Int) < (j : Int))))] [(84, 0, 4, 88)] hst32 fun W34 hst34 => ?_
  refine then_normal ?_
  rcases Bool.eq_false_or_eq_true (decide ((m : Int) < (j : Int))) with hs35 | hs35
  · skip
    have hs35p : (m : Int) < (j : Int) := by simpa using hs35
    refine wp_cond_true (show Act.eval _ _ = .bool true from (congrArg Value.bool hs35)) ?_
    refine wp_skip ?_
    refine then_normal ?_
    refine wp_seq ?_
    refine wp_block ?_
    refine wp_seq ?_
    refine wp_seq ?_
    have hmj : m < j := by omega
    have hlm : F + m < (pgI F (vsK ls) j).length := pg_len hmj (by have := (tbK_size (ls.getD m kv0)).2; show 0 < (tbK (ls.getD m kv0)).size; omega)
    have hr20 := pg_right hok
    have hkm := kept_fst hj hks hkl hmj
    have hv20 := vrow_le (ls.getD m kv0).1
    have hv21 := vrow_le (ks.getD m kv0).1
    have hd37 : (decide (((pgI F (vsK ls) j).length : Int) ≤ (F : Int) + (m : Int))) = false := (by rw [decide_eq_false_iff_not]; omega)
    refine wp_region_T [0, 0, 3, 0, 8, 24, 63] [[], [], [], [], [5]] [] [] [.k 90 (.int .i64 ((F : Int))), .k 91 (.int .i64 ((m : Int))), tI 92 ((F : Int) + (m : Int)) (by omega), .k 93 (.pointer (some ⟨B15_28, 2, none⟩)), .c 94 (.slice A65_28 ((pgI F (vsK ls) j).length) c65_28), .k 95 (.int .i64 (((pgI F (vsK ls) j).length : Int))), .e 96 (.bool (decide (((pgI F (vsK ls) j).length : Int) ≤ (F : Int) + (m : Int)))) (.bool false) (congrArg Value.bool hd37)] (fun _ _ _ _ => True) [0, 1, 2, 3, 4, 5] [4] [(90, 0, 7, 97)] hst34 ?_ ?_ ?_
    · exact fun _ _ _ _ _ _ _ _ _ _ h => h
    · refine ⟨?_, trivial⟩
      · exact s4 rfl (fun _ _ _ h => h) fun cx => run_load1 rfl (by kernel_rfl) (cx.anc 3 rfl) ((cx.blk (cx.init 5 _ rfl) rfl).cell 2)
    intro σ β X W36 hD hX hst36 fr hfr
    simp only [zM, exq 0 (hX 0 _ rfl), exq 1 (hX 1 _ rfl), exq 2 (hX 2 _ rfl), exq 3 (hX 3 _ rfl), exq 4 (hX 4 _ rfl), exq 5 (hX 5 _ rfl)] at hst36
    dsimp only [mgT, vals, List.take, List.drop, List.cons_append, List.nil_append] at hfr
    clear hX hD; subst hfr; clear σ β X
    refine then_normal ?_
    refine wp_cond_false (show Act.eval _ _ = .bool false from rfl) ?_
    refine wp_skip ?_
    refine then_normal ?_
    refine wp_seq ?_
    refine wp_region_T [0, 1, 0, 0, 12, 31, 63, 127, 255, 511, 511, 0, 3071, 8191] [[], [5], [], [], [], [4], [4], [], [], [], [], [], [7]] [[], [], [], [], [], [], [], [6], [], [], [], [7], [8]] [[], [], [], [], [], [], [], [], [], [], [], [], [7]] [.k 98 (.pointer (some ⟨B15_28, 2, none⟩)), .c 99 (.slice A65_28 ((pgI F (vsK ls) j).length) c65_28), .k 100 (.int .i64 ((F : Int))), .k 101 (.int .i64 ((m : Int))), tI 102 ((F : Int) + (m : Int)) (by omega), .c 103 (.pointer (some ((ad A65_28).add (F + m)))), .c 104 (.string (((pgI F (vsK ls) j)).getD (F + m) ByteArray.empty)), .a 105, .a 97, .a 106, .c 107 (.int .i64 0), .a 18, .n, .k 19 (.int .i64 0)] (fun ix σ β X => match ix with | 0 => True | 1 => True | 2 => True | 3 => True | 4 => True | 5 => True | 6 => True | 7 => σ 105 = .tuple #[.agg #[.int .i64 (vminF (ls.getD m kv0).1), .int .i64 (vmaxF (ls.getD m kv0).1), .int .i64 (vpgF (ls.getD m kv0).1), .int .i64 (vslF (ls.getD m kv0).1), .bool (vhotF (ls.getD m kv0).1), .slice (sA (tg (tg (β 105) 0) 5)) ((vrowF (ls.getD m kv0).1).length) (sC (tg (tg (β 105) 0) 5))], .int .i64 0] ∧ X 6 = eO 103 3 (.slice (sA (tg (tg (β 105) 0) 5)) ((vrowF (ls.getD m kv0).1).length) (sC (tg (tg (β 105) 0) 5))) ((vrowF (ls.getD m kv0).1).length) (flatR (vrowF (ls.getD m kv0).1)) | 8 => σ 97 = .tuple #[.agg #[.int .i64 (vminF (ls.getD m kv0).1), .int .i64 (vmaxF (ls.getD m kv0).1), .int .i64 (vpgF (ls.getD m kv0).1), .int .i64 (vslF (ls.getD m kv0).1), .bool (vhotF (ls.getD m kv0).1), .slice (sA (tg (tg (β 105) 0) 5)) ((vrowF (ls.getD m kv0).1).length) (sC (tg (tg (β 105) 0) 5))], .int .i64 0] | 9 => σ 106 = .agg #[.int .i64 (vminF (ls.getD m kv0).1), .int .i64 (vmaxF (ls.getD m kv0).1), .int .i64 (vpgF (ls.getD m kv0).1), .int .i64 (vslF (ls.getD m kv0).1), .bool (vhotF (ls.getD m kv0).1), .slice (sA (tg (tg (β 105) 0) 5)) ((vrowF (ls.getD m kv0).1).length) (sC (tg (tg (β 105) 0) 5))] | 10 => True | 11 => σ 18 = .pointer (some ⟨(pb (β 18)), 0, none⟩) ∧ X 7 = eB (pb (β 18)) 27 #[.int .i64 0, .int .i64 0, .int .i64 0, .int .i64 0, .bool false, .slice none 0 0] | 12 => X 8 = eB (pb (β 18)) 27 #[.int .i64 (vminF (ls.getD m kv0).1), .int .i64 (vmaxF (ls.getD m kv0).1), .int .i64 (vpgF (ls.getD m kv0).1), .int .i64 (vslF (ls.getD m kv0).1), .bool (vhotF (ls.getD m kv0).1), .slice (sA (tg (tg (β 105) 0) 5)) ((vrowF (ls.getD m kv0).1).length) (sC (tg (tg (β 105) 0) 5))] | _ => True) [0, 1, 2, 3, 4, 5, 6, 8] [1, 5, 6, 7, 8, 9, 10, 11, 12] [(18, 11, 3, 20), (77, 8, 1, 78), (0, 0, 8, 8), (0, 9, 2, 2)] hst36 ?_ ?_ ?_
    · exact fun ix _ _ _ _ _ _ hs hb hx h => match ix, h with
      | 7, h => by dsimp only at h ⊢; rw [← hs 105 rfl, ← hb 105 rfl, ← hx 6 rfl]; exact h
      | 8, h => by dsimp only at h ⊢; rw [← hs 97 rfl, ← hb 105 rfl]; exact h
      | 9, h => by dsimp only at h ⊢; rw [← hs 106 rfl, ← hb 105 rfl]; exact h
      | 11, h => by dsimp only at h ⊢; rw [← hs 18 rfl, ← hb 18 rfl, ← hx 7 rfl]; exact h
      | 12, h => by dsimp only at h ⊢; rw [← hb 18 rfl, ← hb 105 rfl, ← hx 8 rfl]; exact h
      | 0, _ | 1, _ | 2, _ | 3, _ | 4, _ | 5, _ | 6, _ | 10, _ | _ + 13, _ => trivial
    · refine ⟨?_, ?_, ?_, ?_, ?_, ?_, ?_, ?_, ?_, trivial⟩
      · exact s4 rfl (fun _ _ _ h => h) fun cx => run_load1 rfl (by kernel_rfl) (cx.anc 0 rfl) ((cx.blk (cx.init 5 _ rfl) rfl).cell 2)
      · exact s4 rfl (fun _ _ _ h => h) fun cx => run_indexSl (e := 9) (m := F + m) rfl (by kernel_rfl) (by kernel_rfl) (cx.anc 1 rfl) (cx.anc 4 rfl) (by omega) (by omega) (At.of_own (cx.row (cx.init 4 _ rfl) rfl)) (by simp)
      · exact s4 rfl (fun _ _ _ h => h) fun cx => run_load1 rfl (by kernel_rfl) (cx.anc 5 rfl) (At.cellAd (At.of_own (cx.row (cx.init 4 _ rfl) rfl)) (getD_str (by omega)))
      · refine sv_any rfl rfl fun ρ β W X cx => ?_
        refine DoesU.call (run_callF (args := #[.string (((pgI F (vsK ls) j)).getD (F + m) ByteArray.empty)]) rfl cx.sees rfl (by kernel_rfl) (map1 (cx.anc 6 rfl))) ?_
        refine (tread_at hmj _ (hN.ext cx.upd.to_ext)).mono ?_
        rintro e W1 ⟨A4, c4, rfl, ho_, hx⟩
        refine ⟨_, rfl, post_call [eO 103 3 (.slice A4 ((vrowF (ls.getD m kv0).1).length) c4) ((vrowF (ls.getD m kv0).1).length) (flatR (vrowF (ls.getD m kv0).1))] rfl rfl hx (one_new (eO_new ho_)) (List.pairwise_singleton _ _) (fun σ β' X' hs hb hv hN => ?_)⟩
        have hv1 := (hv 105 rfl).1; have hv2 := (hv 105 rfl).2
        exact ⟨hv1.trans (by rw [hv2]; rfl), (by rw [hv2]; exact (List.cons.inj hN).1)⟩
      · exact sv rfl rfl rfl rfl rfl _ (fun _ _ _ h => h) (fun β β' h => by rw [h 105 (by decide)]) fun ρ β W X cx => run_move' rfl (dTn (cx.anc 7 rfl)).1
      · exact sv rfl rfl rfl rfl rfl _ (fun _ _ _ h => h) (fun β β' h => by rw [h 105 (by decide)]) fun ρ β W X cx => run_extract' rfl (dTn (cx.anc 8 rfl)) rfl
      · exact s4 rfl (fun _ _ _ h => h) fun cx => run_extract' rfl (dTn (cx.anc 8 rfl)) rfl
      · refine sv_any rfl rfl fun ρ β W X cx => ?_
        exact dv_alloc (cs := #[.int .i64 0, .int .i64 0, .int .i64 0, .int .i64 0, .bool false, .slice none 0 0]) rfl (by kernel_rfl) rfl rfl (fun σ β' X' hs hb hv hx => ⟨hv, hx⟩)
      · refine sv_any rfl rfl fun ρ β W X cx => ?_
        exact dv_store (n := 6) rfl (dTn (cx.anc 11 rfl)).1 (dTn (cx.anc 9 rfl)) (by kernel_rfl) (by kernel_rfl) (by kernel_rfl) cx (dTn (cx.anc 11 rfl)).2 rfl (Nat.le_of_ble_eq_true rfl) (by kernel_rfl) rfl rfl rfl (fun σ β' X' hs hb hx => by rw [hb 18, hb 105]; exact hx)
    intro σ β X W38 hD hX hst38 fr hfr
    obtain ⟨A105_38, hu_A105_38⟩ : ∃ z, sA (tg (tg (β 105) 0) 5) = z := ⟨_, rfl⟩
    obtain ⟨c105_38, hu_c105_38⟩ : ∃ z, sC (tg (tg (β 105) 0) 5) = z := ⟨_, rfl⟩
    obtain ⟨B18_38, hu_B18_38⟩ : ∃ z, pb (β 18) = z := ⟨_, rfl⟩
    simp only [zM, exq 0 (hX 0 _ rfl), exq 1 (hX 1 _ rfl), exq 2 (hX 2 _ rfl), exq 3 (hX 3 _ rfl), exq 4 (hX 4 _ rfl), exq 5 (hX 5 _ rfl), exq 6 ((dTn (hD 7 lq)).2), exq 8 ((dTn (hD 12 lq))), hu_A105_38, hu_c105_38, hu_B18_38] at hst38
    dsimp only [mgT, vals, List.take, List.drop, List.cons_append, List.nil_append] at hfr
    simp only [ed 105 ((dTn (hD 7 lq)).1), ed 97 ((dTn (hD 8 lq))), ed 106 ((dTn (hD 9 lq))), ed 18 ((dTn (hD 11 lq)).1), hu_A105_38, hu_c105_38, hu_B18_38] at hfr
    clear hX hD hu_A105_38 hu_c105_38 hu_B18_38; subst hfr; clear σ β X
    refine then_normal ?_
    refine wp_seq ?_
    have hd40 : (sameV (vminF (ls.getD m kv0).1) (vmaxF (ls.getD m kv0).1) (vpgF (ls.getD m kv0).1) (vslF (ls.getD m kv0).1) (vhotF (ls.getD m kv0).1) (vrowF (ls.getD m kv0).1) (vminF (ks.getD m kv0).1) (vmaxF (ks.getD m kv0).1) (vpgF (ks.getD m kv0).1) (vslF (ks.getD m kv0).1) (vhotF (ks.getD m kv0).1) (vrowF (ks.getD m kv0).1)) = true := sameV_kept hkm
    refine wp_region_T [0, 1, 3, 7, 7, 7, 55, 119, 255, 511, 1023] [[], [], [], [7], [], [], [2], [2], [6, 3]] [] [] [.k 108 (.int .i64 0), .k 109 (.bool false), .k 110 (.bool false), .c 111 (.agg #[.int .i64 (vminF (ls.getD m kv0).1), .int .i64 (vmaxF (ls.getD m kv0).1), .int .i64 (vpgF (ls.getD m kv0).1), .int .i64 (vslF (ls.getD m kv0).1), .bool (vhotF (ls.getD m kv0).1), .slice A105_38 ((vrowF (ls.getD m kv0).1).length) c105_38]), .k 112 (.slice KA j KC), .k 113 (.int .i64 ((m : Int))), .c 114 (.pointer (some ((ad KA).add (m * 6)))), .c 115 (.agg #[.int .i64 (vminF (ks.getD m kv0).1), .int .i64 (vmaxF (ks.getD m kv0).1), .int .i64 (vpgF (ks.getD m kv0).1), .int .i64 (vslF (ks.getD m kv0).1), .bool (vhotF (ks.getD m kv0).1), .slice ((ks.getD m kv0).2.1) ((vrowF (ks.getD m kv0).1).length) ((ks.getD m kv0).2.2)]), .c 116 (.bool true), .k 117 (.bool false), .k 118 (.bool false)] (fun _ _ _ _ => True) [0, 1, 2, 3, 4, 5, 6, 7] [3, 6, 7, 8] [(108, 0, 11, 119)] hst38 ?_ ?_ ?_
    · exact fun _ _ _ _ _ _ _ _ _ _ h => h
    · refine ⟨?_, ?_, ?_, ?_, trivial⟩
      · exact s5 rfl (fun _ _ _ h => h) (fun cx => (cx.anc 2 rfl)) fun cx => run_loadB (n := 6) rfl (by kernel_rfl) (by kernel_rfl) (cx.out 18 rfl) (cx.blk (cx.init 7 _ rfl) rfl) (Nat.le_of_ble_eq_true rfl) rfl
      · exact s5 rfl (fun _ _ _ h => h) (fun cx => (cx.anc 2 rfl)) fun cx => run_indexSlM (e := 27) (m := m) (sz := 6) rfl (by kernel_rfl) (by kernel_rfl) (cx.anc 4 rfl) (cx.anc 5 rfl) (by omega) (by omega) (At.of_ownN (cx.row (cx.init 2 _ rfl) rfl)) (by have h_ := flatLen (f := cellsK) (sz := 6) cellsK_len ks; show 0 < (List.flatMap cellsK ks).length; omega)
      · exact s5 rfl (fun _ _ _ h => h) (fun cx => (cx.anc 2 rfl)) fun cx => run_loadElt (f := cellsK) (m := m) (sz := 6) (off := 0) (n := 6) rfl (by kernel_rfl) (by kernel_rfl) (cx.anc 6 rfl) rfl cellsK_len (At.of_ownN (cx.row (cx.init 2 _ rfl) rfl)) (getD_some (ts := ks) (m := m) kv0 (by omega)) (fun k hk => match k, hk with | 0, _ => rfl | 1, _ => rfl | 2, _ => rfl | 3, _ => rfl | 4, _ => rfl | 5, _ => rfl | k + 6, hk => absurd hk (by omega))
      · exact sv_call_on rfl rfl rfl rfl rfl rfl (fun _ _ _ h => h.trans (congrArg Value.bool hd40)) (fun _ _ _ _ cx => (cx.anc 2 rfl)) fun ρ β W X cx => ⟨_, _, run_callF (args := #[.agg #[.int .i64 (vminF (ls.getD m kv0).1), .int .i64 (vmaxF (ls.getD m kv0).1), .int .i64 (vpgF (ls.getD m kv0).1), .int .i64 (vslF (ls.getD m kv0).1), .bool (vhotF (ls.getD m kv0).1), .slice A105_38 ((vrowF (ls.getD m kv0).1).length) c105_38], .agg #[.int .i64 (vminF (ks.getD m kv0).1), .int .i64 (vmaxF (ks.getD m kv0).1), .int .i64 (vpgF (ks.getD m kv0).1), .int .i64 (vslF (ks.getD m kv0).1), .bool (vhotF (ks.getD m kv0).1), .slice ((ks.getD m kv0).2.1) ((vrowF (ks.getD m kv0).1).length) ((ks.getD m kv0).2.2)]]) rfl cx.sees rfl (by kernel_rfl) (map2 (cx.anc 3 rfl) (cx.anc 7 rfl)), vsame_any _ _ _ _ _ _ _ (vrowF (ls.getD m kv0).1) _ _ _ _ _ _ _ (vrowF (ks.getD m kv0).1) _ (At.of_ownN (cx.row (cx.init 6 _ rfl) rfl)) (At.of_ownN (St.kept (CtxV.hold cx (cx.init 3 _ rfl) rfl) (by omega))) (by first | omega | decide | (simp; done) | (simp; omega)) (by first | omega | decide | (simp; done) | (simp; omega))⟩
    intro σ β X W39 hD hX hst39 fr hfr
    simp only [zM, exq 0 (hX 0 _ rfl), exq 1 (hX 1 _ rfl), exq 2 (hX 2 _ rfl), exq 3 (hX 3 _ rfl), exq 4 (hX 4 _ rfl), exq 5 (hX 5 _ rfl), exq 6 (hX 6 _ rfl), exq 7 (hX 7 _ rfl)] at hst39
    dsimp only [mgT, vals, List.take, List.drop, List.cons_append, List.nil_append] at hfr
    clear hX hD; subst hfr; clear σ β X
    refine then_normal ?_
    refine wp_cond_false (show Act.eval _ _ = .bool false from rfl) ?_
    refine wp_skip ?_
    refine blk_normal ?_
    refine then_normal ?_
    refine wp_region_P [0, 1, 3] [.k 88 (.int .i64 ((m : Int))), tI 89 ((m : Int) + 1) (by omega), .k 17 (.int .i64 ((m : Int) + 1))] [(17, 2, 1, 18), (70, 0, 2, 72)] hst39 fun W41 hst41 => ?_
    refine then_normal ?_
    refine ⟨j - ((m + 1)), by omega, ?_⟩
    have hp42 := hst41.pick [0, 1, 2, 3, 4, 5] (by decide) rfl
    exact ⟨(m + 1), [(u32_.getD 0 undef), .pointer (some ⟨B18_38, 0, none⟩), .int .i64 0, .int .i64 ((m : Int)), .slice KA j KC, .int .i64 ((j : Int)), .bool (decide ((m : Int) < (j : Int))), .int .i64 ((m : Int)), .int .i64 ((m : Int) + 1), .int .i64 ((F : Int)), .int .i64 ((m : Int)), .int .i64 ((F : Int) + (m : Int)), .pointer (some ⟨B15_28, 2, none⟩), .slice A65_28 ((pgI F (vsK ls) j).length) c65_28, .int .i64 (((pgI F (vsK ls) j).length : Int)), .bool false, .tuple #[.agg #[.int .i64 (vminF (ls.getD m kv0).1), .int .i64 (vmaxF (ls.getD m kv0).1), .int .i64 (vpgF (ls.getD m kv0).1), .int .i64 (vslF (ls.getD m kv0).1), .bool (vhotF (ls.getD m kv0).1), .slice A105_38 ((vrowF (ls.getD m kv0).1).length) c105_38], .int .i64 0], .pointer (some ⟨B15_28, 2, none⟩), .slice A65_28 ((pgI F (vsK ls) j).length) c65_28, .int .i64 ((F : Int)), .int .i64 ((m : Int)), .int .i64 ((F : Int) + (m : Int)), .pointer (some ((ad A65_28).add (F + m))), .string (((pgI F (vsK ls) j)).getD (F + m) ByteArray.empty), .tuple #[.agg #[.int .i64 (vminF (ls.getD m kv0).1), .int .i64 (vmaxF (ls.getD m kv0).1), .int .i64 (vpgF (ls.getD m kv0).1), .int .i64 (vslF (ls.getD m kv0).1), .bool (vhotF (ls.getD m kv0).1), .slice A105_38 ((vrowF (ls.getD m kv0).1).length) c105_38], .int .i64 0], .agg #[.int .i64 (vminF (ls.getD m kv0).1), .int .i64 (vmaxF (ls.getD m kv0).1), .int .i64 (vpgF (ls.getD m kv0).1), .int .i64 (vslF (ls.getD m kv0).1), .bool (vhotF (ls.getD m kv0).1), .slice A105_38 ((vrowF (ls.getD m kv0).1).length) c105_38], .int .i64 0, .int .i64 0, .bool false, .bool false, .agg #[.int .i64 (vminF (ls.getD m kv0).1), .int .i64 (vmaxF (ls.getD m kv0).1), .int .i64 (vpgF (ls.getD m kv0).1), .int .i64 (vslF (ls.getD m kv0).1), .bool (vhotF (ls.getD m kv0).1), .slice A105_38 ((vrowF (ls.getD m kv0).1).length) c105_38], .slice KA j KC, .int .i64 ((m : Int)), .pointer (some ((ad KA).add (m * 6))), .agg #[.int .i64 (vminF (ks.getD m kv0).1), .int .i64 (vmaxF (ks.getD m kv0).1), .int .i64 (vpgF (ks.getD m kv0).1), .int .i64 (vslF (ks.getD m kv0).1), .bool (vhotF (ks.getD m kv0).1), .slice ((ks.getD m kv0).2.1) ((vrowF (ks.getD m kv0).1).length) ((ks.getD m kv0).2.2)], .bool true, .bool false, .bool false], by omega, rfl, rfl, hp42⟩
  have hs35p : ¬ ((m : Int) < (j : Int)) := by simpa using hs35
  refine wp_cond_false (show Act.eval _ _ = .bool false from (congrArg Value.bool hs35)) ?_
  refine wp_exit ?_
  refine then_exit ?_
  refine then_exit ?_
  refine blk_eq ?_
  refine then_normal ?_
  refine wp_seq ?_
  refine wp_region_P [0, 1] [.k 119 (.bool true), .k 4 (.bool true)] [(4, 1, 1, 5), (114, 0, 1, 115)] hst34 fun W43 hst43 => ?_
  refine then_normal ?_
  refine wp_ret ?_
  refine bodyPost_ret (v := .bool true) (results_tmp Tryd.results11 rfl) rfl ?_
  exact Ret.of rfl hst43.ext

end Go.Proofs.YtfjpglohcppjeaaDoor
