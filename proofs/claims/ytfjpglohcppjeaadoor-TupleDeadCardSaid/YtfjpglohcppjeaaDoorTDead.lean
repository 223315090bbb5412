/- the walk of TupleDead. -/
import Derived.Test.YtfjpglohcppjeaaDoorTDeadP
namespace Go.Proofs.YtfjpglohcppjeaaDoor
open Go.RowKit
set_option linter.unusedVariables false
set_option linter.unusedSimpArgs false

def nminF (f : Int) (s : List Int) : Int := if 2 < vminF s then 3 + (f + vminF s % 30) % 125 else vminF s
def nmaxF (f : Int) (s : List Int) : Int := if 0 < vmaxF s then 3 + (f + vmaxF s % 30) % 125 else vmaxF s
theorem vmin_bd (s : List Int) : 2 ≤ vminF s ∧ vminF s < 128 := by rw [vminF]; omega
theorem vmax_bd (s : List Int) : vmaxF s = 0 ∨ 3 ≤ vmaxF s ∧ vmaxF s < 128 := by rw [vmaxF]; split <;> omega
def NearPost (f : Int) (s : List Int) (w : World) (e : Ending) (w' : World) : Prop := ∃ A c, e = .returned (.agg #[.int .i64 (nminF f s), .int .i64 (nmaxF f s), .int .i64 (vpgF s), .int .i64 (vslF s), .bool (vhotF s), .slice A (vrowF s).length c]) ∧
  w'.ownsRow w.heap.size 103 3 (.slice A (vrowF s).length c) (vrowF s).length (flatR (vrowF s)) ∧ Ext w w'
theorem NearPost.of {f : Int} {s : List Int} {w w' : World} {a b : Int} {A : Option Addr} {c : Nat} (ha : a = nminF f s) (hb : b = nmaxF f s)
    (ho' : w'.ownsRow w.heap.size 103 3 (.slice A (vrowF s).length c) (vrowF s).length (flatR (vrowF s))) (hx : Ext w w') : NearPost f s w (.returned (.agg #[.int .i64 a, .int .i64 b, .int .i64 (vpgF s), .int .i64 (vslF s), .bool (vhotF s), .slice A (vrowF s).length c])) w' := by
  subst ha hb
  exact ⟨A, c, rfl, ho', hx⟩
def fitsF (hi hz : Int) (ls : List Int) : Bool := !(decide (hz < 3) || decide (127 < hz) || decide (hi < 3) || decide (127 < hi) || beforeF hi hz || decide (30 < ageF hz hi)) && ls.all fun y => !beforeF y hz
theorem fits_step {ls : List Int} {hz : Int} {k : Nat} (h : k < ls.length) (ha : ((ls.take k).all fun y => !beforeF y hz) = true) (hb : beforeF (ls.getD k 0) hz = false) : ((ls.take (k + 1)).all fun y => !beforeF y hz) = true := by
  rw [List.take_add_one, List.getElem?_eq_getElem h, List.all_append, ha]
  rw [List.getD_eq_getElem?_getD, List.getElem?_eq_getElem h] at hb
  simpa using hb
theorem fits_bad {ls : List Int} {hz : Int} {k : Nat} (h : k < ls.length) (hb : beforeF (ls.getD k 0) hz = true) : (ls.all fun y => !beforeF y hz) = false := by
  rw [List.all_eq_false]
  refine ⟨ls.getD k 0, ?_, by rw [hb]; decide⟩
  rw [List.getD_eq_getElem?_getD, List.getElem?_eq_getElem h]
  exact List.getElem_mem h
theorem fits_all {hi hz : Int} {ls : List Int} (h : fitsF hi hz ls = true) : ∀ y ∈ ls, beforeF y hz = false := by
  intro y hy
  rw [fitsF, Bool.and_eq_true] at h
  have := List.all_eq_true.1 h.2 y hy
  simpa using this
theorem near_min {f d hz hi r : Int} {s : List Int} (hf : 0 ≤ f ∧ f < 128) (hr : 0 ≤ r ∧ r < 31) (hd : 0 ≤ d ∧ d < 30) (hh : hz = 3 + (f + r) % 125) (hhi : hi = turnF hz d) (hb : beforeF (nminF f s) hz = true) : beforeF (nminF f s) hi = true := by
  have h1 := vmin_bd s
  by_cases h2 : 2 < vminF s
  · exact D_before hf (i := vminF s % 30) (by omega) hr hd (by rw [nminF, if_pos h2]) hh hhi hb
  · have e : nminF f s = 2 := by rw [nminF, if_neg h2]; omega
    have hz3 : onF hz = true := onF_iff.2 (by omega)
    rw [e, beforeF, if_pos rfl, hhi, T_on (by omega), hz3]
theorem near_max {f d hz hi r : Int} {s : List Int} (hf : 0 ≤ f ∧ f < 128) (hr : 0 ≤ r ∧ r < 31) (hd : 0 ≤ d ∧ d < 30) (hh : hz = 3 + (f + r) % 125) (hhi : hi = turnF hz d) (hb : beforeF (nmaxF f s) hz = true) : beforeF (nmaxF f s) hi = true := by
  have h1 := vmax_bd s
  by_cases h2 : 0 < vmaxF s
  · exact D_before hf (i := vmaxF s % 30) (by omega) hr hd (by rw [nmaxF, if_pos h2]) hh hhi hb
  · have e : nmaxF f s = 0 := by rw [nmaxF, if_neg h2]; omega
    rw [e, beforeF, if_neg (by decide), show onF 0 = false by decide] at hb
    simp at hb
theorem near_ne2 (f : Int) (s : List Int) : nmaxF f s ≠ 2 := by
  have h1 := vmax_bd s
  rw [nmaxF]; split <;> omega
theorem stand_2 (bs : List Int) : standF bs 2 = 2 := by rw [standF, if_pos rfl]
theorem D_same1 {g : Int → Int} {hz a b n1 n2 : Int} {ho : Bool} {rs : List Val} :
    sameV (fzA hz g (fzA hz g a)) (if fzX g (if fzX g b then 0 else b) then 0 else (if fzX g b then 0 else b)) (if fzX g (if fzX g b then 0 else b) then -1 else (if fzX g b then -1 else n1)) (if fzX g (if fzX g b then 0 else b) then 0 else (if fzX g b then 0 else n2)) ho rs
      (fzA hz g a) (if fzX g b then 0 else b) (if fzX g b then -1 else n1) (if fzX g b then 0 else n2) ho rs = true := by
  have h := D_more (g := g) (hz := hz) (a := a) (b := b)
  rw [Bool.or_eq_false_iff] at h
  have e1 : oldF g hz (fzA hz g a) = false := h.1
  have e3 : fzA hz g (fzA hz g a) = fzA hz g a := by
    show (if oldF g hz (fzA hz g a) = true then 2 else fzA hz g a) = fzA hz g a
    rw [e1]; rfl
  rw [e3, h.2]
  simp [sameV]
theorem D_same2 {g : Int → Int} {hz a b n1 n2 : Int} {ho : Bool} {rs : List Val} (h : (oldF g hz a || fzX g b) = false) :
    sameV (fzA hz g a) (if fzX g b then 0 else b) (if fzX g b then -1 else n1) (if fzX g b then 0 else n2) ho rs a b n1 n2 ho rs = true := by
  rw [Bool.or_eq_false_iff] at h
  have e3 : fzA hz g a = a := by
    show (if oldF g hz a = true then 2 else a) = a
    rw [h.1]; rfl
  rw [e3, h.2]
  simp [sameV]
theorem D_last {g : Int → Int} {hz a b n1 n2 : Int} {ho : Bool} {rs : List Val} :
    ((oldF g hz a || fzX g b) || sameV (fzA hz g a) (if fzX g b then 0 else b) (if fzX g b then -1 else n1) (if fzX g b then 0 else n2) ho rs a b n1 n2 ho rs) = true := by
  cases h : (oldF g hz a || fzX g b) with
  | true => rfl
  | false => rw [D_same2 h]; rfl
set_option maxRecDepth 100000 in
set_option maxHeartbeats 2000000 in
theorem near_any (LA : Option Addr) (lc : Nat) (s : List Int) (f : Int) (w : World) (hA : At w LA (s.map (Value.int .i64))) (hll : s.length ≤ 9223372036854775807) (hf : 0 ≤ f ∧ f < 128) :
    Calls Tryd.prog 38 #[.slice LA s.length lc, .int .i64 f] w (NearPost f s w) := by
  have hv1 := vmin_bd s
  have hv2 := vmax_bd s
  go_enter Tryd.func38, Tryd.ntmps38
  have hst0 := St.start w
  refine wp_seq ?_
  refine wp_region_T [0] [] [[0]] [] [.a 4] (fun ix σ β X => match ix with | 0 => σ 4 = .pointer (some ⟨(pb (β 4)), 0, none⟩) ∧ X 0 = eB (pb (β 4)) 27 #[.int .i64 0, .int .i64 0, .int .i64 0, .int .i64 0, .bool false, .slice none 0 0] | _ => True) [0] [0] [(4, 0, 1, 5)] hst0 ?_ ?_ ?_
  · exact fun ix _ _ _ _ _ _ hs hb hx h => match ix, h with
    | 0, h => by dsimp only at h ⊢; rw [← hs 4 rfl, ← hb 4 rfl, ← hx 0 rfl]; exact h
    | _ + 1, _ => trivial
  · refine ⟨?_, trivial⟩
    · refine sv_any rfl rfl fun ρ β W X cx => ?_
      exact dv_alloc (cs := #[.int .i64 0, .int .i64 0, .int .i64 0, .int .i64 0, .bool false, .slice none 0 0]) rfl (by kernel_rfl) rfl rfl (fun σ β' X' hs hb hv hx => ⟨hv, hx⟩)
  intro σ β X W1 hD hX hst1 fr hfr
  obtain ⟨B4_1, hu_B4_1⟩ : ∃ z, pb (β 4) = z := ⟨_, rfl⟩
  simp only [zM, exq 0 ((dTn (hD 0 lq)).2), hu_B4_1] at hst1
  dsimp only [mgT, vals, List.take, List.drop, List.cons_append, List.nil_append] at hfr
  simp only [ed 4 ((dTn (hD 0 lq)).1), hu_B4_1] at hfr
  clear hX hD hu_B4_1; subst hfr; clear σ β X
  refine then_normal ?_
  refine wp_seq ?_
  refine wp_region_T [0, 1, 0, 7] [[], [], [], [2]] [[], [1], [2], [3]] [[], [], [], [2]] [.k 6 (.slice LA s.length lc), .a 7, .a 5, .n] (fun ix σ β X => match ix with | 0 => True | 1 => σ 7 = .agg #[.int .i64 (vminF s), .int .i64 (vmaxF s), .int .i64 (vpgF s), .int .i64 (vslF s), .bool (vhotF s), .slice (sA (tg (β 7) 5)) ((vrowF s).length) (sC (tg (β 7) 5))] ∧ X 1 = eO 103 3 (.slice (sA (tg (β 7) 5)) ((vrowF s).length) (sC (tg (β 7) 5))) ((vrowF s).length) (flatR (vrowF s)) | 2 => σ 5 = .pointer (some ⟨(pb (β 5)), 0, none⟩) ∧ X 2 = eB (pb (β 5)) 27 #[.int .i64 0, .int .i64 0, .int .i64 0, .int .i64 0, .bool false, .slice none 0 0] | 3 => X 3 = eB (pb (β 5)) 27 #[.int .i64 (vminF s), .int .i64 (vmaxF s), .int .i64 (vpgF s), .int .i64 (vslF s), .bool (vhotF s), .slice (sA (tg (β 7) 5)) ((vrowF s).length) (sC (tg (β 7) 5))] | _ => True) [0, 1, 3] [1, 2, 3] [(5, 2, 1, 6), (0, 0, 2, 2)] hst1 ?_ ?_ ?_
  · exact fun ix _ _ _ _ _ _ hs hb hx h => match ix, h with
    | 1, h => by dsimp only at h ⊢; rw [← hs 7 rfl, ← hb 7 rfl, ← hx 1 rfl]; exact h
    | 2, h => by dsimp only at h ⊢; rw [← hs 5 rfl, ← hb 5 rfl, ← hx 2 rfl]; exact h
    | 3, h => by dsimp only at h ⊢; rw [← hb 5 rfl, ← hb 7 rfl, ← hx 3 rfl]; exact h
    | 0, _ | _ + 4, _ => trivial
  · refine ⟨?_, ?_, ?_, trivial⟩
    · refine sv_any rfl rfl fun ρ β W X cx => ?_
      refine DoesU.call (run_callF (args := #[.slice LA s.length lc]) rfl cx.sees rfl (by kernel_rfl) (map1 (cx.anc 0 rfl))) ?_
      refine (made08_any _ _ s _ (hA.ext cx.upd.to_ext) (by omega)).mono ?_
      rintro e W1 ⟨A4, c4, rfl, ho, hx⟩
      refine ⟨_, rfl, post_call [eO 103 3 (.slice A4 ((vrowF s).length) c4) ((vrowF s).length) (flatR (vrowF s))] rfl rfl hx (one_new (eO_new ho)) (List.pairwise_singleton _ _) (fun σ β' X' hs hb hv hN => ?_)⟩
      have hv1 := (hv 7 rfl).1; have hv2 := (hv 7 rfl).2
      exact ⟨hv1.trans (by rw [hv2]; rfl), (by rw [hv2]; exact (List.cons.inj hN).1)⟩
    · refine sv_any rfl rfl fun ρ β W X cx => ?_
      exact dv_alloc (cs := #[.int .i64 0, .int .i64 0, .int .i64 0, .int .i64 0, .bool false, .slice none 0 0]) rfl (by kernel_rfl) rfl rfl (fun σ β' X' hs hb hv hx => ⟨hv, hx⟩)
    · refine sv_any rfl rfl fun ρ β W X cx => ?_
      exact dv_store (n := 6) rfl (dTn (cx.anc 2 rfl)).1 (dTn (cx.anc 1 rfl)).1 (by kernel_rfl) rfl rfl cx (dTn (cx.anc 2 rfl)).2 rfl (Nat.le_of_ble_eq_true rfl) rfl rfl rfl rfl (fun σ β' X' hs hb hx => by rw [hb 5, hb 7]; exact hx)
  intro σ β X W2 hD hX hst2 fr hfr
  obtain ⟨A7_2, hu_A7_2⟩ : ∃ z, sA (tg (β 7) 5) = z := ⟨_, rfl⟩
  obtain ⟨c7_2, hu_c7_2⟩ : ∃ z, sC (tg (β 7) 5) = z := ⟨_, rfl⟩
  obtain ⟨B5_2, hu_B5_2⟩ : ∃ z, pb (β 5) = z := ⟨_, rfl⟩
  simp only [zM, exq 0 (hX 0 _ rfl), exq 1 ((dTn (hD 1 lq)).2), exq 3 ((dTn (hD 3 lq))), hu_A7_2, hu_c7_2, hu_B5_2] at hst2
  dsimp only [mgT, vals, List.take, List.drop, List.cons_append, List.nil_append] at hfr
  simp only [ed 7 ((dTn (hD 1 lq)).1), ed 5 ((dTn (hD 2 lq)).1), hu_A7_2, hu_c7_2, hu_B5_2] at hfr
  clear hX hD hu_A7_2 hu_c7_2 hu_B5_2; subst hfr; clear σ β X
  refine then_normal ?_
  refine wp_seq ?_
  refine wp_seq ?_
  refine wp_region_T [0, 1, 3] [[], [2]] [] [] [.k 8 (.pointer (some ⟨B5_2, 0, none⟩)), .c 9 (.int .i64 (vminF s)), .k 10 (.bool (decide (2 < vminF s)))] (fun _ _ _ _ => True) [0, 1, 2] [1] [(8, 0, 3, 11)] hst2 ?_ ?_ ?_
  · exact fun _ _ _ _ _ _ _ _ _ _ h => h
  · refine ⟨?_, trivial⟩
    · exact s4 rfl (fun _ _ _ h => h) fun cx => run_load1 rfl (by kernel_rfl) (cx.anc 0 rfl) ((cx.blk (cx.init 2 _ rfl) rfl).cell 0)
  intro σ β X W3 hD hX hst3 fr hfr
  simp only [zM, exq 0 (hX 0 _ rfl), exq 1 (hX 1 _ rfl), exq 2 (hX 2 _ rfl)] at hst3
  dsimp only [mgT, vals, List.take, List.drop, List.cons_append, List.nil_append] at hfr
  clear hX hD; subst hfr; clear σ β X
  refine then_normal ?_
  rcases Bool.eq_false_or_eq_true (decide (2 < vminF s)) with hs4 | hs4
  · skip
    have hs4p : 2 < vminF s := by simpa using hs4
    refine wp_cond_true (show Act.eval _ _ = .bool true from (congrArg Value.bool hs4)) ?_
    refine wp_region_T [0, 0, 2, 6, 15, 31, 63, 127, 255] [[], [], [2], [], [], [], [], [], [2]] [[], [], [], [], [], [], [], [], [3]] [[], [], [], [], [], [], [], [], [2]] [.k 11 (.int .i64 f), .k 12 (.pointer (some ⟨B5_2, 0, none⟩)), .c 13 (.int .i64 (vminF s)), tRe 14 .i64 (vminF s) 30 ((vminF s) % 30) (Int.tmod_eq_emod_of_nonneg (by omega)), tI 15 (f + ((vminF s) % 30)) (by omega), tRe 16 .i64 (f + ((vminF s) % 30)) 125 ((f + ((vminF s) % 30)) % 125) (Int.tmod_eq_emod_of_nonneg (by omega)), tI 17 (3 + ((f + ((vminF s) % 30)) % 125)) (by omega), .k 18 (.pointer (some ⟨B5_2, 0, none⟩)), .n] (fun ix σ β X => match ix with | 0 => True | 1 => True | 2 => True | 3 => True | 4 => True | 5 => True | 6 => True | 7 => True | 8 => X 3 = eB B5_2 27 #[.int .i64 (3 + ((f + ((vminF s) % 30)) % 125)), .int .i64 (vmaxF s), .int .i64 (vpgF s), .int .i64 (vslF s), .bool (vhotF s), .slice A7_2 ((vrowF s).length) c7_2] | _ => True) [0, 1, 3] [2, 8] [(11, 0, 8, 19)] hst3 ?_ ?_ ?_
    · exact fun ix _ _ _ _ _ _ hs hb hx h => match ix, h with
      | 8, h => by dsimp only at h ⊢; rw [← hx 3 rfl]; exact h
      | 0, _ | 1, _ | 2, _ | 3, _ | 4, _ | 5, _ | 6, _ | 7, _ | _ + 9, _ => trivial
    · refine ⟨?_, ?_, trivial⟩
      · exact s4 rfl (fun _ _ _ h => h) fun cx => run_load1 rfl (by kernel_rfl) (cx.anc 1 rfl) ((cx.blk (cx.init 2 _ rfl) rfl).cell 0)
      · refine sv_any rfl rfl fun ρ β W X cx => ?_
        exact dv_store (n := 1) rfl (cx.anc 7 rfl) (cx.anc 6 rfl) (by kernel_rfl) rfl rfl cx (cx.init 2 _ rfl) rfl (Nat.le_of_ble_eq_true rfl) rfl rfl rfl rfl (fun σ β' X' hs hb hx => hx)
    intro σ β X W5 hD hX hst5 fr hfr
    simp only [zM, exq 0 (hX 0 _ rfl), exq 1 (hX 1 _ rfl), exq 3 ((dTn (hD 8 lq)))] at hst5
    dsimp only [mgT, vals, List.take, List.drop, List.cons_append, List.nil_append] at hfr
    clear hX hD; subst hfr; clear σ β X
    refine then_normal ?_
    refine wp_seq ?_
    refine wp_seq ?_
    refine wp_region_T [0, 1, 3] [[], [2]] [] [] [.k 19 (.pointer (some ⟨B5_2, 1, none⟩)), .c 20 (.int .i64 (vmaxF s)), .k 21 (.bool (decide (0 < vmaxF s)))] (fun _ _ _ _ => True) [0, 1, 2] [1] [(19, 0, 3, 22)] hst5 ?_ ?_ ?_
    · exact fun _ _ _ _ _ _ _ _ _ _ h => h
    · refine ⟨?_, trivial⟩
      · exact s4 rfl (fun _ _ _ h => h) fun cx => run_load1 rfl (by kernel_rfl) (cx.anc 0 rfl) ((cx.blk (cx.init 2 _ rfl) rfl).cell 1)
    intro σ β X W6 hD hX hst6 fr hfr
    simp only [zM, exq 0 (hX 0 _ rfl), exq 1 (hX 1 _ rfl), exq 2 (hX 2 _ rfl)] at hst6
    dsimp only [mgT, vals, List.take, List.drop, List.cons_append, List.nil_append] at hfr
    clear hX hD; subst hfr; clear σ β X
    refine then_normal ?_
    rcases Bool.eq_false_or_eq_true (decide (0 < vmaxF s)) with hs7 | hs7
    · skip
      have hs7p : 0 < vmaxF s := by simpa using hs7
      refine wp_cond_true (show Act.eval _ _ = .bool true from (congrArg Value.bool hs7)) ?_
      refine wp_region_T [0, 0, 2, 6, 15, 31, 63, 127, 255] [[], [], [2], [], [], [], [], [], [2]] [[], [], [], [], [], [], [], [], [3]] [[], [], [], [], [], [], [], [], [2]] [.k 22 (.int .i64 f), .k 23 (.pointer (some ⟨B5_2, 1, none⟩)), .c 24 (.int .i64 (vmaxF s)), tRe 25 .i64 (vmaxF s) 30 ((vmaxF s) % 30) (Int.tmod_eq_emod_of_nonneg (by omega)), tI 26 (f + ((vmaxF s) % 30)) (by omega), tRe 27 .i64 (f + ((vmaxF s) % 30)) 125 ((f + ((vmaxF s) % 30)) % 125) (Int.tmod_eq_emod_of_nonneg (by omega)), tI 28 (3 + ((f + ((vmaxF s) % 30)) % 125)) (by omega), .k 29 (.pointer (some ⟨B5_2, 1, none⟩)), .n] (fun ix σ β X => match ix with | 0 => True | 1 => True | 2 => True | 3 => True | 4 => True | 5 => True | 6 => True | 7 => True | 8 => X 3 = eB B5_2 27 #[.int .i64 (3 + ((f + ((vminF s) % 30)) % 125)), .int .i64 (3 + ((f + ((vmaxF s) % 30)) % 125)), .int .i64 (vpgF s), .int .i64 (vslF s), .bool (vhotF s), .slice A7_2 ((vrowF s).length) c7_2] | _ => True) [0, 1, 3] [2, 8] [(22, 0, 8, 30)] hst6 ?_ ?_ ?_
      · exact fun ix _ _ _ _ _ _ hs hb hx h => match ix, h with
        | 8, h => by dsimp only at h ⊢; rw [← hx 3 rfl]; exact h
        | 0, _ | 1, _ | 2, _ | 3, _ | 4, _ | 5, _ | 6, _ | 7, _ | _ + 9, _ => trivial
      · refine ⟨?_, ?_, trivial⟩
        · exact s4 rfl (fun _ _ _ h => h) fun cx => run_load1 rfl (by kernel_rfl) (cx.anc 1 rfl) ((cx.blk (cx.init 2 _ rfl) rfl).cell 1)
        · refine sv_any rfl rfl fun ρ β W X cx => ?_
          exact dv_store (n := 1) rfl (cx.anc 7 rfl) (cx.anc 6 rfl) (by kernel_rfl) rfl rfl cx (cx.init 2 _ rfl) rfl (Nat.le_of_ble_eq_true rfl) rfl rfl rfl rfl (fun σ β' X' hs hb hx => hx)
      intro σ β X W8 hD hX hst8 fr hfr
      simp only [zM, exq 0 (hX 0 _ rfl), exq 1 (hX 1 _ rfl), exq 3 ((dTn (hD 8 lq)))] at hst8
      dsimp only [mgT, vals, List.take, List.drop, List.cons_append, List.nil_append] at hfr
      clear hX hD; subst hfr; clear σ β X
      refine then_normal ?_
      refine wp_seq ?_
      refine wp_region_T [0, 1] [[2], [0]] [[], [3]] [[], [0]] [.c 30 (.agg #[.int .i64 (3 + ((f + ((vminF s) % 30)) % 125)), .int .i64 (3 + ((f + ((vmaxF s) % 30)) % 125)), .int .i64 (vpgF s), .int .i64 (vslF s), .bool (vhotF s), .slice A7_2 ((vrowF s).length) c7_2]), .n] (fun ix σ β X => match ix with | 0 => True | 1 => X 3 = eB B4_1 27 #[.int .i64 (3 + ((f + ((vminF s) % 30)) % 125)), .int .i64 (3 + ((f + ((vmaxF s) % 30)) % 125)), .int .i64 (vpgF s), .int .i64 (vslF s), .bool (vhotF s), .slice A7_2 ((vrowF s).length) c7_2] | _ => True) [1, 2, 3] [0, 1] [(30, 0, 1, 31)] hst8 ?_ ?_ ?_
      · exact fun ix _ _ _ _ _ _ hs hb hx h => match ix, h with
        | 1, h => by dsimp only at h ⊢; rw [← hx 3 rfl]; exact h
        | 0, _ | _ + 2, _ => trivial
      · refine ⟨?_, ?_, trivial⟩
        · exact s4 rfl (fun _ _ _ h => h) fun cx => run_loadB (n := 6) rfl (by kernel_rfl) (by kernel_rfl) (cx.out 5 rfl) (cx.blk (cx.init 2 _ rfl) rfl) (Nat.le_of_ble_eq_true rfl) rfl
        · refine sv_any rfl rfl fun ρ β W X cx => ?_
          exact dv_store (n := 6) rfl (cx.out 4 rfl) (cx.anc 0 rfl) (by kernel_rfl) rfl rfl cx (cx.init 0 _ rfl) rfl (Nat.le_of_ble_eq_true rfl) rfl rfl rfl rfl (fun σ β' X' hs hb hx => hx)
      intro σ β X W9 hD hX hst9 fr hfr
      simp only [zM, exq 1 (hX 1 _ rfl), exq 2 (hX 2 _ rfl), exq 3 ((dTn (hD 1 lq)))] at hst9
      dsimp only [mgT, vals, List.take, List.drop, List.cons_append, List.nil_append] at hfr
      clear hX hD; subst hfr; clear σ β X
      refine then_normal ?_
      refine wp_ret ?_
      have hr10 : W9.cell? ⟨B4_1, 0, none⟩ = some (.int .i64 (3 + ((f + ((vminF s) % 30)) % 125))) := (hst9.blk 2 rfl).cell 0
      have hr11 : W9.cell? ⟨B4_1, 1, none⟩ = some (.int .i64 (3 + ((f + ((vmaxF s) % 30)) % 125))) := (hst9.blk 2 rfl).cell 1
      have hr12 : W9.cell? ⟨B4_1, 2, none⟩ = some (.int .i64 (vpgF s)) := (hst9.blk 2 rfl).cell 2
      have hr13 : W9.cell? ⟨B4_1, 3, none⟩ = some (.int .i64 (vslF s)) := (hst9.blk 2 rfl).cell 3
      have hr14 : W9.cell? ⟨B4_1, 4, none⟩ = some (.bool (vhotF s)) := (hst9.blk 2 rfl).cell 4
      have hr15 : W9.cell? ⟨B4_1, 5, none⟩ = some (.slice A7_2 ((vrowF s).length) c7_2) := (hst9.blk 2 rfl).cell 5
      refine bodyPost_ret (v := .agg #[.int .i64 (3 + ((f + ((vminF s) % 30)) % 125)), .int .i64 (3 + ((f + ((vmaxF s) % 30)) % 125)), .int .i64 (vpgF s), .int .i64 (vslF s), .bool (vhotF s), .slice A7_2 ((vrowF s).length) c7_2]) (by simp [results, Tryd.results38, go_sem, hr10, hr11, hr12, hr13, hr14, hr15]) rfl ?_
      exact NearPost.of (by rw [nminF]; split <;> omega) (by rw [nmaxF]; split <;> omega) (hst9.own' 0 rfl) hst9.ext
    have hs7p : ¬ (0 < vmaxF s) := by simpa using hs7
    refine wp_cond_false (show Act.eval _ _ = .bool false from (congrArg Value.bool hs7)) ?_
    refine wp_skip ?_
    refine then_normal ?_
    refine wp_seq ?_
    refine wp_region_T [0, 1] [[2], [0]] [[], [3]] [[], [0]] [.c 30 (.agg #[.int .i64 (3 + ((f + ((vminF s) % 30)) % 125)), .int .i64 (vmaxF s), .int .i64 (vpgF s), .int .i64 (vslF s), .bool (vhotF s), .slice A7_2 ((vrowF s).length) c7_2]), .n] (fun ix σ β X => match ix with | 0 => True | 1 => X 3 = eB B4_1 27 #[.int .i64 (3 + ((f + ((vminF s) % 30)) % 125)), .int .i64 (vmaxF s), .int .i64 (vpgF s), .int .i64 (vslF s), .bool (vhotF s), .slice A7_2 ((vrowF s).length) c7_2] | _ => True) [1, 2, 3] [0, 1] [(30, 0, 1, 31)] hst6 ?_ ?_ ?_
    · exact fun ix _ _ _ _ _ _ hs hb hx h => match ix, h with
      | 1, h => by dsimp only at h ⊢; rw [← hx 3 rfl]; exact h
      | 0, _ | _ + 2, _ => trivial
    · refine ⟨?_, ?_, trivial⟩
      · exact s4 rfl (fun _ _ _ h => h) fun cx => run_loadB (n := 6) rfl (by kernel_rfl) (by kernel_rfl) (cx.out 5 rfl) (cx.blk (cx.init 2 _ rfl) rfl) (Nat.le_of_ble_eq_true rfl) rfl
      · refine sv_any rfl rfl fun ρ β W X cx => ?_
        exact dv_store (n := 6) rfl (cx.out 4 rfl) (cx.anc 0 rfl) (by kernel_rfl) rfl rfl cx (cx.init 0 _ rfl) rfl (Nat.le_of_ble_eq_true rfl) rfl rfl rfl rfl (fun σ β' X' hs hb hx => hx)
    intro σ β X W16 hD hX hst16 fr hfr
    simp only [zM, exq 1 (hX 1 _ rfl), exq 2 (hX 2 _ rfl), exq 3 ((dTn (hD 1 lq)))] at hst16
    dsimp only [mgT, vals, List.take, List.drop, List.cons_append, List.nil_append] at hfr
    clear hX hD; subst hfr; clear σ β X
    refine then_normal ?_
    refine wp_ret ?_
    have hr17 : W16.cell? ⟨B4_1, 0, none⟩ = some (.int .i64 (3 + ((f + ((vminF s) % 30)) % 125))) := (hst16.blk 2 rfl).cell 0
    have hr18 : W16.cell? ⟨B4_1, 1, none⟩ = some (.int .i64 (vmaxF s)) := (hst16.blk 2 rfl).cell 1
    have hr19 : W16.cell? ⟨B4_1, 2, none⟩ = some (.int .i64 (vpgF s)) := (hst16.blk 2 rfl).cell 2
    have hr20 : W16.cell? ⟨B4_1, 3, none⟩ = some (.int .i64 (vslF s)) := (hst16.blk 2 rfl).cell 3
    have hr21 : W16.cell? ⟨B4_1, 4, none⟩ = some (.bool (vhotF s)) := (hst16.blk 2 rfl).cell 4
    have hr22 : W16.cell? ⟨B4_1, 5, none⟩ = some (.slice A7_2 ((vrowF s).length) c7_2) := (hst16.blk 2 rfl).cell 5
    refine bodyPost_ret (v := .agg #[.int .i64 (3 + ((f + ((vminF s) % 30)) % 125)), .int .i64 (vmaxF s), .int .i64 (vpgF s), .int .i64 (vslF s), .bool (vhotF s), .slice A7_2 ((vrowF s).length) c7_2]) (by simp [results, Tryd.results38, go_sem, hr17, hr18, hr19, hr20, hr21, hr22]) rfl ?_
    exact NearPost.of (by rw [nminF]; split <;> omega) (by rw [nmaxF]; split <;> omega) (hst16.own' 0 rfl) hst16.ext
  have hs4p : ¬ (2 < vminF s) := by simpa using hs4
  refine wp_cond_false (show Act.eval _ _ = .bool false from (congrArg Value.bool hs4)) ?_
  refine wp_skip ?_
  refine then_normal ?_
  refine wp_seq ?_
  refine wp_seq ?_
  refine wp_region_T [0, 1, 3] [[], [2]] [] [] [.k 19 (.pointer (some ⟨B5_2, 1, none⟩)), .c 20 (.int .i64 (vmaxF s)), .k 21 (.bool (decide (0 < vmaxF s)))] (fun _ _ _ _ => True) [0, 1, 2] [1] [(19, 0, 3, 22)] hst3 ?_ ?_ ?_
  · exact fun _ _ _ _ _ _ _ _ _ _ h => h
  · refine ⟨?_, trivial⟩
    · exact s4 rfl (fun _ _ _ h => h) fun cx => run_load1 rfl (by kernel_rfl) (cx.anc 0 rfl) ((cx.blk (cx.init 2 _ rfl) rfl).cell 1)
  intro σ β X W23 hD hX hst23 fr hfr
  simp only [zM, exq 0 (hX 0 _ rfl), exq 1 (hX 1 _ rfl), exq 2 (hX 2 _ rfl)] at hst23
  dsimp only [mgT, vals, List.take, List.drop, List.cons_append, List.nil_append] at hfr
  clear hX hD; subst hfr; clear σ β X
  refine then_normal ?_
  rcases Bool.eq_false_or_eq_true (decide (0 < vmaxF s)) with hs24 | hs24
  · skip
    have hs24p : 0 < vmaxF s := by simpa using hs24
    refine wp_cond_true (show Act.eval _ _ = .bool true from (congrArg Value.bool hs24)) ?_
    refine wp_region_T [0, 0, 2, 6, 15, 31, 63, 127, 255] [[], [], [2], [], [], [], [], [], [2]] [[], [], [], [], [], [], [], [], [3]] [[], [], [], [], [], [], [], [], [2]] [.k 22 (.int .i64 f), .k 23 (.pointer (some ⟨B5_2, 1, none⟩)), .c 24 (.int .i64 (vmaxF s)), tRe 25 .i64 (vmaxF s) 30 ((vmaxF s) % 30) (Int.tmod_eq_emod_of_nonneg (by omega)), tI 26 (f + ((vmaxF s) % 30)) (by omega), tRe 27 .i64 (f + ((vmaxF s) % 30)) 125 ((f + ((vmaxF s) % 30)) % 125) (Int.tmod_eq_emod_of_nonneg (by omega)), tI 28 (3 + ((f + ((vmaxF s) % 30)) % 125)) (by omega), .k 29 (.pointer (some ⟨B5_2, 1, none⟩)), .n] (fun ix σ β X => match ix with | 0 => True | 1 => True | 2 => True | 3 => True | 4 => True | 5 => True | 6 => True | 7 => True | 8 => X 3 = eB B5_2 27 #[.int .i64 (vminF s), .int .i64 (3 + ((f + ((vmaxF s) % 30)) % 125)), .int .i64 (vpgF s), .int .i64 (vslF s), .bool (vhotF s), .slice A7_2 ((vrowF s).length) c7_2] | _ => True) [0, 1, 3] [2, 8] [(22, 0, 8, 30)] hst23 ?_ ?_ ?_
    · exact fun ix _ _ _ _ _ _ hs hb hx h => match ix, h with
      | 8, h => by dsimp only at h ⊢; rw [← hx 3 rfl]; exact h
      | 0, _ | 1, _ | 2, _ | 3, _ | 4, _ | 5, _ | 6, _ | 7, _ | _ + 9, _ => trivial
    · refine ⟨?_, ?_, trivial⟩
      · exact s4 rfl (fun _ _ _ h => h) fun cx => run_load1 rfl (by kernel_rfl) (cx.anc 1 rfl) ((cx.blk (cx.init 2 _ rfl) rfl).cell 1)
      · refine sv_any rfl rfl fun ρ β W X cx => ?_
        exact dv_store (n := 1) rfl (cx.anc 7 rfl) (cx.anc 6 rfl) (by kernel_rfl) rfl rfl cx (cx.init 2 _ rfl) rfl (Nat.le_of_ble_eq_true rfl) rfl rfl rfl rfl (fun σ β' X' hs hb hx => hx)
    intro σ β X W25 hD hX hst25 fr hfr
    simp only [zM, exq 0 (hX 0 _ rfl), exq 1 (hX 1 _ rfl), exq 3 ((dTn (hD 8 lq)))] at hst25
    dsimp only [mgT, vals, List.take, List.drop, List.cons_append, List.nil_append] at hfr
    clear hX hD; subst hfr; clear σ β X
    refine then_normal ?_
    refine wp_seq ?_
    refine wp_region_T [0, 1] [[2], [0]] [[], [3]] [[], [0]] [.c 30 (.agg #[.int .i64 (vminF s), .int .i64 (3 + ((f + ((vmaxF s) % 30)) % 125)), .int .i64 (vpgF s), .int .i64 (vslF s), .bool (vhotF s), .slice A7_2 ((vrowF s).length) c7_2]), .n] (fun ix σ β X => match ix with | 0 => True | 1 => X 3 = eB B4_1 27 #[.int .i64 (vminF s), .int .i64 (3 + ((f + ((vmaxF s) % 30)) % 125)), .int .i64 (vpgF s), .int .i64 (vslF s), .bool (vhotF s), .slice A7_2 ((vrowF s).length) c7_2] | _ => True) [1, 2, 3] [0, 1] [(30, 0, 1, 31)] hst25 ?_ ?_ ?_
    · exact fun ix _ _ _ _ _ _ hs hb hx h => match ix, h with
      | 1, h => by dsimp only at h ⊢; rw [← hx 3 rfl]; exact h
      | 0, _ | _ + 2, _ => trivial
    · refine ⟨?_, ?_, trivial⟩
      · exact s4 rfl (fun _ _ _ h => h) fun cx => run_loadB (n := 6) rfl (by kernel_rfl) (by kernel_rfl) (cx.out 5 rfl) (cx.blk (cx.init 2 _ rfl) rfl) (Nat.le_of_ble_eq_true rfl) rfl
      · refine sv_any rfl rfl fun ρ β W X cx => ?_
        exact dv_store (n := 6) rfl (cx.out 4 rfl) (cx.anc 0 rfl) (by kernel_rfl) rfl rfl cx (cx.init 0 _ rfl) rfl (Nat.le_of_ble_eq_true rfl) rfl rfl rfl rfl (fun σ β' X' hs hb hx => hx)
    intro σ β X W26 hD hX hst26 fr hfr
    simp only [zM, exq 1 (hX 1 _ rfl), exq 2 (hX 2 _ rfl), exq 3 ((dTn (hD 1 lq)))] at hst26
    dsimp only [mgT, vals, List.take, List.drop, List.cons_append, List.nil_append] at hfr
    clear hX hD; subst hfr; clear σ β X
    refine then_normal ?_
    refine wp_ret ?_
    have hr27 : W26.cell? ⟨B4_1, 0, none⟩ = some (.int .i64 (vminF s)) := (hst26.blk 2 rfl).cell 0
    have hr28 : W26.cell? ⟨B4_1, 1, none⟩ = some (.int .i64 (3 + ((f + ((vmaxF s) % 30)) % 125))) := (hst26.blk 2 rfl).cell 1
    have hr29 : W26.cell? ⟨B4_1, 2, none⟩ = some (.int .i64 (vpgF s)) := (hst26.blk 2 rfl).cell 2
    have hr30 : W26.cell? ⟨B4_1, 3, none⟩ = some (.int .i64 (vslF s)) := (hst26.blk 2 rfl).cell 3
    have hr31 : W26.cell? ⟨B4_1, 4, none⟩ = some (.bool (vhotF s)) := (hst26.blk 2 rfl).cell 4
    have hr32 : W26.cell? ⟨B4_1, 5, none⟩ = some (.slice A7_2 ((vrowF s).length) c7_2) := (hst26.blk 2 rfl).cell 5
    refine bodyPost_ret (v := .agg #[.int .i64 (vminF s), .int .i64 (3 + ((f + ((vmaxF s) % 30)) % 125)), .int .i64 (vpgF s), .int .i64 (vslF s), .bool (vhotF s), .slice A7_2 ((vrowF s).length) c7_2]) (by simp [results, Tryd.results38, go_sem, hr27, hr28, hr29, hr30, hr31, hr32]) rfl ?_
    exact NearPost.of (by rw [nminF]; split <;> omega) (by rw [nmaxF]; split <;> omega) (hst26.own' 0 rfl) hst26.ext
  have hs24p : ¬ (0 < vmaxF s) := by simpa using hs24
  refine wp_cond_false (show Act.eval _ _ = .bool false from (congrArg Value.bool hs24)) ?_
  refine wp_skip ?_
  refine then_normal ?_
  refine wp_seq ?_
  refine wp_region_T [0, 1] [[2], [0]] [[], [3]] [[], [0]] [.c 30 (.agg #[.int .i64 (vminF s), .int .i64 (vmaxF s), .int .i64 (vpgF s), .int .i64 (vslF s), .bool (vhotF s), .slice A7_2 ((vrowF s).length) c7_2]), .n] (fun ix σ β X => match ix with | 0 => True | 1 => X 3 = eB B4_1 27 #[.int .i64 (vminF s), .int .i64 (vmaxF s), .int .i64 (vpgF s), .int .i64 (vslF s), .bool (vhotF s), .slice A7_2 ((vrowF s).length) c7_2] | _ => True) [1, 2, 3] [0, 1] [(30, 0, 1, 31)] hst23 ?_ ?_ ?_
  · exact fun ix _ _ _ _ _ _ hs hb hx h => match ix, h with
    | 1, h => by dsimp only at h ⊢; rw [← hx 3 rfl]; exact h
    | 0, _ | _ + 2, _ => trivial
  · refine ⟨?_, ?_, trivial⟩
    · exact s4 rfl (fun _ _ _ h => h) fun cx => run_loadB (n := 6) rfl (by kernel_rfl) (by kernel_rfl) (cx.out 5 rfl) (cx.blk (cx.init 2 _ rfl) rfl) (Nat.le_of_ble_eq_true rfl) rfl
    · refine sv_any rfl rfl fun ρ β W X cx => ?_
      exact dv_store (n := 6) rfl (cx.out 4 rfl) (cx.anc 0 rfl) (by kernel_rfl) rfl rfl cx (cx.init 0 _ rfl) rfl (Nat.le_of_ble_eq_true rfl) rfl rfl rfl rfl (fun σ β' X' hs hb hx => hx)
  intro σ β X W33 hD hX hst33 fr hfr
  simp only [zM, exq 1 (hX 1 _ rfl), exq 2 (hX 2 _ rfl), exq 3 ((dTn (hD 1 lq)))] at hst33
  dsimp only [mgT, vals, List.take, List.drop, List.cons_append, List.nil_append] at hfr
  clear hX hD; subst hfr; clear σ β X
  refine then_normal ?_
  refine wp_ret ?_
  have hr34 : W33.cell? ⟨B4_1, 0, none⟩ = some (.int .i64 (vminF s)) := (hst33.blk 2 rfl).cell 0
  have hr35 : W33.cell? ⟨B4_1, 1, none⟩ = some (.int .i64 (vmaxF s)) := (hst33.blk 2 rfl).cell 1
  have hr36 : W33.cell? ⟨B4_1, 2, none⟩ = some (.int .i64 (vpgF s)) := (hst33.blk 2 rfl).cell 2
  have hr37 : W33.cell? ⟨B4_1, 3, none⟩ = some (.int .i64 (vslF s)) := (hst33.blk 2 rfl).cell 3
  have hr38 : W33.cell? ⟨B4_1, 4, none⟩ = some (.bool (vhotF s)) := (hst33.blk 2 rfl).cell 4
  have hr39 : W33.cell? ⟨B4_1, 5, none⟩ = some (.slice A7_2 ((vrowF s).length) c7_2) := (hst33.blk 2 rfl).cell 5
  refine bodyPost_ret (v := .agg #[.int .i64 (vminF s), .int .i64 (vmaxF s), .int .i64 (vpgF s), .int .i64 (vslF s), .bool (vhotF s), .slice A7_2 ((vrowF s).length) c7_2]) (by simp [results, Tryd.results38, go_sem, hr34, hr35, hr36, hr37, hr38, hr39]) rfl ?_
  exact NearPost.of (by rw [nminF]; split <;> omega) (by rw [nmaxF]; split <;> omega) (hst33.own' 0 rfl) hst33.ext

set_option maxRecDepth 100000 in
set_option maxHeartbeats 2000000 in
theorem fits_any (hi hz : Int) (LA : Option Addr) (lc : Nat) (ls : List Int) (OA : Option Addr) (on_ oc : Nat) (SA : Option Addr) (sn sc : Nat) (w : World) (hL : At w LA (ls.map (Value.int .i64))) (hll : ls.length ≤ 100000) :
    Calls Tryd.prog 39 #[.agg #[.int .i64 hi, .slice LA ls.length lc, .slice OA on_ oc, .int .i64 hz, .slice SA sn sc]] w (Ret (.bool (fitsF hi hz ls)) w) := by
  go_enter Tryd.func39, Tryd.ntmps39
  have hst0 := St.start w
  refine wp_seq ?_
  refine wp_region_T [0, 0] [] [[0]] [] [.a 1, .k 2 (.bool false)] (fun ix σ β X => match ix with | 0 => σ 1 = .pointer (some ⟨(pb (β 1)), 0, none⟩) ∧ X 0 = eB (pb (β 1)) 45 #[.int .i64 hi, .slice LA ls.length lc, .slice OA on_ oc, .int .i64 hz, .slice SA sn sc] | _ => True) [0] [0] [(1, 0, 2, 3)] hst0 ?_ ?_ ?_
  · exact fun ix _ _ _ _ _ _ hs hb hx h => match ix, h with
    | 0, h => by dsimp only at h ⊢; rw [← hs 1 rfl, ← hb 1 rfl, ← hx 0 rfl]; exact h
    | _ + 1, _ => trivial
  · refine ⟨?_, trivial⟩
    · refine sv_any rfl rfl fun ρ β W X cx => ?_
      exact dv_box (cs := #[.int .i64 hi, .slice LA ls.length lc, .slice OA on_ oc, .int .i64 hz, .slice SA sn sc]) rfl (cx.out 0 rfl) rfl rfl rfl (fun σ β' X' hs hb hv hx => ⟨hv, hx⟩)
  intro σ β X W1 hD hX hst1 fr hfr
  obtain ⟨B1_1, hu_B1_1⟩ : ∃ z, pb (β 1) = z := ⟨_, rfl⟩
  simp only [zM, exq 0 ((dTn (hD 0 lq)).2), hu_B1_1] at hst1
  dsimp only [mgT, vals, List.take, List.drop, List.cons_append, List.nil_append] at hfr
  simp only [ed 1 ((dTn (hD 0 lq)).1), hu_B1_1] at hfr
  clear hX hD hu_B1_1; subst hfr; clear σ β X
  refine then_normal ?_
  refine wp_seq ?_
  refine wp_seq ?_
  refine wp_region_T [0, 1, 3, 7, 15, 31, 63, 127, 255, 511, 1023, 2047, 4095, 8191, 16383, 32767, 65535, 131071, 262143, 524287, 1048575, 2097151, 4194303, 8388607, 2097151, 18874367, 67108863, 134217727, 268435455, 536870911, 1073741823, 536870911, 2684354559, 6979321855, 17179869183, 34359738367, 68719476735] [[], [0], [], [], [], [0], [], [], [], [], [], [0], [], [], [], [], [], [0], [], [], [], [], [], [0], [], [0], [], [], [], [], [0], [], [], [0]] [] [] [.k 4 (.pointer (some ⟨B1_1, 3, none⟩)), .c 5 (.int .i64 hz), .k 6 (.bool (decide (hz < 3))), .k 7 (.bool (decide (hz < 3))), .z 8 (!(decide (hz < 3))) (.pointer (some ⟨B1_1, 3, none⟩)), .y 9 (!(decide (hz < 3))) (.int .i64 hz), .z 10 (!(decide (hz < 3))) (.bool (decide (127 < hz))), tO 11 (decide (hz < 3)) (decide (127 < hz)), .k 12 (.bool ((decide (hz < 3)) || (decide (127 < hz)))), .z 13 (!((decide (hz < 3)) || (decide (127 < hz)))) (.pointer (some ⟨B1_1, 0, none⟩)), .z 14 (!((decide (hz < 3)) || (decide (127 < hz)))) (.pointer (some ⟨B1_1, 0, none⟩)), .y 15 (!((decide (hz < 3)) || (decide (127 < hz)))) (.int .i64 hi), .z 16 (!((decide (hz < 3)) || (decide (127 < hz)))) (.bool (decide (hi < 3))), tO 17 ((decide (hz < 3)) || (decide (127 < hz))) (decide (hi < 3)), .k 18 (.bool (((decide (hz < 3)) || (decide (127 < hz))) || (decide (hi < 3)))), .z 19 (!(((decide (hz < 3)) || (decide (127 < hz))) || (decide (hi < 3)))) (.pointer (some ⟨B1_1, 0, none⟩)), .z 20 (!(((decide (hz < 3)) || (decide (127 < hz))) || (decide (hi < 3)))) (.pointer (some ⟨B1_1, 0, none⟩)), .y 21 (!(((decide (hz < 3)) || (decide (127 < hz))) || (decide (hi < 3)))) (.int .i64 hi), .z 22 (!(((decide (hz < 3)) || (decide (127 < hz))) || (decide (hi < 3)))) (.bool (decide (127 < hi))), tO 23 (((decide (hz < 3)) || (decide (127 < hz))) || (decide (hi < 3))) (decide (127 < hi)), .k 24 (.bool ((((decide (hz < 3)) || (decide (127 < hz))) || (decide (hi < 3))) || (decide (127 < hi)))), .z 25 (!((((decide (hz < 3)) || (decide (127 < hz))) || (decide (hi < 3))) || (decide (127 < hi)))) (.pointer (some ⟨B1_1, 0, none⟩)), .z 26 (!((((decide (hz < 3)) || (decide (127 < hz))) || (decide (hi < 3))) || (decide (127 < hi)))) (.pointer (some ⟨B1_1, 0, none⟩)), .y 27 (!((((decide (hz < 3)) || (decide (127 < hz))) || (decide (hi < 3))) || (decide (127 < hi)))) (.int .i64 hi), .z 28 (!((((decide (hz < 3)) || (decide (127 < hz))) || (decide (hi < 3))) || (decide (127 < hi)))) (.pointer (some ⟨B1_1, 3, none⟩)), .y 29 (!((((decide (hz < 3)) || (decide (127 < hz))) || (decide (hi < 3))) || (decide (127 < hi)))) (.int .i64 hz), .y 30 (!((((decide (hz < 3)) || (decide (127 < hz))) || (decide (hi < 3))) || (decide (127 < hi)))) (.bool (beforeF hi hz)), tO 31 ((((decide (hz < 3)) || (decide (127 < hz))) || (decide (hi < 3))) || (decide (127 < hi))) (beforeF hi hz), .k 32 (.bool (((((decide (hz < 3)) || (decide (127 < hz))) || (decide (hi < 3))) || (decide (127 < hi))) || (beforeF hi hz))), .z 33 (!(((((decide (hz < 3)) || (decide (127 < hz))) || (decide (hi < 3))) || (decide (127 < hi))) || (beforeF hi hz))) (.pointer (some ⟨B1_1, 3, none⟩)), .y 34 (!(((((decide (hz < 3)) || (decide (127 < hz))) || (decide (hi < 3))) || (decide (127 < hi))) || (beforeF hi hz))) (.int .i64 hz), .z 35 (!(((((decide (hz < 3)) || (decide (127 < hz))) || (decide (hi < 3))) || (decide (127 < hi))) || (beforeF hi hz))) (.pointer (some ⟨B1_1, 0, none⟩)), .z 36 (!(((((decide (hz < 3)) || (decide (127 < hz))) || (decide (hi < 3))) || (decide (127 < hi))) || (beforeF hi hz))) (.pointer (some ⟨B1_1, 0, none⟩)), .y 37 (!(((((decide (hz < 3)) || (decide (127 < hz))) || (decide (hi < 3))) || (decide (127 < hi))) || (beforeF hi hz))) (.int .i64 hi), .y 38 (!(((((decide (hz < 3)) || (decide (127 < hz))) || (decide (hi < 3))) || (decide (127 < hi))) || (beforeF hi hz))) (.int .i64 (ageF hz hi)), .z 39 (!(((((decide (hz < 3)) || (decide (127 < hz))) || (decide (hi < 3))) || (decide (127 < hi))) || (beforeF hi hz))) (.bool (decide (30 < ageF hz hi))), tO 40 (((((decide (hz < 3)) || (decide (127 < hz))) || (decide (hi < 3))) || (decide (127 < hi))) || (beforeF hi hz)) (decide (30 < ageF hz hi))] (fun _ _ _ _ => True) [0] [1, 5, 11, 17, 23, 25, 26, 30, 33, 34] [(4, 0, 37, 41)] hst1 ?_ ?_ ?_
  · exact fun _ _ _ _ _ _ _ _ _ _ h => h
  · refine ⟨?_, ?_, ?_, ?_, ?_, ?_, ?_, ?_, ?_, ?_, trivial⟩
    · exact s4 rfl (fun _ _ _ h => h) fun cx => run_load1 rfl (by kernel_rfl) (cx.anc 0 rfl) ((cx.blk (cx.init 0 _ rfl) rfl).cell 3)
    · exact m2 rfl (fun _ _ _ h => h) (fun cx => (cx.anc 3 rfl)) fun cx hq => run_load1 rfl (by kernel_rfl) (mbv (cx.anc 4 rfl) hq) ((cx.blk (cx.init 0 _ rfl) rfl).cell 3)
    · exact m2 rfl (fun _ _ _ h => h) (fun cx => (cx.anc 8 rfl)) fun cx hq => run_load1 rfl (by kernel_rfl) (mbv (cx.anc 10 rfl) hq) ((cx.blk (cx.init 0 _ rfl) rfl).cell 0)
    · exact m2 rfl (fun _ _ _ h => h) (fun cx => (cx.anc 14 rfl)) fun cx hq => run_load1 rfl (by kernel_rfl) (mbv (cx.anc 16 rfl) hq) ((cx.blk (cx.init 0 _ rfl) rfl).cell 0)
    · exact m2 rfl (fun _ _ _ h => h) (fun cx => (cx.anc 20 rfl)) fun cx hq => run_load1 rfl (by kernel_rfl) (mbv (cx.anc 22 rfl) hq) ((cx.blk (cx.init 0 _ rfl) rfl).cell 0)
    · exact m2 rfl (fun _ _ _ h => h) (fun cx => (cx.anc 20 rfl)) fun cx hq => run_load1 rfl (by kernel_rfl) (mbv (cx.anc 24 rfl) hq) ((cx.blk (cx.init 0 _ rfl) rfl).cell 3)
    · exact m3 rfl (fun _ _ _ h => h) (fun cx => (cx.anc 20 rfl)) fun cx hq => ⟨_, _, run_callF (args := #[.int .i64 hi, .int .i64 hz]) rfl cx.sees rfl (by kernel_rfl) (map2 (mbv (cx.anc 23 rfl) hq) (mbv (cx.anc 25 rfl) hq)), cbefore_any hi hz _⟩
    · exact m2 rfl (fun _ _ _ h => h) (fun cx => (cx.anc 28 rfl)) fun cx hq => run_load1 rfl (by kernel_rfl) (mbv (cx.anc 29 rfl) hq) ((cx.blk (cx.init 0 _ rfl) rfl).cell 3)
    · exact m2 rfl (fun _ _ _ h => h) (fun cx => (cx.anc 28 rfl)) fun cx hq => run_load1 rfl (by kernel_rfl) (mbv (cx.anc 32 rfl) hq) ((cx.blk (cx.init 0 _ rfl) rfl).cell 0)
    · exact m3 rfl (fun _ _ _ h => h) (fun cx => (cx.anc 28 rfl)) fun cx hq => ⟨_, _, run_callF (args := #[.int .i64 hz, .int .i64 hi]) rfl cx.sees rfl (by kernel_rfl) (map2 (mbv (cx.anc 30 rfl) hq) (mbv (cx.anc 33 rfl) hq)), cage_any hz hi _⟩
  intro σ β X W2 hD hX hst2 fr hfr
  simp only [zM, exq 0 (hX 0 _ rfl)] at hst2
  dsimp only [mgT, vals, List.take, List.drop, List.cons_append, List.nil_append] at hfr
  clear hX hD; subst hfr; clear σ β X
  refine then_normal ?_
  rcases Bool.eq_false_or_eq_true ((((((decide (hz < 3)) || (decide (127 < hz))) || (decide (hi < 3))) || (decide (127 < hi))) || (beforeF hi hz)) || (decide (30 < ageF hz hi))) with hs3 | hs3
  · skip
    have hs3p := hs3
    simp only [zB] at hs3p
    have hbad : (decide (hz < 3) || decide (127 < hz) || decide (hi < 3) || decide (127 < hi) || beforeF hi hz || decide (30 < ageF hz hi)) = true := hs3
    refine wp_cond_true (show Act.eval _ _ = .bool true from (congrArg Value.bool hs3)) ?_
    refine wp_seq ?_
    refine wp_region_P [0] [.k 2 (.bool false)] [(2, 0, 1, 3)] hst2 fun W4 hst4 => ?_
    refine then_normal ?_
    refine wp_ret ?_
    refine then_ret ?_
    refine bodyPost_ret (v := .bool false) (by simp [results, Tryd.results39, go_sem]) rfl ?_
    exact Ret.bool (by rw [fitsF, hbad]; rfl) hst4.ext
  have hs3p := hs3
  simp only [zB] at hs3p
  obtain ⟨⟨⟨⟨⟨hs3p1, hs3p2⟩, hs3p3⟩, hs3p4⟩, hs3p5⟩, hs3p6⟩ := hs3p
  have hbad : (decide (hz < 3) || decide (127 < hz) || decide (hi < 3) || decide (127 < hi) || beforeF hi hz || decide (30 < ageF hz hi)) = false := hs3
  refine wp_cond_false (show Act.eval _ _ = .bool false from (congrArg Value.bool hs3)) ?_
  refine wp_skip ?_
  refine then_normal ?_
  refine wp_seq ?_
  refine wp_seq ?_
  refine wp_region_P [0] [.k 3 (.int .i64 0)] [(3, 0, 1, 4)] hst2 fun W5 hst5 => ?_
  refine then_normal ?_
  refine wp_block ?_
  refine wp_loopN (fun mz az W => ∃ k : Nat, ∃ u6_ : List Value, k ≤ ls.length ∧ ((ls.take k).all fun y => !beforeF y hz) = true ∧ mz = ls.length - k ∧ az = ⟨#[.agg #[.int .i64 hi, .slice LA ls.length lc, .slice OA on_ oc, .int .i64 hz, .slice SA sn sc], .pointer (some ⟨B1_1, 0, none⟩), (u6_.getD 0 undef), .int .i64 ((k : Int)), .pointer (some ⟨B1_1, 3, none⟩), .int .i64 hz, .bool (decide (hz < 3)), .bool (decide (hz < 3)), mb (!(decide (hz < 3))) (.pointer (some ⟨B1_1, 3, none⟩)), mb (!(decide (hz < 3))) (.int .i64 hz), mb (!(decide (hz < 3))) (.bool (decide (127 < hz))), .bool ((decide (hz < 3)) || (decide (127 < hz))), .bool ((decide (hz < 3)) || (decide (127 < hz))), mb (!((decide (hz < 3)) || (decide (127 < hz)))) (.pointer (some ⟨B1_1, 0, none⟩)), mb (!((decide (hz < 3)) || (decide (127 < hz)))) (.pointer (some ⟨B1_1, 0, none⟩)), mb (!((decide (hz < 3)) || (decide (127 < hz)))) (.int .i64 hi), mb (!((decide (hz < 3)) || (decide (127 < hz)))) (.bool (decide (hi < 3))), .bool (((decide (hz < 3)) || (decide (127 < hz))) || (decide (hi < 3))), .bool (((decide (hz < 3)) || (decide (127 < hz))) || (decide (hi < 3))), mb (!(((decide (hz < 3)) || (decide (127 < hz))) || (decide (hi < 3)))) (.pointer (some ⟨B1_1, 0, none⟩)), mb (!(((decide (hz < 3)) || (decide (127 < hz))) || (decide (hi < 3)))) (.pointer (some ⟨B1_1, 0, none⟩)), mb (!(((decide (hz < 3)) || (decide (127 < hz))) || (decide (hi < 3)))) (.int .i64 hi), mb (!(((decide (hz < 3)) || (decide (127 < hz))) || (decide (hi < 3)))) (.bool (decide (127 < hi))), .bool ((((decide (hz < 3)) || (decide (127 < hz))) || (decide (hi < 3))) || (decide (127 < hi))), .bool ((((decide (hz < 3)) || (decide (127 < hz))) || (decide (hi < 3))) || (decide (127 < hi))), mb (!((((decide (hz < 3)) || (decide (127 < hz))) || (decide (hi < 3))) || (decide (127 < hi)))) (.pointer (some ⟨B1_1, 0, none⟩)), mb (!((((decide (hz < 3)) || (decide (127 < hz))) || (decide (hi < 3))) || (decide (127 < hi)))) (.pointer (some ⟨B1_1, 0, none⟩)), mb (!((((decide (hz < 3)) || (decide (127 < hz))) || (decide (hi < 3))) || (decide (127 < hi)))) (.int .i64 hi), mb (!((((decide (hz < 3)) || (decide (127 < hz))) || (decide (hi < 3))) || (decide (127 < hi)))) (.pointer (some ⟨B1_1, 3, none⟩)), mb (!((((decide (hz < 3)) || (decide (127 < hz))) || (decide (hi < 3))) || (decide (127 < hi)))) (.int .i64 hz), mb (!((((decide (hz < 3)) || (decide (127 < hz))) || (decide (hi < 3))) || (decide (127 < hi)))) (.bool (beforeF hi hz)), .bool (((((decide (hz < 3)) || (decide (127 < hz))) || (decide (hi < 3))) || (decide (127 < hi))) || (beforeF hi hz)), .bool (((((decide (hz < 3)) || (decide (127 < hz))) || (decide (hi < 3))) || (decide (127 < hi))) || (beforeF hi hz)), mb (!(((((decide (hz < 3)) || (decide (127 < hz))) || (decide (hi < 3))) || (decide (127 < hi))) || (beforeF hi hz))) (.pointer (some ⟨B1_1, 3, none⟩)), mb (!(((((decide (hz < 3)) || (decide (127 < hz))) || (decide (hi < 3))) || (decide (127 < hi))) || (beforeF hi hz))) (.int .i64 hz), mb (!(((((decide (hz < 3)) || (decide (127 < hz))) || (decide (hi < 3))) || (decide (127 < hi))) || (beforeF hi hz))) (.pointer (some ⟨B1_1, 0, none⟩)), mb (!(((((decide (hz < 3)) || (decide (127 < hz))) || (decide (hi < 3))) || (decide (127 < hi))) || (beforeF hi hz))) (.pointer (some ⟨B1_1, 0, none⟩)), mb (!(((((decide (hz < 3)) || (decide (127 < hz))) || (decide (hi < 3))) || (decide (127 < hi))) || (beforeF hi hz))) (.int .i64 hi), mb (!(((((decide (hz < 3)) || (decide (127 < hz))) || (decide (hi < 3))) || (decide (127 < hi))) || (beforeF hi hz))) (.int .i64 (ageF hz hi)), mb (!(((((decide (hz < 3)) || (decide (127 < hz))) || (decide (hi < 3))) || (decide (127 < hi))) || (beforeF hi hz))) (.bool (decide (30 < ageF hz hi))), .bool ((((((decide (hz < 3)) || (decide (127 < hz))) || (decide (hi < 3))) || (decide (127 < hi))) || (beforeF hi hz)) || (decide (30 < ageF hz hi))), (u6_.getD 1 undef), (u6_.getD 2 undef), (u6_.getD 3 undef), (u6_.getD 4 undef), (u6_.getD 5 undef), (u6_.getD 6 undef), (u6_.getD 7 undef), (u6_.getD 8 undef), (u6_.getD 9 undef), (u6_.getD 10 undef), (u6_.getD 11 undef), (u6_.getD 12 undef), (u6_.getD 13 undef), (u6_.getD 14 undef), (u6_.getD 15 undef), (u6_.getD 16 undef), (u6_.getD 17 undef)], []⟩ ∧ St w [] [eB B1_1 45 #[.int .i64 hi, .slice LA ls.length lc, .slice OA on_ oc, .int .i64 hz, .slice SA sn sc]] W) (ls.length - 0) ?_ ?_
  · -- the loop begins
    have hp7 := hst5.pick [0] (by decide) rfl
    exact ⟨0, [.bool false, undef, undef, undef, undef, undef, undef, undef, undef, undef, undef, undef, undef, undef, undef, undef, undef, undef], Nat.zero_le _, rfl, rfl, rfl, hp7⟩
  rintro n6 a6 W6 ⟨k, u6_, hk, hka, rfl, rfl, hst6⟩
  refine wp_seq ?_
  refine wp_seq ?_
  refine wp_region_T [0, 0, 2, 6, 14, 31] [[], [], [], [0]] [] [] [.k 41 (.int .i64 ((k : Int))), .k 42 (.pointer (some ⟨B1_1, 0, none⟩)), .k 43 (.pointer (some ⟨B1_1, 1, none⟩)), .c 44 (.slice LA ls.length lc), .k 45 (.int .i64 ((ls.length : Int))), .k 46 (.bool (decide ((k : Int) < (ls.length : Int))))] (fun _ _ _ _ => True) [0] [3] [(41, 0, 6, 47)] hst6 ?_ ?_ ?_
  · exact fun _ _ _ _ _ _ _ _ _ _ h => h
  · refine ⟨?_, trivial⟩
    · exact s4 rfl (fun _ _ _ h => h) fun cx => run_load1 rfl (by kernel_rfl) (cx.anc 2 rfl) ((cx.blk (cx.init 0 _ rfl) rfl).cell 1)
  intro σ β X W8 hD hX hst8 fr hfr
  simp only [zM, exq 0 (hX 0 _ rfl)] at hst8
  dsimp only [mgT, vals, List.take, List.drop, List.cons_append, List.nil_append] at hfr
  clear hX hD; subst hfr; clear σ β X
  refine then_normal ?_
  rcases Bool.eq_false_or_eq_true (decide ((k : Int) < (ls.length : Int))) with hs9 | hs9
  · skip
    have hs9p : (k : Int) < (ls.length : Int) := by simpa using hs9
    refine wp_cond_true (show Act.eval _ _ = .bool true from (congrArg Value.bool hs9)) ?_
    refine wp_skip ?_
    refine then_normal ?_
    refine wp_seq ?_
    refine wp_block ?_
    refine wp_seq ?_
    refine wp_region_T [0, 1, 3, 0, 15, 31, 0, 64, 255] [[], [], [0], [], [], [], [], [0]] [] [] [.k 49 (.pointer (some ⟨B1_1, 0, none⟩)), .k 50 (.pointer (some ⟨B1_1, 1, none⟩)), .c 51 (.slice LA ls.length lc), .k 52 (.int .i64 ((k : Int))), .c 53 (.pointer (some ((ad LA).add k))), .c 54 (.int .i64 (ls.getD k 0)), .k 55 (.pointer (some ⟨B1_1, 3, none⟩)), .c 56 (.int .i64 hz), .c 57 (.bool (beforeF (ls.getD k 0) hz))] (fun _ _ _ _ => True) [0] [2, 4, 5, 7, 8] [(49, 0, 9, 58)] hst8 ?_ ?_ ?_
    · exact fun _ _ _ _ _ _ _ _ _ _ h => h
    · refine ⟨?_, ?_, ?_, ?_, ?_, trivial⟩
      · exact s4 rfl (fun _ _ _ h => h) fun cx => run_load1 rfl (by kernel_rfl) (cx.anc 1 rfl) ((cx.blk (cx.init 0 _ rfl) rfl).cell 1)
      · exact s4 rfl (fun _ _ _ h => h) fun cx => run_indexSl (e := 3) (m := k) rfl (by kernel_rfl) (by kernel_rfl) (cx.anc 2 rfl) (cx.anc 3 rfl) (by omega) (by omega) (hL.ext cx.upd.to_ext) (by simp)
      · exact s4 rfl (fun _ _ _ h => h) fun cx => run_load1 rfl (by kernel_rfl) (cx.anc 4 rfl) (At.cellAd (hL.ext cx.upd.to_ext) (getD_int (by omega)))
      · exact s4 rfl (fun _ _ _ h => h) fun cx => run_load1 rfl (by kernel_rfl) (cx.anc 6 rfl) ((cx.blk (cx.init 0 _ rfl) rfl).cell 3)
      · exact sv_call rfl rfl rfl rfl rfl (fun _ _ _ h => h) fun ρ β W X cx => ⟨_, _, run_callF (args := #[.int .i64 (ls.getD k 0), .int .i64 hz]) rfl cx.sees rfl (by kernel_rfl) (map2 (cx.anc 5 rfl) (cx.anc 7 rfl)), cbefore_any (ls.getD k 0) hz _⟩
    intro σ β X W10 hD hX hst10 fr hfr
    simp only [zM, exq 0 (hX 0 _ rfl)] at hst10
    dsimp only [mgT, vals, List.take, List.drop, List.cons_append, List.nil_append] at hfr
    clear hX hD; subst hfr; clear σ β X
    refine then_normal ?_
    rcases Bool.eq_false_or_eq_true (beforeF (ls.getD k 0) hz) with hs11 | hs11
    · skip
      refine wp_cond_true (show Act.eval _ _ = .bool true from (congrArg Value.bool hs11)) ?_
      refine wp_seq ?_
      refine wp_region_P [0] [.k 2 (.bool false)] [(2, 0, 1, 3)] hst10 fun W12 hst12 => ?_
      refine then_normal ?_
      refine wp_ret ?_
      refine blk_ret ?_
      refine then_ret ?_
      refine then_ret ?_
      refine blk_ret ?_
      refine then_ret ?_
      refine bodyPost_ret (v := .bool false) (by simp [results, Tryd.results39, go_sem]) rfl ?_
      exact Ret.bool (by rw [fitsF, fits_bad (by omega) hs11, Bool.and_false]) hst12.ext
    refine wp_cond_false (show Act.eval _ _ = .bool false from (congrArg Value.bool hs11)) ?_
    refine wp_skip ?_
    refine blk_normal ?_
    refine then_normal ?_
    refine wp_region_P [0, 1, 3] [.k 47 (.int .i64 ((k : Int))), tI 48 ((k : Int) + 1) (by omega), .k 3 (.int .i64 ((k : Int) + 1))] [(3, 2, 1, 4), (43, 0, 2, 45)] hst10 fun W13 hst13 => ?_
    refine then_normal ?_
    refine ⟨ls.length - ((k + 1)), by omega, ?_⟩
    have hp14 := hst13.pick [0] (by decide) rfl
    exact ⟨(k + 1), [(u6_.getD 0 undef), .int .i64 ((k : Int)), .pointer (some ⟨B1_1, 0, none⟩), .pointer (some ⟨B1_1, 1, none⟩), .slice LA ls.length lc, .int .i64 ((ls.length : Int)), .bool (decide ((k : Int) < (ls.length : Int))), .int .i64 ((k : Int)), .int .i64 ((k : Int) + 1), .pointer (some ⟨B1_1, 0, none⟩), .pointer (some ⟨B1_1, 1, none⟩), .slice LA ls.length lc, .int .i64 ((k : Int)), .pointer (some ((ad LA).add k)), .int .i64 (ls.getD k 0), .pointer (some ⟨B1_1, 3, none⟩), .int .i64 hz, .bool (beforeF (ls.getD k 0) hz)], by omega, fits_step (by omega) hka hs11, rfl, rfl, hp14⟩
  have hs9p : ¬ ((k : Int) < (ls.length : Int)) := by simpa using hs9
  refine wp_cond_false (show Act.eval _ _ = .bool false from (congrArg Value.bool hs9)) ?_
  refine wp_exit ?_
  refine then_exit ?_
  refine then_exit ?_
  refine blk_eq ?_
  refine then_normal ?_
  refine wp_seq ?_
  refine wp_region_P [0] [.k 2 (.bool true)] [(2, 0, 1, 3)] hst8 fun W15 hst15 => ?_
  refine then_normal ?_
  refine wp_ret ?_
  refine bodyPost_ret (v := .bool true) (by simp [results, Tryd.results39, go_sem]) rfl ?_
  exact Ret.bool (by rw [fitsF, hbad]; have h := hka; rw [List.take_of_length_le (by omega)] at h; rw [h]; rfl) hst15.ext

set_option maxRecDepth 100000 in
set_option maxHeartbeats 16000000 in
theorem tupledead_any (LA0 : Option Addr) (c0 : Nat) (l : List Int) (f0 f1 f2 : Int) (hi hz : Int) (LA : Option Addr) (lc : Nat) (ls : List Int) (OA : Option Addr) (oc : Nat) (own : List Int) (SA : Option Addr) (sc : Nat) (bs : List Int) (w : World) (hA0 : At w LA0 (l.map (Value.int .i64))) (hl0 : l.length ≤ 9223372036854775807) (hL : At w LA (ls.map (Value.int .i64))) (hO : At w OA (own.map (Value.int .i64))) (hlc : ls.length ≤ lc) (hoc : own.length ≤ oc) (hSA : At w SA (bs.map (Value.int .u8))) (hbs : ∀ b ∈ bs, 0 ≤ b ∧ b ≤ 255) (hN : NoneAt w) :
    Calls Tryd.prog 9 #[.slice LA0 l.length c0, .agg #[.int .i64 f0, .int .i64 f1, .int .i64 f2], .agg #[.int .i64 hi, .slice LA ls.length lc, .slice OA own.length oc, .int .i64 hz, .slice SA bs.length sc]] w (Ret (.bool true) w) := by
  have hvr : (vrowF l).length ≤ 3 := by rw [vrowF, madeR_len]; omega
  have hl1 : (ls.take 60).length ≤ 60 := by rw [List.length_take]; omega
  have hl2 : (own.take 20).length ≤ 20 := by rw [List.length_take]; omega
  go_enter Tryd.func9, Tryd.ntmps9
  have hst0 := St.start w
  refine wp_seq ?_
  refine wp_region_T [0, 0, 0] [] [[0], [1]] [] [.a 4, .a 5, .k 6 (.bool false)] (fun ix σ β X => match ix with | 0 => σ 4 = .pointer (some ⟨(pb (β 4)), 0, none⟩) ∧ X 0 = eB (pb (β 4)) 76 #[.int .i64 f0, .int .i64 f1, .int .i64 f2] | 1 => σ 5 = .pointer (some ⟨(pb (β 5)), 0, none⟩) ∧ X 1 = eB (pb (β 5)) 45 #[.int .i64 hi, .slice LA ls.length lc, .slice OA own.length oc, .int .i64 hz, .slice SA bs.length sc] | _ => True) [0, 1] [0, 1] [(4, 0, 3, 7)] hst0 ?_ ?_ ?_
  · exact fun ix _ _ _ _ _ _ hs hb hx h => match ix, h with
    | 0, h => by dsimp only at h ⊢; rw [← hs 4 rfl, ← hb 4 rfl, ← hx 0 rfl]; exact h
    | 1, h => by dsimp only at h ⊢; rw [← hs 5 rfl, ← hb 5 rfl, ← hx 1 rfl]; exact h
    | _ + 2, _ => trivial
  · refine ⟨?_, ?_, trivial⟩
    · refine sv_any rfl rfl fun ρ β W X cx => ?_
      exact dv_box (cs := #[.int .i64 f0, .int .i64 f1, .int .i64 f2]) rfl (cx.out 1 rfl) rfl rfl rfl (fun σ β' X' hs hb hv hx => ⟨hv, hx⟩)
    · refine sv_any rfl rfl fun ρ β W X cx => ?_
      exact dv_box (cs := #[.int .i64 hi, .slice LA ls.length lc, .slice OA own.length oc, .int .i64 hz, .slice SA bs.length sc]) rfl (cx.out 2 rfl) rfl rfl rfl (fun σ β' X' hs hb hv hx => ⟨hv, hx⟩)
  intro σ β X W1 hD hX hst1 fr hfr
  obtain ⟨B4_1, hu_B4_1⟩ : ∃ z, pb (β 4) = z := ⟨_, rfl⟩
  obtain ⟨B5_1, hu_B5_1⟩ : ∃ z, pb (β 5) = z := ⟨_, rfl⟩
  simp only [zM, exq 0 ((dTn (hD 0 lq)).2), exq 1 ((dTn (hD 1 lq)).2), hu_B4_1, hu_B5_1] at hst1
  dsimp only [mgT, vals, List.take, List.drop, List.cons_append, List.nil_append] at hfr
  simp only [ed 4 ((dTn (hD 0 lq)).1), ed 5 ((dTn (hD 1 lq)).1), hu_B4_1, hu_B5_1] at hfr
  clear hX hD hu_B4_1 hu_B5_1; subst hfr; clear σ β X
  refine then_normal ?_
  refine wp_seq ?_
  refine wp_region_T [0, 1] [] [] [] [.c 16 (.bool true), .k 7 (.bool true)] (fun _ _ _ _ => True) [0, 1] [0] [(7, 1, 1, 8), (8, 0, 1, 9)] hst1 ?_ ?_ ?_
  · exact fun _ _ _ _ _ _ _ _ _ _ h => h
  · refine ⟨?_, trivial⟩
    · exact sv_call rfl rfl rfl rfl rfl (fun _ _ _ h => h) fun ρ β W X cx => ⟨_, _, run_callF (args := #[]) rfl cx.sees rfl (by kernel_rfl) map0, sanity_any _ (hN.ext cx.upd.to_ext)⟩
  intro σ β X W2 hD hX hst2 fr hfr
  simp only [zM, exq 0 (hX 0 _ rfl), exq 1 (hX 1 _ rfl)] at hst2
  dsimp only [mgT, vals, List.take, List.drop, List.cons_append, List.nil_append] at hfr
  clear hX hD; subst hfr; clear σ β X
  refine then_normal ?_
  refine wp_seq ?_
  refine wp_region_T [0, 1, 3] [[1], [], [1]] [[], [2, 3], [4]] [[], [], [1]] [.c 17 (.agg #[.int .i64 hi, .slice LA ls.length lc, .slice OA own.length oc, .int .i64 hz, .slice SA bs.length sc]), .a 18, .n] (fun ix σ β X => match ix with | 0 => True | 1 => σ 18 = .agg #[.int .i64 hi, .slice (sA (tg (β 18) 1)) ((ls.take 60).length) (sC (tg (β 18) 1)), .slice (sA (tg (β 18) 2)) ((own.take 20).length) (sC (tg (β 18) 2)), .int .i64 hz, .slice SA bs.length sc] ∧ X 2 = eO 3 1 (.slice (sA (tg (β 18) 1)) ((ls.take 60).length) (sC (tg (β 18) 1))) ((ls.take 60).length) ((ls.take 60).map (Value.int .i64)) ∧ X 3 = eO 3 1 (.slice (sA (tg (β 18) 2)) ((own.take 20).length) (sC (tg (β 18) 2))) ((own.take 20).length) ((own.take 20).map (Value.int .i64)) | 2 => X 4 = eB B5_1 45 #[.int .i64 hi, .slice (sA (tg (β 18) 1)) ((ls.take 60).length) (sC (tg (β 18) 1)), .slice (sA (tg (β 18) 2)) ((own.take 20).length) (sC (tg (β 18) 2)), .int .i64 hz, .slice SA bs.length sc] | _ => True) [0, 2, 3, 4] [0, 1, 2] [(17, 0, 2, 19)] hst2 ?_ ?_ ?_
  · exact fun ix _ _ _ _ _ _ hs hb hx h => match ix, h with
    | 1, h => by dsimp only at h ⊢; rw [← hs 18 rfl, ← hb 18 rfl, ← hx 2 rfl, ← hx 3 rfl]; exact h
    | 2, h => by dsimp only at h ⊢; rw [← hb 18 rfl, ← hx 4 rfl]; exact h
    | 0, _ | _ + 3, _ => trivial
  · refine ⟨?_, ?_, ?_, trivial⟩
    · exact s4 rfl (fun _ _ _ h => h) fun cx => run_loadB (n := 5) rfl (by kernel_rfl) (by kernel_rfl) (cx.out 5 rfl) (cx.blk (cx.init 1 _ rfl) rfl) (Nat.le_of_ble_eq_true rfl) rfl
    · refine sv_any rfl rfl fun ρ β W X cx => ?_
      refine DoesU.call (run_callF (args := #[.agg #[.int .i64 hi, .slice LA ls.length lc, .slice OA own.length oc, .int .i64 hz, .slice SA bs.length sc]]) rfl cx.sees rfl (by kernel_rfl) (map1 (cx.anc 0 rfl))) ?_
      refine (cut_any hi hz _ _ ls _ _ own _ _ _ _ (hL.ext cx.upd.to_ext) (hO.ext cx.upd.to_ext) hlc hoc).mono ?_
      rintro e W1 ⟨A4, c4, B4, d4, rfl, hc⟩
      refine ⟨_, rfl, post_st [eO 3 1 (.slice A4 (ls.take 60).length c4) (ls.take 60).length ((ls.take 60).map (Value.int .i64)), eO 3 1 (.slice B4 (own.take 20).length d4) (own.take 20).length ((own.take 20).map (Value.int .i64))] rfl rfl hc (fun σ β' X' hs hb hv hN => ?_)⟩
      have hv1 := (hv 18 rfl).1; have hv2 := (hv 18 rfl).2
      exact ⟨hv1.trans (by rw [hv2]; rfl), (by rw [hv2]; exact (List.cons.inj hN).1), (by rw [hv2]; exact (List.cons.inj (List.cons.inj hN).2).1)⟩
    · refine sv_any rfl rfl fun ρ β W X cx => ?_
      exact dv_store (n := 5) rfl (cx.out 5 rfl) (dTn (cx.anc 1 rfl)).1 (by kernel_rfl) rfl rfl cx (cx.init 1 _ rfl) rfl (Nat.le_of_ble_eq_true rfl) rfl rfl rfl rfl (fun σ β' X' hs hb hx => by rw [hb 18]; exact hx)
  intro σ β X W3 hD hX hst3 fr hfr
  obtain ⟨A18_3, hu_A18_3⟩ : ∃ z, sA (tg (β 18) 1) = z := ⟨_, rfl⟩
  obtain ⟨c18_3, hu_c18_3⟩ : ∃ z, sC (tg (β 18) 1) = z := ⟨_, rfl⟩
  obtain ⟨A18q_3, hu_A18q_3⟩ : ∃ z, sA (tg (β 18) 2) = z := ⟨_, rfl⟩
  obtain ⟨c18q_3, hu_c18q_3⟩ : ∃ z, sC (tg (β 18) 2) = z := ⟨_, rfl⟩
  simp only [zM, exq 0 (hX 0 _ rfl), exq 2 ((dTn (hD 1 lq)).2.1), exq 3 ((dTn (hD 1 lq)).2.2), exq 4 ((dTn (hD 2 lq))), hu_A18_3, hu_c18_3, hu_A18q_3, hu_c18q_3] at hst3
  dsimp only [mgT, vals, List.take, List.drop, List.cons_append, List.nil_append] at hfr
  simp only [ed 18 ((dTn (hD 1 lq)).1), hu_A18_3, hu_c18_3, hu_A18q_3, hu_c18q_3] at hfr
  clear hX hD hu_A18_3 hu_c18_3 hu_A18q_3 hu_c18q_3; subst hfr; clear σ β X
  refine then_normal ?_
  refine wp_seq ?_
  obtain ⟨f, hfe, hf⟩ : ∃ z : Int, f0 % 128 = z ∧ 0 ≤ z ∧ z < 128 := ⟨_, rfl, by omega, by omega⟩
  refine wp_region_T [0, 1, 3, 7] [[], [0]] [] [] [.c 19 (.pointer (some ⟨B4_1, 0, none⟩)), .c 20 (.int .i64 f0), tAn 21 .i64 f0 127 f ((bits_mask f0 7 (by decide)).trans hfe), .k 8 (.int .i64 f)] (fun _ _ _ _ => True) [0, 1, 2, 3] [0, 1] [(8, 3, 1, 9), (10, 0, 3, 13)] hst3 ?_ ?_ ?_
  · exact fun _ _ _ _ _ _ _ _ _ _ h => h
  · refine ⟨?_, ?_, trivial⟩
    · exact s4 rfl (fun _ _ _ h => h) fun cx => run_indexArrB (n := 3) (sz := 1) (m := 0) (q := 0) rfl (by kernel_rfl) (cx.out 4 rfl) (cx.sees.const _) (by omega) (by omega) (by omega)
    · exact s4 rfl (fun _ _ _ h => h) fun cx => run_load1 rfl (by kernel_rfl) (cx.anc 0 rfl) ((cx.blk (cx.init 0 _ rfl) rfl).cell 0)
  intro σ β X W4 hD hX hst4 fr hfr
  simp only [zM, exq 0 (hX 0 _ rfl), exq 1 (hX 1 _ rfl), exq 2 (hX 2 _ rfl), exq 3 (hX 3 _ rfl)] at hst4
  dsimp only [mgT, vals, List.take, List.drop, List.cons_append, List.nil_append] at hfr
  clear hX hD; subst hfr; clear σ β X
  refine then_normal ?_
  refine wp_seq ?_
  refine wp_region_T [0, 0, 3, 0, 15] [[], [], [], [], [5]] [[], [], [4], [5], [6]] [[], [], [], [], [5]] [.k 22 (.slice LA0 l.length c0), .k 23 (.int .i64 f), .a 24, .a 9, .n] (fun ix σ β X => match ix with | 0 => True | 1 => True | 2 => σ 24 = .agg #[.int .i64 (nminF f l), .int .i64 (nmaxF f l), .int .i64 (vpgF l), .int .i64 (vslF l), .bool (vhotF l), .slice (sA (tg (β 24) 5)) ((vrowF l).length) (sC (tg (β 24) 5))] ∧ X 4 = eO 103 3 (.slice (sA (tg (β 24) 5)) ((vrowF l).length) (sC (tg (β 24) 5))) ((vrowF l).length) (flatR (vrowF l)) | 3 => σ 9 = .pointer (some ⟨(pb (β 9)), 0, none⟩) ∧ X 5 = eB (pb (β 9)) 27 #[.int .i64 0, .int .i64 0, .int .i64 0, .int .i64 0, .bool false, .slice none 0 0] | 4 => X 6 = eB (pb (β 9)) 27 #[.int .i64 (nminF f l), .int .i64 (nmaxF f l), .int .i64 (vpgF l), .int .i64 (vslF l), .bool (vhotF l), .slice (sA (tg (β 24) 5)) ((vrowF l).length) (sC (tg (β 24) 5))] | _ => True) [0, 1, 2, 3, 4, 6] [2, 3, 4] [(9, 3, 1, 10), (12, 0, 3, 15)] hst4 ?_ ?_ ?_
  · exact fun ix _ _ _ _ _ _ hs hb hx h => match ix, h with
    | 2, h => by dsimp only at h ⊢; rw [← hs 24 rfl, ← hb 24 rfl, ← hx 4 rfl]; exact h
    | 3, h => by dsimp only at h ⊢; rw [← hs 9 rfl, ← hb 9 rfl, ← hx 5 rfl]; exact h
    | 4, h => by dsimp only at h ⊢; rw [← hb 9 rfl, ← hb 24 rfl, ← hx 6 rfl]; exact h
    | 0, _ | 1, _ | _ + 5, _ => trivial
  · refine ⟨?_, ?_, ?_, trivial⟩
    · refine sv_any rfl rfl fun ρ β W X cx => ?_
      refine DoesU.call (run_callF (args := #[.slice LA0 l.length c0, .int .i64 f]) rfl cx.sees rfl (by kernel_rfl) (map2 (cx.anc 0 rfl) (cx.anc 1 rfl))) ?_
      refine (near_any _ _ l f _ (hA0.ext cx.upd.to_ext) (by omega) (by omega)).mono ?_
      rintro e W1 ⟨A4, c4, rfl, ho, hx⟩
      refine ⟨_, rfl, post_call [eO 103 3 (.slice A4 ((vrowF l).length) c4) ((vrowF l).length) (flatR (vrowF l))] rfl rfl hx (one_new (eO_new ho)) (List.pairwise_singleton _ _) (fun σ β' X' hs hb hv hN => ?_)⟩
      have hv1 := (hv 24 rfl).1; have hv2 := (hv 24 rfl).2
      exact ⟨hv1.trans (by rw [hv2]; rfl), (by rw [hv2]; exact (List.cons.inj hN).1)⟩
    · refine sv_any rfl rfl fun ρ β W X cx => ?_
      exact dv_alloc (cs := #[.int .i64 0, .int .i64 0, .int .i64 0, .int .i64 0, .bool false, .slice none 0 0]) rfl (by kernel_rfl) rfl rfl (fun σ β' X' hs hb hv hx => ⟨hv, hx⟩)
    · refine sv_any rfl rfl fun ρ β W X cx => ?_
      exact dv_store (n := 6) rfl (dTn (cx.anc 3 rfl)).1 (dTn (cx.anc 2 rfl)).1 (by kernel_rfl) rfl rfl cx (dTn (cx.anc 3 rfl)).2 rfl (Nat.le_of_ble_eq_true rfl) rfl rfl rfl rfl (fun σ β' X' hs hb hx => by rw [hb 9, hb 24]; exact hx)
  intro σ β X W5 hD hX hst5 fr hfr
  obtain ⟨A24_5, hu_A24_5⟩ : ∃ z, sA (tg (β 24) 5) = z := ⟨_, rfl⟩
  obtain ⟨c24_5, hu_c24_5⟩ : ∃ z, sC (tg (β 24) 5) = z := ⟨_, rfl⟩
  obtain ⟨B9_5, hu_B9_5⟩ : ∃ z, pb (β 9) = z := ⟨_, rfl⟩
  simp only [zM, exq 0 (hX 0 _ rfl), exq 1 (hX 1 _ rfl), exq 2 (hX 2 _ rfl), exq 3 (hX 3 _ rfl), exq 4 ((dTn (hD 2 lq)).2), exq 6 ((dTn (hD 4 lq))), hu_A24_5, hu_c24_5, hu_B9_5] at hst5
  dsimp only [mgT, vals, List.take, List.drop, List.cons_append, List.nil_append] at hfr
  simp only [ed 24 ((dTn (hD 2 lq)).1), ed 9 ((dTn (hD 3 lq)).1), hu_A24_5, hu_c24_5, hu_B9_5] at hfr
  clear hX hD hu_A24_5 hu_c24_5 hu_B9_5; subst hfr; clear σ β X
  refine then_normal ?_
  refine wp_seq ?_
  obtain ⟨rr, hre, hr⟩ : ∃ z : Int, f1 % 256 % 31 = z ∧ 0 ≤ z ∧ z < 31 := ⟨_, rfl, by omega, by omega⟩
  obtain ⟨h1, hh1⟩ : ∃ z : Int, z = 3 + (f + rr) % 125 := ⟨_, rfl⟩
  have hh1b : 3 ≤ h1 ∧ h1 < 128 := by omega
  refine wp_region_T [0, 0, 2, 6, 14, 31, 63, 127, 255, 511] [[], [], [0], [], [], [], [], [], [], [3]] [[], [], [], [], [], [], [], [], [], [6]] [[], [], [], [], [], [], [], [], [], [3]] [.k 25 (.int .i64 f), .c 26 (.pointer (some ⟨B4_1, 1, none⟩)), .c 27 (.int .i64 f1), tAn 28 .i64 f1 255 (f1 % 256) (bits_mask f1 8 (by decide)), tRe 29 .i64 (f1 % 256) 31 rr ((Int.tmod_eq_emod_of_nonneg (by omega)).trans hre), tI 30 (f + rr) (by omega), tRe 31 .i64 (f + rr) 125 ((f + rr) % 125) (Int.tmod_eq_emod_of_nonneg (by omega)), tW 32 .i64 (3 + ((f + rr) % 125)) h1 ((IntWalk.i64_in _ (by omega)).trans hh1.symm), .k 33 (.pointer (some ⟨B5_1, 3, none⟩)), .n] (fun ix σ β X => match ix with | 0 => True | 1 => True | 2 => True | 3 => True | 4 => True | 5 => True | 6 => True | 7 => True | 8 => True | 9 => X 6 = eB B5_1 45 #[.int .i64 hi, .slice A18_3 ((ls.take 60).length) c18_3, .slice A18q_3 ((own.take 20).length) c18q_3, .int .i64 h1, .slice SA bs.length sc] | _ => True) [0, 1, 2, 4, 5, 6] [1, 2, 9] [(25, 0, 9, 34)] hst5 ?_ ?_ ?_
  · exact fun ix _ _ _ _ _ _ hs hb hx h => match ix, h with
    | 9, h => by dsimp only at h ⊢; rw [← hx 6 rfl]; exact h
    | 0, _ | 1, _ | 2, _ | 3, _ | 4, _ | 5, _ | 6, _ | 7, _ | 8, _ | _ + 10, _ => trivial
  · refine ⟨?_, ?_, ?_, trivial⟩
    · exact s4 rfl (fun _ _ _ h => h) fun cx => run_indexArrB (n := 3) (sz := 1) (m := 1) (q := 1) rfl (by kernel_rfl) (cx.out 4 rfl) (cx.sees.const _) (by omega) (by omega) (by omega)
    · exact s4 rfl (fun _ _ _ h => h) fun cx => run_load1 rfl (by kernel_rfl) (cx.anc 1 rfl) ((cx.blk (cx.init 0 _ rfl) rfl).cell 1)
    · refine sv_any rfl rfl fun ρ β W X cx => ?_
      exact dv_store (n := 1) rfl (cx.anc 8 rfl) (cx.anc 7 rfl) (by kernel_rfl) rfl rfl cx (cx.init 3 _ rfl) rfl (Nat.le_of_ble_eq_true rfl) rfl rfl rfl rfl (fun σ β' X' hs hb hx => hx)
  intro σ β X W6 hD hX hst6 fr hfr
  simp only [zM, exq 0 (hX 0 _ rfl), exq 1 (hX 1 _ rfl), exq 2 (hX 2 _ rfl), exq 4 (hX 4 _ rfl), exq 5 (hX 5 _ rfl), exq 6 ((dTn (hD 9 lq)))] at hst6
  dsimp only [mgT, vals, List.take, List.drop, List.cons_append, List.nil_append] at hfr
  clear hX hD; subst hfr; clear σ β X
  refine then_normal ?_
  refine wp_seq ?_
  obtain ⟨dd, hde, hd⟩ : ∃ z : Int, f2 % 256 % 30 = z ∧ 0 ≤ z ∧ z < 30 := ⟨_, rfl, by omega, by omega⟩
  refine wp_region_T [0, 1, 0, 4, 12, 28, 63, 127, 255, 511] [[], [5], [], [0], [], [], [], [], [], [5]] [[], [], [], [], [], [], [], [], [], [6]] [[], [], [], [], [], [], [], [], [], [5]] [.k 34 (.pointer (some ⟨B5_1, 3, none⟩)), .c 35 (.int .i64 h1), .c 36 (.pointer (some ⟨B4_1, 2, none⟩)), .c 37 (.int .i64 f2), tAn 38 .i64 f2 255 (f2 % 256) (bits_mask f2 8 (by decide)), tRe 39 .i64 (f2 % 256) 30 dd ((Int.tmod_eq_emod_of_nonneg (by omega)).trans hde), .c 40 (.int .i64 (turnF h1 dd)), .k 41 (.pointer (some ⟨B5_1, 0, none⟩)), .k 42 (.pointer (some ⟨B5_1, 0, none⟩)), .n] (fun ix σ β X => match ix with | 0 => True | 1 => True | 2 => True | 3 => True | 4 => True | 5 => True | 6 => True | 7 => True | 8 => True | 9 => X 6 = eB B5_1 45 #[.int .i64 (turnF h1 dd), .slice A18_3 ((ls.take 60).length) c18_3, .slice A18q_3 ((own.take 20).length) c18q_3, .int .i64 h1, .slice SA bs.length sc] | _ => True) [0, 1, 2, 3, 4, 6] [1, 2, 3, 6, 9] [(34, 0, 9, 43)] hst6 ?_ ?_ ?_
  · exact fun ix _ _ _ _ _ _ hs hb hx h => match ix, h with
    | 9, h => by dsimp only at h ⊢; rw [← hx 6 rfl]; exact h
    | 0, _ | 1, _ | 2, _ | 3, _ | 4, _ | 5, _ | 6, _ | 7, _ | 8, _ | _ + 10, _ => trivial
  · refine ⟨?_, ?_, ?_, ?_, ?_, trivial⟩
    · exact s4 rfl (fun _ _ _ h => h) fun cx => run_load1 rfl (by kernel_rfl) (cx.anc 0 rfl) ((cx.blk (cx.init 5 _ rfl) rfl).cell 3)
    · exact s4 rfl (fun _ _ _ h => h) fun cx => run_indexArrB (n := 3) (sz := 1) (m := 2) (q := 2) rfl (by kernel_rfl) (cx.out 4 rfl) (cx.sees.const _) (by omega) (by omega) (by omega)
    · exact s4 rfl (fun _ _ _ h => h) fun cx => run_load1 rfl (by kernel_rfl) (cx.anc 2 rfl) ((cx.blk (cx.init 0 _ rfl) rfl).cell 2)
    · exact sv_call rfl rfl rfl rfl rfl (fun _ _ _ h => h) fun ρ β W X cx => ⟨_, _, run_callF (args := #[.int .i64 h1, .int .i64 dd]) rfl cx.sees rfl (by kernel_rfl) (map2 (cx.anc 1 rfl) (cx.anc 5 rfl)), turn_any h1 dd _ ⟨by omega, by omega⟩⟩
    · refine sv_any rfl rfl fun ρ β W X cx => ?_
      exact dv_store (n := 1) rfl (cx.anc 8 rfl) (cx.anc 6 rfl) (by kernel_rfl) rfl rfl cx (cx.init 5 _ rfl) rfl (Nat.le_of_ble_eq_true rfl) rfl rfl rfl rfl (fun σ β' X' hs hb hx => hx)
  intro σ β X W7 hD hX hst7 fr hfr
  simp only [zM, exq 0 (hX 0 _ rfl), exq 1 (hX 1 _ rfl), exq 2 (hX 2 _ rfl), exq 3 (hX 3 _ rfl), exq 4 (hX 4 _ rfl), exq 6 ((dTn (hD 9 lq)))] at hst7
  dsimp only [mgT, vals, List.take, List.drop, List.cons_append, List.nil_append] at hfr
  clear hX hD; subst hfr; clear σ β X
  refine then_normal ?_
  refine wp_seq ?_
  refine wp_seq ?_
  refine wp_region_T [0, 1, 3] [[5], [1]] [] [] [.c 43 (.agg #[.int .i64 (turnF h1 dd), .slice A18_3 ((ls.take 60).length) c18_3, .slice A18q_3 ((own.take 20).length) c18q_3, .int .i64 h1, .slice SA bs.length sc]), .c 44 (.bool (fitsF (turnF h1 dd) h1 (ls.take 60))), .k 45 (.bool (!(fitsF (turnF h1 dd) h1 (ls.take 60))))] (fun _ _ _ _ => True) [0, 1, 2, 3, 4, 5] [0, 1] [(43, 0, 3, 46)] hst7 ?_ ?_ ?_
  · exact fun _ _ _ _ _ _ _ _ _ _ h => h
  · refine ⟨?_, ?_, trivial⟩
    · exact s4 rfl (fun _ _ _ h => h) fun cx => run_loadB (n := 5) rfl (by kernel_rfl) (by kernel_rfl) (cx.out 5 rfl) (cx.blk (cx.init 5 _ rfl) rfl) (Nat.le_of_ble_eq_true rfl) rfl
    · exact sv_call rfl rfl rfl rfl rfl (fun _ _ _ h => h) fun ρ β W X cx => ⟨_, _, run_callF (args := #[.agg #[.int .i64 (turnF h1 dd), .slice A18_3 ((ls.take 60).length) c18_3, .slice A18q_3 ((own.take 20).length) c18q_3, .int .i64 h1, .slice SA bs.length sc]]) rfl cx.sees rfl (by kernel_rfl) (map1 (cx.anc 0 rfl)), fits_any (turnF h1 dd) h1 _ _ (ls.take 60) _ _ _ _ _ _ _ (At.of_own (cx.row (cx.init 1 _ rfl) rfl)) (by omega)⟩
  intro σ β X W8 hD hX hst8 fr hfr
  simp only [zM, exq 0 (hX 0 _ rfl), exq 1 (hX 1 _ rfl), exq 2 (hX 2 _ rfl), exq 3 (hX 3 _ rfl), exq 4 (hX 4 _ rfl), exq 5 (hX 5 _ rfl)] at hst8
  dsimp only [mgT, vals, List.take, List.drop, List.cons_append, List.nil_append] at hfr
  clear hX hD; subst hfr; clear σ β X
  refine then_normal ?_
  rcases Bool.eq_false_or_eq_true (fitsF (turnF h1 dd) h1 (ls.take 60)) with hs9 | hs9
  · skip
    have hl := fits_all hs9
    refine wp_cond_false (show Act.eval _ _ = .bool false from (congrArg Value.bool (by rw [hs9]; rfl))) ?_
    refine wp_skip ?_
    refine then_normal ?_
    refine wp_seq ?_
    refine wp_seq ?_
    refine wp_region_P [0] [.k 10 (.int .i64 0)] [(10, 0, 1, 11)] hst8 fun W10 hst10 => ?_
    refine then_normal ?_
    refine wp_block ?_
    refine wp_loopN (fun mz az W => ∃ k : Nat, ∃ u11_ : List Value, k ≤ (own.take 20).length ∧ mz = (own.take 20).length - k ∧ az = ⟨#[.slice LA0 l.length c0, .agg #[.int .i64 f0, .int .i64 f1, .int .i64 f2], .agg #[.int .i64 hi, .slice LA ls.length lc, .slice OA own.length oc, .int .i64 hz, .slice SA bs.length sc], undef, .pointer (some ⟨B4_1, 0, none⟩), .pointer (some ⟨B5_1, 0, none⟩), (u11_.getD 0 undef), .bool true, .int .i64 f, .pointer (some ⟨B9_5, 0, none⟩), .int .i64 ((k : Int)), undef, undef, undef, undef, undef, .bool true, .agg #[.int .i64 hi, .slice LA ls.length lc, .slice OA own.length oc, .int .i64 hz, .slice SA bs.length sc], .agg #[.int .i64 hi, .slice A18_3 ((ls.take 60).length) c18_3, .slice A18q_3 ((own.take 20).length) c18q_3, .int .i64 hz, .slice SA bs.length sc], .pointer (some ⟨B4_1, 0, none⟩), .int .i64 f0, .int .i64 f, .slice LA0 l.length c0, .int .i64 f, .agg #[.int .i64 (nminF f l), .int .i64 (nmaxF f l), .int .i64 (vpgF l), .int .i64 (vslF l), .bool (vhotF l), .slice A24_5 ((vrowF l).length) c24_5], .int .i64 f, .pointer (some ⟨B4_1, 1, none⟩), .int .i64 f1, .int .i64 (f1 % 256), .int .i64 rr, .int .i64 (f + rr), .int .i64 ((f + rr) % 125), .int .i64 h1, .pointer (some ⟨B5_1, 3, none⟩), .pointer (some ⟨B5_1, 3, none⟩), .int .i64 h1, .pointer (some ⟨B4_1, 2, none⟩), .int .i64 f2, .int .i64 (f2 % 256), .int .i64 dd, .int .i64 (turnF h1 dd), .pointer (some ⟨B5_1, 0, none⟩), .pointer (some ⟨B5_1, 0, none⟩), .agg #[.int .i64 (turnF h1 dd), .slice A18_3 ((ls.take 60).length) c18_3, .slice A18q_3 ((own.take 20).length) c18q_3, .int .i64 h1, .slice SA bs.length sc], .bool (fitsF (turnF h1 dd) h1 (ls.take 60)), .bool (!(fitsF (turnF h1 dd) h1 (ls.take 60))), undef, (u11_.getD 1 undef), (u11_.getD 2 undef), (u11_.getD 3 undef), (u11_.getD 4 undef), (u11_.getD 5 undef), (u11_.getD 6 undef), (u11_.getD 7 undef), (u11_.getD 8 undef), (u11_.getD 9 undef), (u11_.getD 10 undef), (u11_.getD 11 undef), (u11_.getD 12 undef), (u11_.getD 13 undef), (u11_.getD 14 undef), (u11_.getD 15 undef), (u11_.getD 16 undef), (u11_.getD 17 undef), undef, undef, undef, undef, undef, undef, undef, undef, undef, undef, undef, undef, undef, undef, undef, undef, undef, undef, undef, undef, undef, undef, undef, undef, undef, undef, undef, undef, undef, undef, undef, undef, undef, undef, undef, undef, undef, undef, undef, undef, undef, undef, undef, undef, undef, undef, undef, undef, undef, undef, undef, undef, undef, undef, undef, undef, undef, undef, undef, undef, undef, undef, undef, undef, undef, undef, undef, undef, undef, undef, undef, undef, undef, undef, undef, undef, undef, undef, undef, undef, undef, undef, undef], []⟩ ∧ St w [] [eB B4_1 76 #[.int .i64 f0, .int .i64 f1, .int .i64 f2], eO 3 1 (.slice A18_3 ((ls.take 60).length) c18_3) ((ls.take 60).length) ((ls.take 60).map (Value.int .i64)), eO 3 1 (.slice A18q_3 ((own.take 20).length) c18q_3) ((own.take 20).length) ((own.take 20).map (Value.int .i64)), eO 103 3 (.slice A24_5 ((vrowF l).length) c24_5) ((vrowF l).length) (flatR (vrowF l)), eB B9_5 27 #[.int .i64 (nminF f l), .int .i64 (nmaxF f l), .int .i64 (vpgF l), .int .i64 (vslF l), .bool (vhotF l), .slice A24_5 ((vrowF l).length) c24_5], eB B5_1 45 #[.int .i64 (turnF h1 dd), .slice A18_3 ((ls.take 60).length) c18_3, .slice A18q_3 ((own.take 20).length) c18q_3, .int .i64 h1, .slice SA bs.length sc]] W) ((own.take 20).length - 0) ?_ ?_
    · -- the loop begins
      have hp12 := hst10.pick [0, 1, 2, 3, 4, 5] (by decide) rfl
      exact ⟨0, [.bool false, undef, undef, undef, undef, undef, undef, undef, undef, undef, undef, undef, undef, undef, undef, undef, undef, undef], Nat.zero_le _, rfl, rfl, hp12⟩
    rintro n11 a11 W11 ⟨k, u11_, hk, rfl, rfl, hst11⟩
    refine wp_seq ?_
    refine wp_seq ?_
    refine wp_region_T [0, 0, 2, 6, 15] [[], [], [5]] [] [] [.k 47 (.int .i64 ((k : Int))), .k 48 (.pointer (some ⟨B5_1, 2, none⟩)), .c 49 (.slice A18q_3 ((own.take 20).length) c18q_3), .k 50 (.int .i64 (((own.take 20).length : Int))), .k 51 (.bool (decide ((k : Int) < ((own.take 20).length : Int))))] (fun _ _ _ _ => True) [0, 1, 2, 3, 4, 5] [2] [(47, 0, 5, 52)] hst11 ?_ ?_ ?_
    · exact fun _ _ _ _ _ _ _ _ _ _ h => h
    · refine ⟨?_, trivial⟩
      · exact s4 rfl (fun _ _ _ h => h) fun cx => run_load1 rfl (by kernel_rfl) (cx.anc 1 rfl) ((cx.blk (cx.init 5 _ rfl) rfl).cell 2)
    intro σ β X W13 hD hX hst13 fr hfr
    simp only [zM, exq 0 (hX 0 _ rfl), exq 1 (hX 1 _ rfl), exq 2 (hX 2 _ rfl), exq 3 (hX 3 _ rfl), exq 4 (hX 4 _ rfl), exq 5 (hX 5 _ rfl)] at hst13
    dsimp only [mgT, vals, List.take, List.drop, List.cons_append, List.nil_append] at hfr
    clear hX hD; subst hfr; clear σ β X
    refine then_normal ?_
    rcases Bool.eq_false_or_eq_true (decide ((k : Int) < ((own.take 20).length : Int))) with hs14 | hs14
    · skip
      have hs14p : (k : Int) < ((own.take 20).length : Int) := by simpa using hs14
      refine wp_cond_true (show Act.eval _ _ = .bool true from (congrArg Value.bool hs14)) ?_
      refine wp_skip ?_
      refine then_normal ?_
      refine wp_seq ?_
      refine wp_block ?_
      refine wp_seq ?_
      refine wp_region_T [0, 1, 0, 4, 0, 28, 60, 127, 255] [[], [5], [], [5], [], [2], [2]] [] [] [.k 54 (.pointer (some ⟨B5_1, 4, none⟩)), .c 55 (.slice SA bs.length sc), .k 56 (.pointer (some ⟨B5_1, 2, none⟩)), .c 57 (.slice A18q_3 ((own.take 20).length) c18q_3), .k 58 (.int .i64 ((k : Int))), .c 59 (.pointer (some ((ad A18q_3).add k))), .c 60 (.int .i64 (((own.take 20)).getD k 0)), .c 61 (.int .i64 (standF bs (((own.take 20)).getD k 0))), .k 62 (.bool ((standF bs (((own.take 20)).getD k 0)) != 1))] (fun _ _ _ _ => True) [0, 1, 2, 3, 4, 5] [1, 3, 5, 6, 7] [(54, 0, 9, 63)] hst13 ?_ ?_ ?_
      · exact fun _ _ _ _ _ _ _ _ _ _ h => h
      · refine ⟨?_, ?_, ?_, ?_, ?_, trivial⟩
        · exact s4 rfl (fun _ _ _ h => h) fun cx => run_load1 rfl (by kernel_rfl) (cx.anc 0 rfl) ((cx.blk (cx.init 5 _ rfl) rfl).cell 4)
        · exact s4 rfl (fun _ _ _ h => h) fun cx => run_load1 rfl (by kernel_rfl) (cx.anc 2 rfl) ((cx.blk (cx.init 5 _ rfl) rfl).cell 2)
        · exact s4 rfl (fun _ _ _ h => h) fun cx => run_indexSl (e := 3) (m := k) rfl (by kernel_rfl) (by kernel_rfl) (cx.anc 3 rfl) (cx.anc 4 rfl) (by omega) (by omega) (At.of_own (cx.row (cx.init 2 _ rfl) rfl)) (by simp)
        · exact s4 rfl (fun _ _ _ h => h) fun cx => run_load1 rfl (by kernel_rfl) (cx.anc 5 rfl) (At.cellAd (At.of_own (cx.row (cx.init 2 _ rfl) rfl)) (getD_int (by omega)))
        · exact sv_call rfl rfl rfl rfl rfl (fun _ _ _ h => h) fun ρ β W X cx => ⟨_, _, run_callF (args := #[.slice SA bs.length sc, .int .i64 (((own.take 20)).getD k 0)]) rfl cx.sees rfl (by kernel_rfl) (map2 (cx.anc 1 rfl) (cx.anc 6 rfl)), stand_any _ _ bs (((own.take 20)).getD k 0) _ (hSA.ext cx.upd.to_ext) hbs⟩
      intro σ β X W15 hD hX hst15 fr hfr
      simp only [zM, exq 0 (hX 0 _ rfl), exq 1 (hX 1 _ rfl), exq 2 (hX 2 _ rfl), exq 3 (hX 3 _ rfl), exq 4 (hX 4 _ rfl), exq 5 (hX 5 _ rfl)] at hst15
      dsimp only [mgT, vals, List.take, List.drop, List.cons_append, List.nil_append] at hfr
      clear hX hD; subst hfr; clear σ β X
      refine then_normal ?_
      rcases Bool.eq_false_or_eq_true ((standF bs (((own.take 20)).getD k 0)) != 1) with hs16 | hs16
      · skip
        have hs16p : (standF bs (((own.take 20)).getD k 0)) ≠ 1 := by simpa using hs16
        refine wp_cond_true (show Act.eval _ _ = .bool true from (congrArg Value.bool hs16)) ?_
        refine wp_seq ?_
        refine wp_region_P [0, 1] [.k 63 (.bool true), .k 6 (.bool true)] [(6, 1, 1, 7), (56, 0, 1, 57)] hst15 fun W17 hst17 => ?_
        refine then_normal ?_
        refine wp_ret ?_
        refine blk_ret ?_
        refine then_ret ?_
        refine then_ret ?_
        refine blk_ret ?_
        refine then_ret ?_
        refine bodyPost_ret (v := .bool true) (by simp [results, Tryd.results9, go_sem]) rfl ?_
        exact Ret.of rfl hst17.ext
      have hs16p : (standF bs (((own.take 20)).getD k 0)) = 1 := by simpa using hs16
      refine wp_cond_false (show Act.eval _ _ = .bool false from (congrArg Value.bool hs16)) ?_
      refine wp_skip ?_
      refine blk_normal ?_
      refine then_normal ?_
      refine wp_region_P [0, 1, 3] [.k 52 (.int .i64 ((k : Int))), tI 53 ((k : Int) + 1) (by omega), .k 10 (.int .i64 ((k : Int) + 1))] [(10, 2, 1, 11), (41, 0, 2, 43)] hst15 fun W18 hst18 => ?_
      refine then_normal ?_
      refine ⟨(own.take 20).length - ((k + 1)), by omega, ?_⟩
      have hp19 := hst18.pick [0, 1, 2, 3, 4, 5] (by decide) rfl
      exact ⟨(k + 1), [(u11_.getD 0 undef), .int .i64 ((k : Int)), .pointer (some ⟨B5_1, 2, none⟩), .slice A18q_3 ((own.take 20).length) c18q_3, .int .i64 (((own.take 20).length : Int)), .bool (decide ((k : Int) < ((own.take 20).length : Int))), .int .i64 ((k : Int)), .int .i64 ((k : Int) + 1), .pointer (some ⟨B5_1, 4, none⟩), .slice SA bs.length sc, .pointer (some ⟨B5_1, 2, none⟩), .slice A18q_3 ((own.take 20).length) c18q_3, .int .i64 ((k : Int)), .pointer (some ((ad A18q_3).add k)), .int .i64 (((own.take 20)).getD k 0), .int .i64 (standF bs (((own.take 20)).getD k 0)), .bool ((standF bs (((own.take 20)).getD k 0)) != 1), (u11_.getD 17 undef)], by omega, rfl, rfl, hp19⟩
    have hs14p : ¬ ((k : Int) < ((own.take 20).length : Int)) := by simpa using hs14
    refine wp_cond_false (show Act.eval _ _ = .bool false from (congrArg Value.bool hs14)) ?_
    refine wp_exit ?_
    refine then_exit ?_
    refine then_exit ?_
    refine blk_eq ?_
    refine then_normal ?_
    refine wp_seq ?_
    refine wp_region_T [0, 0, 2, 0, 8, 24, 63, 127, 255, 255, 0, 1535, 4095] [[4], [], [5], [], [5], [], [3], [], [], [], [], [7]] [[], [], [], [], [], [], [6], [], [], [], [7], [8]] [[], [], [], [], [], [], [], [], [], [], [], [7]] [.c 65 (.agg #[.int .i64 (nminF f l), .int .i64 (nmaxF f l), .int .i64 (vpgF l), .int .i64 (vslF l), .bool (vhotF l), .slice A24_5 ((vrowF l).length) c24_5]), .k 66 (.pointer (some ⟨B5_1, 3, none⟩)), .c 67 (.int .i64 h1), .k 68 (.pointer (some ⟨B5_1, 4, none⟩)), .c 69 (.slice SA bs.length sc), .c 70 (.iface 43 (.slice SA bs.length sc)), .a 71, .a 64, .a 72, .c 73 (.bool (oldF (standF bs) h1 (nminF f l) || fzX (standF bs) (nmaxF f l))), .a 11, .n, .k 12 (.bool (oldF (standF bs) h1 (nminF f l) || fzX (standF bs) (nmaxF f l)))] (fun ix σ β X => match ix with | 0 => True | 1 => True | 2 => True | 3 => True | 4 => True | 5 => True | 6 => σ 71 = .tuple #[.agg #[.int .i64 (fzA h1 (standF bs) (nminF f l)), .int .i64 (if fzX (standF bs) (nmaxF f l) then 0 else (nmaxF f l)), .int .i64 (if fzX (standF bs) (nmaxF f l) then -1 else (vpgF l)), .int .i64 (if fzX (standF bs) (nmaxF f l) then 0 else (vslF l)), .bool (vhotF l), .slice (sA (tg (tg (β 71) 0) 5)) ((vrowF l).length) (sC (tg (tg (β 71) 0) 5))], .bool (oldF (standF bs) h1 (nminF f l) || fzX (standF bs) (nmaxF f l))] ∧ X 6 = eO 103 3 (.slice (sA (tg (tg (β 71) 0) 5)) ((vrowF l).length) (sC (tg (tg (β 71) 0) 5))) ((vrowF l).length) (flatR (vrowF l)) | 7 => σ 64 = .tuple #[.agg #[.int .i64 (fzA h1 (standF bs) (nminF f l)), .int .i64 (if fzX (standF bs) (nmaxF f l) then 0 else (nmaxF f l)), .int .i64 (if fzX (standF bs) (nmaxF f l) then -1 else (vpgF l)), .int .i64 (if fzX (standF bs) (nmaxF f l) then 0 else (vslF l)), .bool (vhotF l), .slice (sA (tg (tg (β 71) 0) 5)) ((vrowF l).length) (sC (tg (tg (β 71) 0) 5))], .bool (oldF (standF bs) h1 (nminF f l) || fzX (standF bs) (nmaxF f l))] | 8 => σ 72 = .agg #[.int .i64 (fzA h1 (standF bs) (nminF f l)), .int .i64 (if fzX (standF bs) (nmaxF f l) then 0 else (nmaxF f l)), .int .i64 (if fzX (standF bs) (nmaxF f l) then -1 else (vpgF l)), .int .i64 (if fzX (standF bs) (nmaxF f l) then 0 else (vslF l)), .bool (vhotF l), .slice (sA (tg (tg (β 71) 0) 5)) ((vrowF l).length) (sC (tg (tg (β 71) 0) 5))] | 9 => True | 10 => σ 11 = .pointer (some ⟨(pb (β 11)), 0, none⟩) ∧ X 7 = eB (pb (β 11)) 27 #[.int .i64 0, .int .i64 0, .int .i64 0, .int .i64 0, .bool false, .slice none 0 0] | 11 => X 8 = eB (pb (β 11)) 27 #[.int .i64 (fzA h1 (standF bs) (nminF f l)), .int .i64 (if fzX (standF bs) (nmaxF f l) then 0 else (nmaxF f l)), .int .i64 (if fzX (standF bs) (nmaxF f l) then -1 else (vpgF l)), .int .i64 (if fzX (standF bs) (nmaxF f l) then 0 else (vslF l)), .bool (vhotF l), .slice (sA (tg (tg (β 71) 0) 5)) ((vrowF l).length) (sC (tg (tg (β 71) 0) 5))] | _ => True) [0, 1, 2, 3, 4, 5, 6, 8] [0, 2, 4, 5, 6, 7, 8, 9, 10, 11] [(11, 10, 3, 13), (51, 7, 1, 52), (0, 0, 7, 7), (0, 8, 2, 2)] hst13 ?_ ?_ ?_
    · exact fun ix _ _ _ _ _ _ hs hb hx h => match ix, h with
      | 6, h => by dsimp only at h ⊢; rw [← hs 71 rfl, ← hb 71 rfl, ← hx 6 rfl]; exact h
      | 7, h => by dsimp only at h ⊢; rw [← hs 64 rfl, ← hb 71 rfl]; exact h
      | 8, h => by dsimp only at h ⊢; rw [← hs 72 rfl, ← hb 71 rfl]; exact h
      | 10, h => by dsimp only at h ⊢; rw [← hs 11 rfl, ← hb 11 rfl, ← hx 7 rfl]; exact h
      | 11, h => by dsimp only at h ⊢; rw [← hb 11 rfl, ← hb 71 rfl, ← hx 8 rfl]; exact h
      | 0, _ | 1, _ | 2, _ | 3, _ | 4, _ | 5, _ | 9, _ | _ + 12, _ => trivial
    · refine ⟨?_, ?_, ?_, ?_, ?_, ?_, ?_, ?_, ?_, ?_, trivial⟩
      · exact s4 rfl (fun _ _ _ h => h) fun cx => run_loadB (n := 6) rfl (by kernel_rfl) (by kernel_rfl) (cx.out 9 rfl) (cx.blk (cx.init 4 _ rfl) rfl) (Nat.le_of_ble_eq_true rfl) rfl
      · exact s4 rfl (fun _ _ _ h => h) fun cx => run_load1 rfl (by kernel_rfl) (cx.anc 1 rfl) ((cx.blk (cx.init 5 _ rfl) rfl).cell 3)
      · exact s4 rfl (fun _ _ _ h => h) fun cx => run_load1 rfl (by kernel_rfl) (cx.anc 3 rfl) ((cx.blk (cx.init 5 _ rfl) rfl).cell 4)
      · exact sv0 rfl rfl rfl rfl rfl (fun _ _ _ h => h) fun ρ β W X cx => by
          have fF69 : ρ (.tmp 69) = .slice SA bs.length sc := (cx.anc 4 rfl)
          simp [go_sem, fF69]
      · refine sv_any rfl rfl fun ρ β W X cx => ?_
        refine DoesU.call (run_callF (args := #[.agg #[.int .i64 (nminF f l), .int .i64 (nmaxF f l), .int .i64 (vpgF l), .int .i64 (vslF l), .bool (vhotF l), .slice A24_5 ((vrowF l).length) c24_5], .int .i64 h1, .iface 43 (.slice SA bs.length sc)]) rfl cx.sees rfl (by kernel_rfl) (map3 (cx.anc 0 rfl) (cx.anc 2 rfl) (cx.anc 5 rfl))) ?_
        refine (freeze_any _ _ _ _ _ _ _ (vrowF l) _ _ _ _ _ (At.of_ownN (cx.row (cx.init 3 _ rfl) rfl)) (by first | omega | decide | (simp; done) | (simp; omega)) (stand_ok _ _ _ bs _ (rfl) (hSA.ext cx.upd.to_ext) hbs) (hN.ext cx.upd.to_ext)).mono ?_
        rintro e W1 ⟨A4, c4, rfl, ho, hx⟩
        refine ⟨_, rfl, post_call [eO 103 3 (.slice A4 ((vrowF l).length) c4) ((vrowF l).length) (flatR (vrowF l))] rfl rfl hx (one_new (eO_new ho)) (List.pairwise_singleton _ _) (fun σ β' X' hs hb hv hN => ?_)⟩
        have hv1 := (hv 71 rfl).1; have hv2 := (hv 71 rfl).2
        exact ⟨hv1.trans (by rw [hv2]; rfl), (by rw [hv2]; exact (List.cons.inj hN).1)⟩
      · exact sv rfl rfl rfl rfl rfl _ (fun _ _ _ h => h) (fun β β' h => by rw [h 71 (by decide)]) fun ρ β W X cx => run_move' rfl (dTn (cx.anc 6 rfl)).1
      · exact sv rfl rfl rfl rfl rfl _ (fun _ _ _ h => h) (fun β β' h => by rw [h 71 (by decide)]) fun ρ β W X cx => run_extract' rfl (dTn (cx.anc 7 rfl)) rfl
      · exact s4 rfl (fun _ _ _ h => h) fun cx => run_extract' rfl (dTn (cx.anc 7 rfl)) rfl
      · refine sv_any rfl rfl fun ρ β W X cx => ?_
        exact dv_alloc (cs := #[.int .i64 0, .int .i64 0, .int .i64 0, .int .i64 0, .bool false, .slice none 0 0]) rfl (by kernel_rfl) rfl rfl (fun σ β' X' hs hb hv hx => ⟨hv, hx⟩)
      · refine sv_any rfl rfl fun ρ β W X cx => ?_
        exact dv_store (n := 6) rfl (dTn (cx.anc 10 rfl)).1 (dTn (cx.anc 8 rfl)) (by kernel_rfl) rfl rfl cx (dTn (cx.anc 10 rfl)).2 rfl (Nat.le_of_ble_eq_true rfl) rfl rfl rfl rfl (fun σ β' X' hs hb hx => by rw [hb 11, hb 71]; exact hx)
    intro σ β X W20 hD hX hst20 fr hfr
    obtain ⟨A71_20, hu_A71_20⟩ : ∃ z, sA (tg (tg (β 71) 0) 5) = z := ⟨_, rfl⟩
    obtain ⟨c71_20, hu_c71_20⟩ : ∃ z, sC (tg (tg (β 71) 0) 5) = z := ⟨_, rfl⟩
    obtain ⟨B11_20, hu_B11_20⟩ : ∃ z, pb (β 11) = z := ⟨_, rfl⟩
    simp only [zM, exq 0 (hX 0 _ rfl), exq 1 (hX 1 _ rfl), exq 2 (hX 2 _ rfl), exq 3 (hX 3 _ rfl), exq 4 (hX 4 _ rfl), exq 5 (hX 5 _ rfl), exq 6 ((dTn (hD 6 lq)).2), exq 8 ((dTn (hD 11 lq))), hu_A71_20, hu_c71_20, hu_B11_20] at hst20
    dsimp only [mgT, vals, List.take, List.drop, List.cons_append, List.nil_append] at hfr
    simp only [ed 71 ((dTn (hD 6 lq)).1), ed 64 ((dTn (hD 7 lq))), ed 72 ((dTn (hD 8 lq))), ed 11 ((dTn (hD 10 lq)).1), hu_A71_20, hu_c71_20, hu_B11_20] at hfr
    clear hX hD hu_A71_20 hu_c71_20 hu_B11_20; subst hfr; clear σ β X
    refine then_normal ?_
    refine wp_seq ?_
    refine wp_region_T [0, 0, 2, 0, 8, 0, 32, 96, 255, 511] [[4], [], [5], [], [5], [], [5], [], [1, 2]] [] [] [.c 74 (.agg #[.int .i64 (nminF f l), .int .i64 (nmaxF f l), .int .i64 (vpgF l), .int .i64 (vslF l), .bool (vhotF l), .slice A24_5 ((vrowF l).length) c24_5]), .k 75 (.pointer (some ⟨B5_1, 0, none⟩)), .c 76 (.agg #[.int .i64 (turnF h1 dd), .slice A18_3 ((ls.take 60).length) c18_3]), .k 77 (.pointer (some ⟨B5_1, 2, none⟩)), .c 78 (.slice A18q_3 ((own.take 20).length) c18q_3), .k 79 (.pointer (some ⟨B5_1, 4, none⟩)), .c 80 (.slice SA bs.length sc), .c 81 (.iface 43 (.slice SA bs.length sc)), .c 82 (.bool (visF (turnF h1 dd) (ls.take 60) (own.take 20) (standF bs) (nminF f l) (nmaxF f l))), .k 13 (.bool (visF (turnF h1 dd) (ls.take 60) (own.take 20) (standF bs) (nminF f l) (nmaxF f l)))] (fun _ _ _ _ => True) [0, 1, 2, 3, 4, 5, 6, 7] [0, 2, 4, 6, 7, 8] [(13, 9, 1, 14), (60, 0, 9, 69)] hst20 ?_ ?_ ?_
    · exact fun _ _ _ _ _ _ _ _ _ _ h => h
    · refine ⟨?_, ?_, ?_, ?_, ?_, ?_, trivial⟩
      · exact s4 rfl (fun _ _ _ h => h) fun cx => run_loadB (n := 6) rfl (by kernel_rfl) (by kernel_rfl) (cx.out 9 rfl) (cx.blk (cx.init 4 _ rfl) rfl) (Nat.le_of_ble_eq_true rfl) rfl
      · exact s4 rfl (fun _ _ _ h => h) fun cx => run_loadB (n := 2) rfl (by kernel_rfl) (by kernel_rfl) (cx.anc 1 rfl) (cx.blk (cx.init 5 _ rfl) rfl) (Nat.le_of_ble_eq_true rfl) rfl
      · exact s4 rfl (fun _ _ _ h => h) fun cx => run_load1 rfl (by kernel_rfl) (cx.anc 3 rfl) ((cx.blk (cx.init 5 _ rfl) rfl).cell 2)
      · exact s4 rfl (fun _ _ _ h => h) fun cx => run_load1 rfl (by kernel_rfl) (cx.anc 5 rfl) ((cx.blk (cx.init 5 _ rfl) rfl).cell 4)
      · exact sv0 rfl rfl rfl rfl rfl (fun _ _ _ h => h) fun ρ β W X cx => by
          have fF80 : ρ (.tmp 80) = .slice SA bs.length sc := (cx.anc 6 rfl)
          simp [go_sem, fF80]
      · exact sv_call rfl rfl rfl rfl rfl (fun _ _ _ h => h) fun ρ β W X cx => ⟨_, _, run_callF (args := #[.agg #[.int .i64 (nminF f l), .int .i64 (nmaxF f l), .int .i64 (vpgF l), .int .i64 (vslF l), .bool (vhotF l), .slice A24_5 ((vrowF l).length) c24_5], .agg #[.int .i64 (turnF h1 dd), .slice A18_3 ((ls.take 60).length) c18_3], .slice A18q_3 ((own.take 20).length) c18q_3, .iface 43 (.slice SA bs.length sc)]) rfl cx.sees rfl (by kernel_rfl) (map4 (cx.anc 0 rfl) (cx.anc 2 rfl) (cx.anc 4 rfl) (cx.anc 7 rfl)), visible_any _ _ _ _ _ _ _ _ _ _ _ (ls.take 60) _ _ (own.take 20) _ _ _ _ (At.of_own (cx.row (cx.init 1 _ rfl) rfl)) (by first | omega | decide | (simp; done) | (simp; omega)) (At.of_own (cx.row (cx.init 2 _ rfl) rfl)) (by first | omega | decide | (simp; done) | (simp; omega)) (stand_ok _ _ _ bs _ (rfl) (hSA.ext cx.upd.to_ext) hbs)⟩
    intro σ β X W21 hD hX hst21 fr hfr
    simp only [zM, exq 0 (hX 0 _ rfl), exq 1 (hX 1 _ rfl), exq 2 (hX 2 _ rfl), exq 3 (hX 3 _ rfl), exq 4 (hX 4 _ rfl), exq 5 (hX 5 _ rfl), exq 6 (hX 6 _ rfl), exq 7 (hX 7 _ rfl)] at hst21
    dsimp only [mgT, vals, List.take, List.drop, List.cons_append, List.nil_append] at hfr
    clear hX hD; subst hfr; clear σ β X
    refine then_normal ?_
    refine wp_seq ?_
    refine wp_seq ?_
    have hb1 : beforeF (nminF f l) h1 = true → beforeF (nminF f l) (turnF h1 dd) = true := near_min hf hr hd hh1 rfl
    have hb2 : beforeF (nmaxF f l) h1 = true → beforeF (nmaxF f l) (turnF h1 dd) = true := near_max hf hr hd hh1 rfl
    have hfz : visF (turnF h1 dd) (ls.take 60) (own.take 20) (standF bs) (fzA h1 (standF bs) (nminF f l)) (if fzX (standF bs) (nmaxF f l) then 0 else (nmaxF f l)) = visF (turnF h1 dd) (ls.take 60) (own.take 20) (standF bs) (nminF f l) (nmaxF f l) := D_freeze (stand_2 bs) hb1 hl (near_ne2 f l)
    have hd23 : (!((visF (turnF h1 dd) (ls.take 60) (own.take 20) (standF bs) (fzA h1 (standF bs) (nminF f l)) (if fzX (standF bs) (nmaxF f l) then 0 else (nmaxF f l))) == (visF (turnF h1 dd) (ls.take 60) (own.take 20) (standF bs) (nminF f l) (nmaxF f l)))) = false := by rw [hfz]; simp
    have hd24 : ((deadF (standF bs) h1 (nminF f l) (nmaxF f l)) && (visF (turnF h1 dd) (ls.take 60) (own.take 20) (standF bs) (nminF f l) (nmaxF f l))) = false := D_dead (stand_2 bs) hb2 hl
    have hd25 : ((allF (standF bs) h1 (nminF f l) (nmaxF f l)) && (!(visF (turnF h1 dd) (ls.take 60) (own.take 20) (standF bs) (nminF f l) (nmaxF f l)))) = false := D_all hb1 hl (near_ne2 f l)
    refine wp_region_T [0, 0, 2, 0, 8, 0, 32, 96, 255, 0, 1023, 2047, 4095, 4095, 12287, 4095, 36863, 102399, 262143, 524287, 1048575, 2097151, 4194303, 8388607, 16777215, 16777215, 50331647, 16777215, 150994943, 419430399, 1073741823, 2147483647, 4294967295, 8589934591, 17179869183, 34359738367] [[7], [], [5], [], [5], [], [5], [], [1, 2], [], [], [], [4], [], [5], [], [5], [], [], [], [], [], [], [], [4], [], [5], [], [5]] [] [] [.c 83 (.agg #[.int .i64 (fzA h1 (standF bs) (nminF f l)), .int .i64 (if fzX (standF bs) (nmaxF f l) then 0 else (nmaxF f l)), .int .i64 (if fzX (standF bs) (nmaxF f l) then -1 else (vpgF l)), .int .i64 (if fzX (standF bs) (nmaxF f l) then 0 else (vslF l)), .bool (vhotF l), .slice A71_20 ((vrowF l).length) c71_20]), .k 84 (.pointer (some ⟨B5_1, 0, none⟩)), .c 85 (.agg #[.int .i64 (turnF h1 dd), .slice A18_3 ((ls.take 60).length) c18_3]), .k 86 (.pointer (some ⟨B5_1, 2, none⟩)), .c 87 (.slice A18q_3 ((own.take 20).length) c18q_3), .k 88 (.pointer (some ⟨B5_1, 4, none⟩)), .c 89 (.slice SA bs.length sc), .c 90 (.iface 43 (.slice SA bs.length sc)), .c 91 (.bool (visF (turnF h1 dd) (ls.take 60) (own.take 20) (standF bs) (fzA h1 (standF bs) (nminF f l)) (if fzX (standF bs) (nmaxF f l) then 0 else (nmaxF f l)))), .k 92 (.bool (visF (turnF h1 dd) (ls.take 60) (own.take 20) (standF bs) (nminF f l) (nmaxF f l))), .c 93 (.bool false), .k 94 (.bool false), .c 95 (.agg #[.int .i64 (nminF f l), .int .i64 (nmaxF f l), .int .i64 (vpgF l), .int .i64 (vslF l), .bool (vhotF l), .slice A24_5 ((vrowF l).length) c24_5]), .k 96 (.pointer (some ⟨B5_1, 3, none⟩)), .c 97 (.int .i64 h1), .k 98 (.pointer (some ⟨B5_1, 4, none⟩)), .c 99 (.slice SA bs.length sc), .c 100 (.iface 43 (.slice SA bs.length sc)), .c 101 (.bool (deadF (standF bs) h1 (nminF f l) (nmaxF f l))), .k 102 (.bool (deadF (standF bs) h1 (nminF f l) (nmaxF f l))), .z 103 (deadF (standF bs) h1 (nminF f l) (nmaxF f l)) (.bool (visF (turnF h1 dd) (ls.take 60) (own.take 20) (standF bs) (nminF f l) (nmaxF f l))), tAk 104 (deadF (standF bs) h1 (nminF f l) (nmaxF f l)) (visF (turnF h1 dd) (ls.take 60) (own.take 20) (standF bs) (nminF f l) (nmaxF f l)) false hd24, .k 105 (.bool false), .k 106 (.bool false), .c 107 (.agg #[.int .i64 (nminF f l), .int .i64 (nmaxF f l), .int .i64 (vpgF l), .int .i64 (vslF l), .bool (vhotF l), .slice A24_5 ((vrowF l).length) c24_5]), .k 108 (.pointer (some ⟨B5_1, 3, none⟩)), .c 109 (.int .i64 h1), .k 110 (.pointer (some ⟨B5_1, 4, none⟩)), .c 111 (.slice SA bs.length sc), .c 112 (.iface 43 (.slice SA bs.length sc)), .c 113 (.bool (allF (standF bs) h1 (nminF f l) (nmaxF f l))), .k 114 (.bool (allF (standF bs) h1 (nminF f l) (nmaxF f l))), .z 115 (allF (standF bs) h1 (nminF f l) (nmaxF f l)) (.bool (visF (turnF h1 dd) (ls.take 60) (own.take 20) (standF bs) (nminF f l) (nmaxF f l))), .z 116 (allF (standF bs) h1 (nminF f l) (nmaxF f l)) (.bool (!(visF (turnF h1 dd) (ls.take 60) (own.take 20) (standF bs) (nminF f l) (nmaxF f l)))), tAk 117 (allF (standF bs) h1 (nminF f l) (nmaxF f l)) (!(visF (turnF h1 dd) (ls.take 60) (own.take 20) (standF bs) (nminF f l) (nmaxF f l))) false hd25, .k 118 (.bool false)] (fun _ _ _ _ => True) [0, 1, 2, 3, 4, 5, 6, 7] [0, 2, 4, 6, 7, 8, 10, 12, 14, 16, 17, 18, 24, 26, 28, 29, 30] [(83, 0, 36, 119)] hst21 ?_ ?_ ?_
    · exact fun _ _ _ _ _ _ _ _ _ _ h => h
    · refine ⟨?_, ?_, ?_, ?_, ?_, ?_, ?_, ?_, ?_, ?_, ?_, ?_, ?_, ?_, ?_, ?_, ?_, trivial⟩
      · exact s4 rfl (fun _ _ _ h => h) fun cx => run_loadB (n := 6) rfl (by kernel_rfl) (by kernel_rfl) (cx.out 11 rfl) (cx.blk (cx.init 7 _ rfl) rfl) (Nat.le_of_ble_eq_true rfl) rfl
      · exact s4 rfl (fun _ _ _ h => h) fun cx => run_loadB (n := 2) rfl (by kernel_rfl) (by kernel_rfl) (cx.anc 1 rfl) (cx.blk (cx.init 5 _ rfl) rfl) (Nat.le_of_ble_eq_true rfl) rfl
      · exact s4 rfl (fun _ _ _ h => h) fun cx => run_load1 rfl (by kernel_rfl) (cx.anc 3 rfl) ((cx.blk (cx.init 5 _ rfl) rfl).cell 2)
      · exact s4 rfl (fun _ _ _ h => h) fun cx => run_load1 rfl (by kernel_rfl) (cx.anc 5 rfl) ((cx.blk (cx.init 5 _ rfl) rfl).cell 4)
      · exact sv0 rfl rfl rfl rfl rfl (fun _ _ _ h => h) fun ρ β W X cx => by
          have fF89 : ρ (.tmp 89) = .slice SA bs.length sc := (cx.anc 6 rfl)
          simp [go_sem, fF89]
      · exact sv_call rfl rfl rfl rfl rfl (fun _ _ _ h => h) fun ρ β W X cx => ⟨_, _, run_callF (args := #[.agg #[.int .i64 (fzA h1 (standF bs) (nminF f l)), .int .i64 (if fzX (standF bs) (nmaxF f l) then 0 else (nmaxF f l)), .int .i64 (if fzX (standF bs) (nmaxF f l) then -1 else (vpgF l)), .int .i64 (if fzX (standF bs) (nmaxF f l) then 0 else (vslF l)), .bool (vhotF l), .slice A71_20 ((vrowF l).length) c71_20], .agg #[.int .i64 (turnF h1 dd), .slice A18_3 ((ls.take 60).length) c18_3], .slice A18q_3 ((own.take 20).length) c18q_3, .iface 43 (.slice SA bs.length sc)]) rfl cx.sees rfl (by kernel_rfl) (map4 (cx.anc 0 rfl) (cx.anc 2 rfl) (cx.anc 4 rfl) (cx.anc 7 rfl)), visible_any _ _ _ _ _ _ _ _ _ _ _ (ls.take 60) _ _ (own.take 20) _ _ _ _ (At.of_own (cx.row (cx.init 1 _ rfl) rfl)) (by first | omega | decide | (simp; done) | (simp; omega)) (At.of_own (cx.row (cx.init 2 _ rfl) rfl)) (by first | omega | decide | (simp; done) | (simp; omega)) (stand_ok _ _ _ bs _ (rfl) (hSA.ext cx.upd.to_ext) hbs)⟩
      · exact sv0 rfl rfl rfl rfl rfl (fun _ _ _ h => h.trans (congrArg Value.bool hd23)) fun ρ β W X cx => by
          have fF91 : ρ (.tmp 91) = .bool (visF (turnF h1 dd) (ls.take 60) (own.take 20) (standF bs) (fzA h1 (standF bs) (nminF f l)) (if fzX (standF bs) (nmaxF f l) then 0 else (nmaxF f l))) := (cx.anc 8 rfl)
          have fF92 : ρ (.tmp 92) = .bool (visF (turnF h1 dd) (ls.take 60) (own.take 20) (standF bs) (nminF f l) (nmaxF f l)) := (cx.anc 9 rfl)
          simp [go_sem, fF91, fF92]
      · exact s5 rfl (fun _ _ _ h => h) (fun cx => (cx.anc 11 rfl)) fun cx => run_loadB (n := 6) rfl (by kernel_rfl) (by kernel_rfl) (cx.out 9 rfl) (cx.blk (cx.init 4 _ rfl) rfl) (Nat.le_of_ble_eq_true rfl) rfl
      · exact s5 rfl (fun _ _ _ h => h) (fun cx => (cx.anc 11 rfl)) fun cx => run_load1 rfl (by kernel_rfl) (cx.anc 13 rfl) ((cx.blk (cx.init 5 _ rfl) rfl).cell 3)
      · exact s5 rfl (fun _ _ _ h => h) (fun cx => (cx.anc 11 rfl)) fun cx => run_load1 rfl (by kernel_rfl) (cx.anc 15 rfl) ((cx.blk (cx.init 5 _ rfl) rfl).cell 4)
      · exact sv0_on rfl rfl rfl rfl rfl rfl (fun _ _ _ h => h) (fun _ _ _ _ cx => (cx.anc 11 rfl)) fun ρ β W X cx => by
          have fF99 : ρ (.tmp 99) = .slice SA bs.length sc := (cx.anc 16 rfl)
          simp [go_sem, fF99]
      · exact sv_call_on rfl rfl rfl rfl rfl rfl (fun _ _ _ h => h) (fun _ _ _ _ cx => (cx.anc 11 rfl)) fun ρ β W X cx => ⟨_, _, run_callF (args := #[.agg #[.int .i64 (nminF f l), .int .i64 (nmaxF f l), .int .i64 (vpgF l), .int .i64 (vslF l), .bool (vhotF l), .slice A24_5 ((vrowF l).length) c24_5], .int .i64 h1, .iface 43 (.slice SA bs.length sc)]) rfl cx.sees rfl (by kernel_rfl) (map3 (cx.anc 12 rfl) (cx.anc 14 rfl) (cx.anc 17 rfl)), dead_any _ _ _ _ _ _ _ _ _ _ _ _ _ (stand_ok _ _ _ bs _ (rfl) (hSA.ext cx.upd.to_ext) hbs)⟩
      · exact s5 rfl (fun _ _ _ h => h) (fun cx => (cx.anc 23 rfl)) fun cx => run_loadB (n := 6) rfl (by kernel_rfl) (by kernel_rfl) (cx.out 9 rfl) (cx.blk (cx.init 4 _ rfl) rfl) (Nat.le_of_ble_eq_true rfl) rfl
      · exact s5 rfl (fun _ _ _ h => h) (fun cx => (cx.anc 23 rfl)) fun cx => run_load1 rfl (by kernel_rfl) (cx.anc 25 rfl) ((cx.blk (cx.init 5 _ rfl) rfl).cell 3)
      · exact s5 rfl (fun _ _ _ h => h) (fun cx => (cx.anc 23 rfl)) fun cx => run_load1 rfl (by kernel_rfl) (cx.anc 27 rfl) ((cx.blk (cx.init 5 _ rfl) rfl).cell 4)
      · exact sv0_on rfl rfl rfl rfl rfl rfl (fun _ _ _ h => h) (fun _ _ _ _ cx => (cx.anc 23 rfl)) fun ρ β W X cx => by
          have fF111 : ρ (.tmp 111) = .slice SA bs.length sc := (cx.anc 28 rfl)
          simp [go_sem, fF111]
      · exact sv_call_on rfl rfl rfl rfl rfl rfl (fun _ _ _ h => h) (fun _ _ _ _ cx => (cx.anc 23 rfl)) fun ρ β W X cx => ⟨_, _, run_callF (args := #[.agg #[.int .i64 (nminF f l), .int .i64 (nmaxF f l), .int .i64 (vpgF l), .int .i64 (vslF l), .bool (vhotF l), .slice A24_5 ((vrowF l).length) c24_5], .int .i64 h1, .iface 43 (.slice SA bs.length sc)]) rfl cx.sees rfl (by kernel_rfl) (map3 (cx.anc 24 rfl) (cx.anc 26 rfl) (cx.anc 29 rfl)), all_any _ _ _ _ _ _ _ _ _ _ _ _ _ (stand_ok _ _ _ bs _ (rfl) (hSA.ext cx.upd.to_ext) hbs)⟩
    intro σ β X W22 hD hX hst22 fr hfr
    simp only [zM, exq 0 (hX 0 _ rfl), exq 1 (hX 1 _ rfl), exq 2 (hX 2 _ rfl), exq 3 (hX 3 _ rfl), exq 4 (hX 4 _ rfl), exq 5 (hX 5 _ rfl), exq 6 (hX 6 _ rfl), exq 7 (hX 7 _ rfl)] at hst22
    dsimp only [mgT, vals, List.take, List.drop, List.cons_append, List.nil_append] at hfr
    clear hX hD; subst hfr; clear σ β X
    refine then_normal ?_
    refine wp_cond_false (show Act.eval _ _ = .bool false from rfl) ?_
    refine wp_skip ?_
    refine then_normal ?_
    refine wp_seq ?_
    have hd27 : (oldF (standF bs) h1 (fzA h1 (standF bs) (nminF f l)) || fzX (standF bs) (if fzX (standF bs) (nmaxF f l) then 0 else (nmaxF f l))) = false := D_more
    refine wp_region_T [0, 0, 2, 0, 8, 24, 63, 127, 255, 255, 0, 1535, 4095] [[7], [], [5], [], [5], [], [6], [], [], [], [], [9]] [[], [], [], [], [], [], [8], [], [], [], [9], [10]] [[], [], [], [], [], [], [], [], [], [], [], [9]] [.c 120 (.agg #[.int .i64 (fzA h1 (standF bs) (nminF f l)), .int .i64 (if fzX (standF bs) (nmaxF f l) then 0 else (nmaxF f l)), .int .i64 (if fzX (standF bs) (nmaxF f l) then -1 else (vpgF l)), .int .i64 (if fzX (standF bs) (nmaxF f l) then 0 else (vslF l)), .bool (vhotF l), .slice A71_20 ((vrowF l).length) c71_20]), .k 121 (.pointer (some ⟨B5_1, 3, none⟩)), .c 122 (.int .i64 h1), .k 123 (.pointer (some ⟨B5_1, 4, none⟩)), .c 124 (.slice SA bs.length sc), .c 125 (.iface 43 (.slice SA bs.length sc)), .a 126, .a 119, .a 127, .c 128 (.bool false), .a 14, .n, .k 15 (.bool false)] (fun ix σ β X => match ix with | 0 => True | 1 => True | 2 => True | 3 => True | 4 => True | 5 => True | 6 => σ 126 = .tuple #[.agg #[.int .i64 (fzA h1 (standF bs) (fzA h1 (standF bs) (nminF f l))), .int .i64 (if fzX (standF bs) (if fzX (standF bs) (nmaxF f l) then 0 else (nmaxF f l)) then 0 else (if fzX (standF bs) (nmaxF f l) then 0 else (nmaxF f l))), .int .i64 (if fzX (standF bs) (if fzX (standF bs) (nmaxF f l) then 0 else (nmaxF f l)) then -1 else (if fzX (standF bs) (nmaxF f l) then -1 else (vpgF l))), .int .i64 (if fzX (standF bs) (if fzX (standF bs) (nmaxF f l) then 0 else (nmaxF f l)) then 0 else (if fzX (standF bs) (nmaxF f l) then 0 else (vslF l))), .bool (vhotF l), .slice (sA (tg (tg (β 126) 0) 5)) ((vrowF l).length) (sC (tg (tg (β 126) 0) 5))], .bool (oldF (standF bs) h1 (fzA h1 (standF bs) (nminF f l)) || fzX (standF bs) (if fzX (standF bs) (nmaxF f l) then 0 else (nmaxF f l)))] ∧ X 8 = eO 103 3 (.slice (sA (tg (tg (β 126) 0) 5)) ((vrowF l).length) (sC (tg (tg (β 126) 0) 5))) ((vrowF l).length) (flatR (vrowF l)) | 7 => σ 119 = .tuple #[.agg #[.int .i64 (fzA h1 (standF bs) (fzA h1 (standF bs) (nminF f l))), .int .i64 (if fzX (standF bs) (if fzX (standF bs) (nmaxF f l) then 0 else (nmaxF f l)) then 0 else (if fzX (standF bs) (nmaxF f l) then 0 else (nmaxF f l))), .int .i64 (if fzX (standF bs) (if fzX (standF bs) (nmaxF f l) then 0 else (nmaxF f l)) then -1 else (if fzX (standF bs) (nmaxF f l) then -1 else (vpgF l))), .int .i64 (if fzX (standF bs) (if fzX (standF bs) (nmaxF f l) then 0 else (nmaxF f l)) then 0 else (if fzX (standF bs) (nmaxF f l) then 0 else (vslF l))), .bool (vhotF l), .slice (sA (tg (tg (β 126) 0) 5)) ((vrowF l).length) (sC (tg (tg (β 126) 0) 5))], .bool (oldF (standF bs) h1 (fzA h1 (standF bs) (nminF f l)) || fzX (standF bs) (if fzX (standF bs) (nmaxF f l) then 0 else (nmaxF f l)))] | 8 => σ 127 = .agg #[.int .i64 (fzA h1 (standF bs) (fzA h1 (standF bs) (nminF f l))), .int .i64 (if fzX (standF bs) (if fzX (standF bs) (nmaxF f l) then 0 else (nmaxF f l)) then 0 else (if fzX (standF bs) (nmaxF f l) then 0 else (nmaxF f l))), .int .i64 (if fzX (standF bs) (if fzX (standF bs) (nmaxF f l) then 0 else (nmaxF f l)) then -1 else (if fzX (standF bs) (nmaxF f l) then -1 else (vpgF l))), .int .i64 (if fzX (standF bs) (if fzX (standF bs) (nmaxF f l) then 0 else (nmaxF f l)) then 0 else (if fzX (standF bs) (nmaxF f l) then 0 else (vslF l))), .bool (vhotF l), .slice (sA (tg (tg (β 126) 0) 5)) ((vrowF l).length) (sC (tg (tg (β 126) 0) 5))] | 9 => True | 10 => σ 14 = .pointer (some ⟨(pb (β 14)), 0, none⟩) ∧ X 9 = eB (pb (β 14)) 27 #[.int .i64 0, .int .i64 0, .int .i64 0, .int .i64 0, .bool false, .slice none 0 0] | 11 => X 10 = eB (pb (β 14)) 27 #[.int .i64 (fzA h1 (standF bs) (fzA h1 (standF bs) (nminF f l))), .int .i64 (if fzX (standF bs) (if fzX (standF bs) (nmaxF f l) then 0 else (nmaxF f l)) then 0 else (if fzX (standF bs) (nmaxF f l) then 0 else (nmaxF f l))), .int .i64 (if fzX (standF bs) (if fzX (standF bs) (nmaxF f l) then 0 else (nmaxF f l)) then -1 else (if fzX (standF bs) (nmaxF f l) then -1 else (vpgF l))), .int .i64 (if fzX (standF bs) (if fzX (standF bs) (nmaxF f l) then 0 else (nmaxF f l)) then 0 else (if fzX (standF bs) (nmaxF f l) then 0 else (vslF l))), .bool (vhotF l), .slice (sA (tg (tg (β 126) 0) 5)) ((vrowF l).length) (sC (tg (tg (β 126) 0) 5))] | _ => True) [0, 1, 2, 3, 4, 5, 6, 7, 8, 10] [0, 2, 4, 5, 6, 7, 8, 9, 10, 11] [(14, 10, 3, 16), (103, 7, 1, 104), (0, 0, 7, 7), (0, 8, 2, 2)] hst22 ?_ ?_ ?_
    · exact fun ix _ _ _ _ _ _ hs hb hx h => match ix, h with
      | 6, h => by dsimp only at h ⊢; rw [← hs 126 rfl, ← hb 126 rfl, ← hx 8 rfl]; exact h
      | 7, h => by dsimp only at h ⊢; rw [← hs 119 rfl, ← hb 126 rfl]; exact h
      | 8, h => by dsimp only at h ⊢; rw [← hs 127 rfl, ← hb 126 rfl]; exact h
      | 10, h => by dsimp only at h ⊢; rw [← hs 14 rfl, ← hb 14 rfl, ← hx 9 rfl]; exact h
      | 11, h => by dsimp only at h ⊢; rw [← hb 14 rfl, ← hb 126 rfl, ← hx 10 rfl]; exact h
      | 0, _ | 1, _ | 2, _ | 3, _ | 4, _ | 5, _ | 9, _ | _ + 12, _ => trivial
    · refine ⟨?_, ?_, ?_, ?_, ?_, ?_, ?_, ?_, ?_, ?_, trivial⟩
      · exact s4 rfl (fun _ _ _ h => h) fun cx => run_loadB (n := 6) rfl (by kernel_rfl) (by kernel_rfl) (cx.out 11 rfl) (cx.blk (cx.init 7 _ rfl) rfl) (Nat.le_of_ble_eq_true rfl) rfl
      · exact s4 rfl (fun _ _ _ h => h) fun cx => run_load1 rfl (by kernel_rfl) (cx.anc 1 rfl) ((cx.blk (cx.init 5 _ rfl) rfl).cell 3)
      · exact s4 rfl (fun _ _ _ h => h) fun cx => run_load1 rfl (by kernel_rfl) (cx.anc 3 rfl) ((cx.blk (cx.init 5 _ rfl) rfl).cell 4)
      · exact sv0 rfl rfl rfl rfl rfl (fun _ _ _ h => h) fun ρ β W X cx => by
          have fF124 : ρ (.tmp 124) = .slice SA bs.length sc := (cx.anc 4 rfl)
          simp [go_sem, fF124]
      · refine sv_any rfl rfl fun ρ β W X cx => ?_
        refine DoesU.call (run_callF (args := #[.agg #[.int .i64 (fzA h1 (standF bs) (nminF f l)), .int .i64 (if fzX (standF bs) (nmaxF f l) then 0 else (nmaxF f l)), .int .i64 (if fzX (standF bs) (nmaxF f l) then -1 else (vpgF l)), .int .i64 (if fzX (standF bs) (nmaxF f l) then 0 else (vslF l)), .bool (vhotF l), .slice A71_20 ((vrowF l).length) c71_20], .int .i64 h1, .iface 43 (.slice SA bs.length sc)]) rfl cx.sees rfl (by kernel_rfl) (map3 (cx.anc 0 rfl) (cx.anc 2 rfl) (cx.anc 5 rfl))) ?_
        refine (freeze_any _ _ _ _ _ _ _ (vrowF l) _ _ _ _ _ (At.of_ownN (cx.row (cx.init 6 _ rfl) rfl)) (by first | omega | decide | (simp; done) | (simp; omega)) (stand_ok _ _ _ bs _ (rfl) (hSA.ext cx.upd.to_ext) hbs) (hN.ext cx.upd.to_ext)).mono ?_
        rintro e W1 ⟨A4, c4, rfl, ho, hx⟩
        refine ⟨_, rfl, post_call [eO 103 3 (.slice A4 ((vrowF l).length) c4) ((vrowF l).length) (flatR (vrowF l))] rfl rfl hx (one_new (eO_new ho)) (List.pairwise_singleton _ _) (fun σ β' X' hs hb hv hN => ?_)⟩
        have hv1 := (hv 126 rfl).1; have hv2 := (hv 126 rfl).2
        exact ⟨hv1.trans (by rw [hv2]; rfl), (by rw [hv2]; exact (List.cons.inj hN).1)⟩
      · exact sv rfl rfl rfl rfl rfl _ (fun _ _ _ h => h) (fun β β' h => by rw [h 126 (by decide)]) fun ρ β W X cx => run_move' rfl (dTn (cx.anc 6 rfl)).1
      · exact sv rfl rfl rfl rfl rfl _ (fun _ _ _ h => h) (fun β β' h => by rw [h 126 (by decide)]) fun ρ β W X cx => run_extract' rfl (dTn (cx.anc 7 rfl)) rfl
      · exact s4 rfl (fun _ _ _ h => h.trans (congrArg Value.bool hd27)) fun cx => run_extract' rfl (dTn (cx.anc 7 rfl)) rfl
      · refine sv_any rfl rfl fun ρ β W X cx => ?_
        exact dv_alloc (cs := #[.int .i64 0, .int .i64 0, .int .i64 0, .int .i64 0, .bool false, .slice none 0 0]) rfl (by kernel_rfl) rfl rfl (fun σ β' X' hs hb hv hx => ⟨hv, hx⟩)
      · refine sv_any rfl rfl fun ρ β W X cx => ?_
        exact dv_store (n := 6) rfl (dTn (cx.anc 10 rfl)).1 (dTn (cx.anc 8 rfl)) (by kernel_rfl) rfl rfl cx (dTn (cx.anc 10 rfl)).2 rfl (Nat.le_of_ble_eq_true rfl) rfl rfl rfl rfl (fun σ β' X' hs hb hx => by rw [hb 14, hb 126]; exact hx)
    intro σ β X W26 hD hX hst26 fr hfr
    obtain ⟨A126_26, hu_A126_26⟩ : ∃ z, sA (tg (tg (β 126) 0) 5) = z := ⟨_, rfl⟩
    obtain ⟨c126_26, hu_c126_26⟩ : ∃ z, sC (tg (tg (β 126) 0) 5) = z := ⟨_, rfl⟩
    obtain ⟨B14_26, hu_B14_26⟩ : ∃ z, pb (β 14) = z := ⟨_, rfl⟩
    simp only [zM, exq 0 (hX 0 _ rfl), exq 1 (hX 1 _ rfl), exq 2 (hX 2 _ rfl), exq 3 (hX 3 _ rfl), exq 4 (hX 4 _ rfl), exq 5 (hX 5 _ rfl), exq 6 (hX 6 _ rfl), exq 7 (hX 7 _ rfl), exq 8 ((dTn (hD 6 lq)).2), exq 10 ((dTn (hD 11 lq))), hu_A126_26, hu_c126_26, hu_B14_26] at hst26
    dsimp only [mgT, vals, List.take, List.drop, List.cons_append, List.nil_append] at hfr
    simp only [ed 126 ((dTn (hD 6 lq)).1), ed 119 ((dTn (hD 7 lq))), ed 127 ((dTn (hD 8 lq))), ed 14 ((dTn (hD 10 lq)).1), hu_A126_26, hu_c126_26, hu_B14_26] at hfr
    clear hX hD hu_A126_26 hu_c126_26 hu_B14_26; subst hfr; clear σ β X
    refine then_normal ?_
    refine wp_seq ?_
    have hd29 : (sameV (fzA h1 (standF bs) (fzA h1 (standF bs) (nminF f l))) (if fzX (standF bs) (if fzX (standF bs) (nmaxF f l) then 0 else (nmaxF f l)) then 0 else (if fzX (standF bs) (nmaxF f l) then 0 else (nmaxF f l))) (if fzX (standF bs) (if fzX (standF bs) (nmaxF f l) then 0 else (nmaxF f l)) then -1 else (if fzX (standF bs) (nmaxF f l) then -1 else (vpgF l))) (if fzX (standF bs) (if fzX (standF bs) (nmaxF f l) then 0 else (nmaxF f l)) then 0 else (if fzX (standF bs) (nmaxF f l) then 0 else (vslF l))) (vhotF l) (vrowF l) (fzA h1 (standF bs) (nminF f l)) (if fzX (standF bs) (nmaxF f l) then 0 else (nmaxF f l)) (if fzX (standF bs) (nmaxF f l) then -1 else (vpgF l)) (if fzX (standF bs) (nmaxF f l) then 0 else (vslF l)) (vhotF l) (vrowF l)) = true := D_same1
    have hd30 : ((oldF (standF bs) h1 (nminF f l) || fzX (standF bs) (nmaxF f l)) || (sameV (fzA h1 (standF bs) (nminF f l)) (if fzX (standF bs) (nmaxF f l) then 0 else (nmaxF f l)) (if fzX (standF bs) (nmaxF f l) then -1 else (vpgF l)) (if fzX (standF bs) (nmaxF f l) then 0 else (vslF l)) (vhotF l) (vrowF l) (nminF f l) (nmaxF f l) (vpgF l) (vslF l) (vhotF l) (vrowF l))) = true := D_last
    refine wp_region_T [0, 1, 3, 7, 15, 31, 63, 63, 255, 511, 1023, 2047, 4095, 8191, 8191, 32767, 65535, 131071, 262143] [[], [], [], [], [], [], [9], [7], [8, 6], [], [], [], [], [7], [4], [6, 3]] [] [] [.k 129 (.bool true), .k 130 (.bool true), .k 131 (.bool false), .k 132 (.bool true), .k 133 (.bool true), .k 134 (.bool true), .c 135 (.agg #[.int .i64 (fzA h1 (standF bs) (fzA h1 (standF bs) (nminF f l))), .int .i64 (if fzX (standF bs) (if fzX (standF bs) (nmaxF f l) then 0 else (nmaxF f l)) then 0 else (if fzX (standF bs) (nmaxF f l) then 0 else (nmaxF f l))), .int .i64 (if fzX (standF bs) (if fzX (standF bs) (nmaxF f l) then 0 else (nmaxF f l)) then -1 else (if fzX (standF bs) (nmaxF f l) then -1 else (vpgF l))), .int .i64 (if fzX (standF bs) (if fzX (standF bs) (nmaxF f l) then 0 else (nmaxF f l)) then 0 else (if fzX (standF bs) (nmaxF f l) then 0 else (vslF l))), .bool (vhotF l), .slice A126_26 ((vrowF l).length) c126_26]), .c 136 (.agg #[.int .i64 (fzA h1 (standF bs) (nminF f l)), .int .i64 (if fzX (standF bs) (nmaxF f l) then 0 else (nmaxF f l)), .int .i64 (if fzX (standF bs) (nmaxF f l) then -1 else (vpgF l)), .int .i64 (if fzX (standF bs) (nmaxF f l) then 0 else (vslF l)), .bool (vhotF l), .slice A71_20 ((vrowF l).length) c71_20]), .c 137 (.bool true), .k 138 (.bool true), .k 139 (.bool true), .k 140 (.bool (oldF (standF bs) h1 (nminF f l) || fzX (standF bs) (nmaxF f l))), .k 141 (.bool (oldF (standF bs) h1 (nminF f l) || fzX (standF bs) (nmaxF f l))), .y 142 (!(oldF (standF bs) h1 (nminF f l) || fzX (standF bs) (nmaxF f l))) (.agg #[.int .i64 (fzA h1 (standF bs) (nminF f l)), .int .i64 (if fzX (standF bs) (nmaxF f l) then 0 else (nmaxF f l)), .int .i64 (if fzX (standF bs) (nmaxF f l) then -1 else (vpgF l)), .int .i64 (if fzX (standF bs) (nmaxF f l) then 0 else (vslF l)), .bool (vhotF l), .slice A71_20 ((vrowF l).length) c71_20]), .y 143 (!(oldF (standF bs) h1 (nminF f l) || fzX (standF bs) (nmaxF f l))) (.agg #[.int .i64 (nminF f l), .int .i64 (nmaxF f l), .int .i64 (vpgF l), .int .i64 (vslF l), .bool (vhotF l), .slice A24_5 ((vrowF l).length) c24_5]), .y 144 (!(oldF (standF bs) h1 (nminF f l) || fzX (standF bs) (nmaxF f l))) (.bool (sameV (fzA h1 (standF bs) (nminF f l)) (if fzX (standF bs) (nmaxF f l) then 0 else (nmaxF f l)) (if fzX (standF bs) (nmaxF f l) then -1 else (vpgF l)) (if fzX (standF bs) (nmaxF f l) then 0 else (vslF l)) (vhotF l) (vrowF l) (nminF f l) (nmaxF f l) (vpgF l) (vslF l) (vhotF l) (vrowF l))), tOk' 145 (oldF (standF bs) h1 (nminF f l) || fzX (standF bs) (nmaxF f l)) (sameV (fzA h1 (standF bs) (nminF f l)) (if fzX (standF bs) (nmaxF f l) then 0 else (nmaxF f l)) (if fzX (standF bs) (nmaxF f l) then -1 else (vpgF l)) (if fzX (standF bs) (nmaxF f l) then 0 else (vslF l)) (vhotF l) (vrowF l) (nminF f l) (nmaxF f l) (vpgF l) (vslF l) (vhotF l) (vrowF l)) true hd30, .k 146 (.bool true), .k 6 (.bool true)] (fun _ _ _ _ => True) [0, 1, 2, 3, 4, 5, 6, 7, 8, 9] [6, 7, 8, 13, 14, 15] [(6, 18, 1, 7), (122, 0, 18, 140)] hst26 ?_ ?_ ?_
    · exact fun _ _ _ _ _ _ _ _ _ _ h => h
    · refine ⟨?_, ?_, ?_, ?_, ?_, ?_, trivial⟩
      · exact s5 rfl (fun _ _ _ h => h) (fun cx => (cx.anc 5 rfl)) fun cx => run_loadB (n := 6) rfl (by kernel_rfl) (by kernel_rfl) (cx.out 14 rfl) (cx.blk (cx.init 9 _ rfl) rfl) (Nat.le_of_ble_eq_true rfl) rfl
      · exact s5 rfl (fun _ _ _ h => h) (fun cx => (cx.anc 5 rfl)) fun cx => run_loadB (n := 6) rfl (by kernel_rfl) (by kernel_rfl) (cx.out 11 rfl) (cx.blk (cx.init 7 _ rfl) rfl) (Nat.le_of_ble_eq_true rfl) rfl
      · exact sv_call_on rfl rfl rfl rfl rfl rfl (fun _ _ _ h => h.trans (congrArg Value.bool hd29)) (fun _ _ _ _ cx => (cx.anc 5 rfl)) fun ρ β W X cx => ⟨_, _, run_callF (args := #[.agg #[.int .i64 (fzA h1 (standF bs) (fzA h1 (standF bs) (nminF f l))), .int .i64 (if fzX (standF bs) (if fzX (standF bs) (nmaxF f l) then 0 else (nmaxF f l)) then 0 else (if fzX (standF bs) (nmaxF f l) then 0 else (nmaxF f l))), .int .i64 (if fzX (standF bs) (if fzX (standF bs) (nmaxF f l) then 0 else (nmaxF f l)) then -1 else (if fzX (standF bs) (nmaxF f l) then -1 else (vpgF l))), .int .i64 (if fzX (standF bs) (if fzX (standF bs) (nmaxF f l) then 0 else (nmaxF f l)) then 0 else (if fzX (standF bs) (nmaxF f l) then 0 else (vslF l))), .bool (vhotF l), .slice A126_26 ((vrowF l).length) c126_26], .agg #[.int .i64 (fzA h1 (standF bs) (nminF f l)), .int .i64 (if fzX (standF bs) (nmaxF f l) then 0 else (nmaxF f l)), .int .i64 (if fzX (standF bs) (nmaxF f l) then -1 else (vpgF l)), .int .i64 (if fzX (standF bs) (nmaxF f l) then 0 else (vslF l)), .bool (vhotF l), .slice A71_20 ((vrowF l).length) c71_20]]) rfl cx.sees rfl (by kernel_rfl) (map2 (cx.anc 6 rfl) (cx.anc 7 rfl)), vsame_any _ _ _ _ _ _ _ (vrowF l) _ _ _ _ _ _ _ (vrowF l) _ (At.of_ownN (cx.row (cx.init 8 _ rfl) rfl)) (At.of_ownN (cx.row (cx.init 6 _ rfl) rfl)) (by first | omega | decide | (simp; done) | (simp; omega)) (by first | omega | decide | (simp; done) | (simp; omega))⟩
      · exact m2 rfl (fun _ _ _ h => h) (fun cx => (cx.anc 12 rfl)) fun cx hq => run_loadB (n := 6) rfl (by kernel_rfl) (by kernel_rfl) (cx.out 11 rfl) (cx.blk (cx.init 7 _ rfl) rfl) (Nat.le_of_ble_eq_true rfl) rfl
      · exact m2 rfl (fun _ _ _ h => h) (fun cx => (cx.anc 12 rfl)) fun cx hq => run_loadB (n := 6) rfl (by kernel_rfl) (by kernel_rfl) (cx.out 9 rfl) (cx.blk (cx.init 4 _ rfl) rfl) (Nat.le_of_ble_eq_true rfl) rfl
      · exact m3 rfl (fun _ _ _ h => h) (fun cx => (cx.anc 12 rfl)) fun cx hq => ⟨_, _, run_callF (args := #[.agg #[.int .i64 (fzA h1 (standF bs) (nminF f l)), .int .i64 (if fzX (standF bs) (nmaxF f l) then 0 else (nmaxF f l)), .int .i64 (if fzX (standF bs) (nmaxF f l) then -1 else (vpgF l)), .int .i64 (if fzX (standF bs) (nmaxF f l) then 0 else (vslF l)), .bool (vhotF l), .slice A71_20 ((vrowF l).length) c71_20], .agg #[.int .i64 (nminF f l), .int .i64 (nmaxF f l), .int .i64 (vpgF l), .int .i64 (vslF l), .bool (vhotF l), .slice A24_5 ((vrowF l).length) c24_5]]) rfl cx.sees rfl (by kernel_rfl) (map2 (mbv (cx.anc 13 rfl) hq) (mbv (cx.anc 14 rfl) hq)), vsame_any _ _ _ _ _ _ _ (vrowF l) _ _ _ _ _ _ _ (vrowF l) _ (At.of_ownN (cx.row (cx.init 6 _ rfl) rfl)) (At.of_ownN (cx.row (cx.init 3 _ rfl) rfl)) (by first | omega | decide | (simp; done) | (simp; omega)) (by first | omega | decide | (simp; done) | (simp; omega))⟩
    intro σ β X W28 hD hX hst28 fr hfr
    simp only [zM, exq 0 (hX 0 _ rfl), exq 1 (hX 1 _ rfl), exq 2 (hX 2 _ rfl), exq 3 (hX 3 _ rfl), exq 4 (hX 4 _ rfl), exq 5 (hX 5 _ rfl), exq 6 (hX 6 _ rfl), exq 7 (hX 7 _ rfl), exq 8 (hX 8 _ rfl), exq 9 (hX 9 _ rfl)] at hst28
    dsimp only [mgT, vals, List.take, List.drop, List.cons_append, List.nil_append] at hfr
    clear hX hD; subst hfr; clear σ β X
    refine then_normal ?_
    refine wp_ret ?_
    refine bodyPost_ret (v := .bool true) (by simp [results, Tryd.results9, go_sem]) rfl ?_
    exact Ret.of rfl hst28.ext
  refine wp_cond_true (show Act.eval _ _ = .bool true from (congrArg Value.bool (by rw [hs9]; rfl))) ?_
  refine wp_seq ?_
  refine wp_region_P [0, 1] [.k 46 (.bool true), .k 6 (.bool true)] [(6, 1, 1, 7), (39, 0, 1, 40)] hst8 fun W31 hst31 => ?_
  refine then_normal ?_
  refine wp_ret ?_
  refine then_ret ?_
  refine bodyPost_ret (v := .bool true) (by simp [results, Tryd.results9, go_sem]) rfl ?_
  exact Ret.of rfl hst31.ext

end Go.Proofs.YtfjpglohcppjeaaDoor
