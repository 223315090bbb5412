/- HeapAtOnceRow9: part 6 of the proof. -/
import Derived.Test.YtjnplglnnamfdaaDoorZ5
import Derived.Test.YtjnplglnnamfdaaDoorRows
import Derived.ProofKit
import Derived.OpenShut
import Derived.Below
import Derived.ChangeSame
import Derived.WideKeyArgs
import Derived.SliceStrings
import Derived.ChangeMaps5
import Derived.Lib.SmallJoins
import Derived.SizedLaws
import Derived.LaidMore
import Derived.Stop.Joined
import Derived.Test.YtjnplglnnamfdaaDoorCards
import Derived.Test.YtjnplglnnamfdaaDoorTie
import Derived.SevenTiedAt
import Derived.WalkKit
set_option linter.unusedVariables false
set_option linter.unusedSimpArgs false
namespace Go.Proofs.YtjnplglnnamfdaaDoor
section
open Go.RowKit
set_option linter.unusedVariables false
set_option linter.unusedSimpArgs false
theorem get_eq {f : Nat} {args : Array Value} {w : World} {o o' : Option VerD} (h : o = o') (hc : Calls Tryd.prog f args w (VerAt o w)) : Calls Tryd.prog f args w (VerAt o' w) := h ▸ hc
theorem del_eq {f : Nat} {args : Array Value} {w : World} {R R' : List EdD × Int} (h : R = R') (hc : Calls Tryd.prog f args w (DelPost R w)) : Calls Tryd.prog f args w (DelPost R' w) := h ▸ hc
theorem clock_ok (cb : Nat) (lo nx : Int) (K : List Int) (W : World) (hb : Blk W cb 114 (clockL lo nx K).toArray) (hlo : onF lo = true) (hnx : onF nx = true) (hK : K.length = 128) : StOk W 53 (.pointer (some ⟨cb, 0, none⟩)) (stateF lo nx K) :=
  ⟨23, _, fun W => by kernel_rfl, by kernel_rfl, fun W x hx => cstate_any cb lo nx K x W (hb.ext hx) hlo hnx hK⟩
theorem far_3 {m : Nat} (hm : m < 60) : stepsF 3 (rAt 3 m) < 60 := by unfold stepsF rAt; omega
theorem tmod_nat {a : Int} {m : Nat} (ha : 0 ≤ a) (hm : 0 < m) : ∃ k : Nat, Int.tmod a (m : Int) = (k : Int) ∧ k < m := by
  refine ⟨(a % (m : Int)).toNat, ?_, ?_⟩
  · rw [Int.tmod_eq_emod_of_nonneg ha]
    have := Int.emod_nonneg a (b := (m : Int)) (by omega)
    omega
  · have := Int.emod_nonneg a (b := (m : Int)) (by omega)
    have := Int.emod_lt_of_pos a (b := (m : Int)) (by omega)
    omega
/-- an operation: who, what, row -/
abbrev T3b := Int × Int × Int
def cells3b (t : T3b) : List Value := [.int .u8 t.1, .int .u8 t.2.1, .int .u8 t.2.2]
theorem cells3b_len (t : T3b) : (cells3b t).length = 3 := rfl
def cellsH (h : Hld) : List Value := [.int .i64 h.1, .int .i64 h.2.1, .int .i64 h.2.2.1, .int .i64 h.2.2.2]
theorem cellsH_len (h : Hld) : (cellsH h).length = 4 := rfl
def cellsT2 (t : Int × Int) : List Value := [.int .i64 t.1, .int .i64 t.2]
theorem cellsT2_len (t : Int × Int) : (cellsT2 t).length = 2 := rfl
/-- a snapshot as it lies in the row of snapshots; its live ids in a row of their own -/
abbrev SK := SnD × Option Addr × Nat
def cellsS (k : SK) : List Value := [.int .i64 k.1.1, .slice k.2.1 k.1.2.length k.2.2]
theorem cellsS_len (k : SK) : (cellsS k).length = 2 := rfl
def entS (k : SK) : Ent := eO 3 1 (.slice k.2.1 k.1.2.length k.2.2) k.1.2.length (k.1.2.map (Value.int .i64))
def eSS (ks : List SK) : Ent := eM (ks.map entS)
/-- a list of places -/
abbrev WK := List (Int × Int) × Option Addr × Nat
def cellW (k : WK) : Value := .slice k.2.1 k.1.length k.2.2
def entW (k : WK) : Ent := eO 24 2 (.slice k.2.1 k.1.length k.2.2) k.1.length (k.1.flatMap cellsT2)
def eWW (ks : List WK) : Ent := eM (ks.map entW)
theorem St.mergeS {w0 W : World} {bor : List Nat} {L : List Ent} {ks : List SK} {hi : Int} {l : List Int} {A : Option Addr} {c : Nat} (h : St w0 bor (L ++ [eSS ks, eO 3 1 (.slice A l.length c) l.length (l.map (Value.int .i64))]) W) : St w0 bor (L ++ [eSS (ks ++ [((hi, l), A, c)])]) W := by
  have h2 := h.merge
  have e : ks.map entS ++ [eO 3 1 (.slice A l.length c) l.length (l.map (Value.int .i64))] = (ks ++ [((hi, l), A, c)]).map entS := by simp [entS]
  rw [e] at h2
  exact h2
theorem St.mergeW {w0 W : World} {bor : List Nat} {L : List Ent} {ks : List WK} {l : List (Int × Int)} {A : Option Addr} {c n : Nat} (hn : n = l.length) (h : St w0 bor (L ++ [eWW ks, eO 24 2 (.slice A n c) n (l.flatMap cellsT2)]) W) : St w0 bor (L ++ [eWW (ks ++ [(l, A, c)])]) W := by
  subst hn
  have h2 := h.merge
  have e : ks.map entW ++ [eO 24 2 (.slice A l.length c) l.length (l.flatMap cellsT2)] = (ks ++ [(l, A, c)]).map entW := by simp [entW]
  rw [e] at h2
  exact h2
theorem eSS_at {ks : List SK} {W : World} {q : Nat} {k : SK} (h : (eSS ks).holds W) (hqi : ks[q]? = some k) : At W k.2.1 (k.1.2.map (Value.int .i64)) :=
  At.of_own (h (entS k) (List.mem_map.2 ⟨k, List.mem_of_getElem? hqi, rfl⟩)).1
theorem eWW_at {ks : List WK} {W : World} {q : Nat} {k : WK} (h : (eWW ks).holds W) (hqi : ks[q]? = some k) : At W k.2.1 (k.1.flatMap cellsT2) :=
  At.of_ownN (h (entW k) (List.mem_map.2 ⟨k, List.mem_of_getElem? hqi, rfl⟩)).1
theorem hld_snoc (R : List Hld) (r : Hld) : R.flatMap cellsH ++ cellsH r = (R ++ [r]).flatMap cellsH := by simp
theorem tid_snoc (l : List (Int × Int)) (t : Int × Int) : l.flatMap cellsT2 ++ cellsT2 t = (l ++ [t]).flatMap cellsT2 := by simp
theorem sk_snoc (l : List SK) (k : SK) : l.flatMap cellsS ++ cellsS k = (l ++ [k]).flatMap cellsS := by simp
theorem wk_snoc (l : List WK) (k : WK) : l.map cellW ++ [cellW k] = (l ++ [k]).map cellW := by simp
theorem rng_snoc (P : Nat) : (rangeI P).map (Value.int .i64) ++ [.int .i64 (P : Int)] = (rangeI (P + 1)).map (Value.int .i64) := by
  rw [rangeI, rangeI, List.range_succ, List.map_append, List.map_append]; rfl
theorem rng_at {P k : Nat} (h : k < P) : ((rangeI P).map (Value.int .i64))[k]? = some (.int .i64 (k : Int)) := by simp [rangeI, h]
theorem rng_len (P : Nat) : (rangeI P).length = P := by simp [rangeI]
theorem wk_at {ww : List WK} {q : Nat} {k : WK} (h : ww[q]? = some k) : (ww.map cellW)[q]? = some (.slice k.2.1 k.1.length k.2.2) := by rw [List.getElem?_map, h]; rfl
theorem hld_set {R : List Hld} {k : Nat} {x y p s z : Int} (h : R[k]? = some (x, y, p, s)) : (R.flatMap cellsH).set (k * 4 + 1) (.int .i64 z) = (R.set k (x, z, p, s)).flatMap cellsH := by
  induction R generalizing k with
  | nil => simp at h
  | cons a R ih =>
    cases k with
    | zero => obtain rfl : a = (x, y, p, s) := by simpa using h
              rfl
    | succ k =>
      have ih' := ih (k := k) (by simpa using h)
      rw [show (k + 1) * 4 + 1 = (k * 4 + 1) + 1 + 1 + 1 + 1 by omega, List.flatMap_cons, List.set_cons_succ, List.flatMap_cons, ← ih']
      rfl
theorem infoHld : (Tryd.prog.info? 66).map (fun i => (i.zero, i.size, i.bytes)) = some (some (.agg #[.int .i64 0, .int .i64 0, .int .i64 0, .int .i64 0]), 4, 32) := by kernel_rfl
theorem infoSnp : (Tryd.prog.info? 69).map (fun i => (i.zero, i.size, i.bytes)) = some (some (.agg #[.int .i64 0, .slice none 0 0]), 2, 32) := by kernel_rfl
theorem infoTIDp : (Tryd.prog.info? 24).map (fun i => (i.zero, i.size, i.bytes)) = some (some (.agg #[.int .i64 0, .int .i64 0]), 2, 16) := by kernel_rfl
theorem infoTIDs : (Tryd.prog.info? 73).map (fun i => (i.zero, i.size, i.bytes)) = some (some (.slice none 0 0), 1, 24) := by kernel_rfl
/-- what the walk asks of a version that is seen by nobody who deletes -/
theorem ai_free {m a : Nat} {K who : List Int} {G : List AG} {R : List Hld} {S : List SnD} {Wn : List (List (Int × Int))} (h : AInv m K who G R S Wn) (hm : m ≤ 60) (ha : a < 4) (h0 : who.getD a 0 ≠ 0) {x y p s : Int} (hr : (x, y, p, s) ∈ R)
    (hv : visF (rAt 3 m) (liveL K (ringL 3 (rAt 3 m))) [who.getD a 0] (stateF 3 (rAt 3 m) K) x y = true) (hb : (busyF [who.getD a 0] (stateF 3 (rAt 3 m) K) y != 0) = false) : y = 0 ∨ ∃ i, i < m ∧ y = rAt 3 i ∧ stK 3 K i = 3 := by
  rcases (h.row _ hr).1.2 with h1 | ⟨i, hi, h1⟩
  · exact .inl h1
  · refine .inr ⟨i, hi, h1, ?_⟩
    dsimp only at h1
    subst h1
    have hb3 := rAt_bd 3 i
    have hg : stateF 3 (rAt 3 m) K (rAt 3 i) = stK 3 K i := state_r on3 hm hi
    have he := end_r hm hi (rAt 3 m) (liveL K (ringL 3 (rAt 3 m))) K
    obtain ⟨j, hj, hw, hr1⟩ := (h.wh a ha).resolve_left h0
    rcases h.st i hi with e | e | e
    · -- running: it is busy, or mine
      exfalso
      by_cases e2 : rAt 3 i = who.getD a 0
      · rw [visF, Bool.and_eq_true] at hv
        have h2 := hv.2
        rw [rAt_ne0, Bool.true_and, didF, mineF, hg, e, e2] at h2
        simp at h2
      · rw [busyF, hg, e] at hb
        have h3 : [who.getD a 0].contains (rAt 3 i) = false := by simpa using e2
        rw [h3] at hb
        simp at hb
        omega
    · exfalso
      rw [visF, Bool.and_eq_true] at hv
      have h2 := hv.2
      have h4 : endedF (rAt 3 m) (liveL K (ringL 3 (rAt 3 m))) (stateF 3 (rAt 3 m) K) (rAt 3 i) = true := by
        have hl := live_r (K := K) on3 hm hi
        have hc : (liveL K (ringL 3 (rAt 3 m))).contains (rAt 3 i) = false := by
          cases hqi : (liveL K (ringL 3 (rAt 3 m))).contains (rAt 3 i) with
          | false => rfl
          | true =>
            have := hl.1 (by simpa using hqi)
            omega
        rw [he, before_r on3 hm (by omega), decide_eq_true hi, hc, e]; rfl
      rw [rAt_ne0, Bool.true_and, didF, h4, Bool.or_true] at h2
      cases h2
    · exact e
theorem ai_live {m a : Nat} {K who : List Int} {G : List AG} {R : List Hld} {S : List SnD} {Wn : List (List (Int × Int))} (h : AInv m K who G R S Wn) (hm : m ≤ 60) (ha : a < 4) (h0 : who.getD a 0 ≠ 0) :
    knowsF 3 (rAt 3 m) (who.getD a 0) = true ∧ liveF K (who.getD a 0) = true ∧ 3 ≤ who.getD a 0 ∧ who.getD a 0 < 128 := by
  obtain ⟨j, hj, hw, hr1⟩ := (h.wh a ha).resolve_left h0
  have hb := rAt_bd 3 j
  rw [hw]
  refine ⟨knows_r on3 hm hj, ?_, hb⟩
  unfold liveF
  have : K.getD (rAt 3 j).toNat 0 = 1 := hr1
  rw [this]; rfl
/-- the list of wishes, from the rows looked at so far -/
def wlL (g : Int → Int) (R : List Hld) : List (Int × Int) := (R.filter fun r => (g r.1 == 2) && ((r.2.1 == 0) || (g r.2.1 != 2))).map fun r => r.2.2
theorem wl_hit {g : Int → Int} {R : List Hld} {q : Nat} {x y p s : Int} {vl : List (Int × Int)} (h : vl = wlL g (R.take q)) (hr : R[q]? = some (x, y, p, s)) (hc : ((g x == 2) && ((y == 0) || (g y != 2))) = true) : vl ++ [(p, s)] = wlL g (R.take (q + 1)) := by
  rw [List.take_add_one, hr, wlL, Option.toList, List.filter_append, List.map_append, List.filter_cons_of_pos (by exact hc), List.filter_nil, h]; rfl
theorem wl_miss {g : Int → Int} {R : List Hld} {q : Nat} {x y p s : Int} {vl : List (Int × Int)} (h : vl = wlL g (R.take q)) (hr : R[q]? = some (x, y, p, s)) (hc : ((g x == 2) && ((y == 0) || (g y != 2))) = false) : vl = wlL g (R.take (q + 1)) := by
  rw [List.take_add_one, hr, wlL, Option.toList, List.filter_append, List.map_append, List.filter_cons_of_neg (by rw [hc]; decide), List.filter_nil, List.map_nil, List.append_nil, h]; rfl
theorem getD_of {T : Type} {l : List T} {k : Nat} {x d : T} (h : l[k]? = some x) : l.getD k d = x := by rw [List.getD_eq_getElem?_getD, h]; rfl
theorem some_of {T : Type} {l : List T} {k : Nat} (h : k < l.length) : ∃ x, l[k]? = some x := ⟨_, List.getElem?_eq_getElem h⟩
/-- counting what is seen, page after page -/
def cntV (f : Int → Int → Bool) (l : List (Nat × VerD)) : Nat := l.countP fun v => f v.2.1 v.2.2.1
theorem cntV_snoc {f : Int → Int → Bool} {l : List (Nat × VerD)} {j : Nat} {v : Nat × VerD} (h : l[j]? = some v) : cntV f (l.take (j + 1)) = cntV f (l.take j) + (if f v.2.1 v.2.2.1 then 1 else 0) := by
  rw [cntV, List.take_add_one, h, Option.toList, List.countP_append, List.countP_singleton]; rfl
theorem cntG_take {f : Int → Int → Bool} {G : List AG} {k : Nat} (hG : G.length ≤ 8) (h : k < G.length) : cntG f (G.take k) + cntV f (allF' (pvL (agH G) k)) = cntG f (G.take (k + 1)) := by
  have h1 := all_ag hG h
  have h2 : cntV f (allF' (pvL (agH G) k)) = (G.getD k ag0).2.countP fun v => f v.1 v.2.1 := by rw [← h1, List.countP_map]; rfl
  rw [h2, cntG, cntG, List.take_add_one, List.getElem?_eq_getElem h, Option.toList, List.map_append, List.sum_append, List.getD_eq_getElem?_getD, List.getElem?_eq_getElem h]
  simp
theorem ks_at1 {ks : List FK} {l : List (Nat × VerD)} {j : Nat} (hk : ks.map Prod.fst = l) (h : j < l.length) : ∃ x a c, ks[j]? = some (x, a, c) ∧ l[j]? = some x := by
  subst hk
  rw [List.length_map] at h
  refine ⟨ks[j].1, ks[j].2.1, ks[j].2.2, List.getElem?_eq_getElem h, ?_⟩
  rw [List.getElem?_map, List.getElem?_eq_getElem h]; rfl
theorem St.openFnd {w0 W : World} {bor : List Nat} {L1 L2 : List Ent} {t : TypeId} {v : Value} {l : List (Nat × VerD)} {n : Int} (h : St w0 bor (L1 ++ eFnd t v l n :: L2) W) : ∃ ks : List FK, ks.map Prod.fst = l ∧ St w0 bor (L1 ++ eO t 8 v l.length (ks.flatMap (cellsF n)) :: L2) W := by
  obtain ⟨ks, hk, ho⟩ := (h.ok (eFnd t v l n) (by simp)).holds
  exact ⟨ks, hk, St.repl h rfl (fun _ => ho) (eO_loc _ _ _ _ _)⟩
theorem ag_at' {G : List AG} {n k : Nat} {v : VerD} (hG : agOk G) (hn : n < G.length) (hk : 1 ≤ k) (h : agAt G n k = some v) : atF (pvL (agH G) n) k = some v := by rw [ag_at hG.len hn hk, h]
theorem whole_vok {x i : Int} (hx : 3 ≤ x ∧ x < 128) (hi : 0 ≤ i ∧ i ≤ 100) : vok (x, 0, -1, 0, false, [(1, i, ByteArray.empty)]) := by
  obtain ⟨h1, h2, h3⟩ := one_row i (by omega)
  have h := okD_new false hx h1 h2 h3
  refine ⟨h, ?_⟩
  rw [txD_size h]
  show 8 + (vbytesF [(1, i, ByteArray.empty)]).size = 18
  rw [one_size]
theorem sl_snoc {ss : List SK} (h : ∀ k ∈ ss, k.1.2.length ≤ 124) {k : SK} (hk : k.1.2.length ≤ 124) : ∀ q ∈ ss ++ [k], q.1.2.length ≤ 124 := fun q hqi => by
  rcases List.mem_append.1 hqi with h1 | h1
  · exact h q h1
  · rw [List.mem_singleton] at h1; subst h1; exact hk
theorem hins_rng (tt : TypeId) (tv : Value) (pv : Int → PV) (NA : Option Addr) (nc P : Nat) (fresh tb : Int) (a b n1 n2 : Int) (ho : Bool) (RA : Option Addr) (rc : Nat) (rs : List Val) (w : World) (hS : PgsOk w tt tv pv) (hA : At w NA ((rangeI P).map (Value.int .i64))) (hnl : P ≤ 100000) (hR : At w RA (flatR rs)) (hrl : rs.length ≤ 9223372036854775807) (hN : NoneAt w) :
    Calls Tryd.prog 9 #[.iface tt (tv), .slice NA P nc, .int .i64 fresh, .int .i64 tb, .agg #[.int .i64 a, .int .i64 b, .int .i64 n1, .int .i64 n2, .bool ho, .slice RA rs.length rc]] w (InsPost (insA pv fresh tb (rangeI P) (tbytesF a b n1 n2 ho rs)) w) := by
  have h := hinsert_any tt tv pv NA nc (rangeI P) fresh tb a b n1 n2 ho RA rc rs w hS hA (by rw [rng_len]; exact hnl) hR hrl hN
  rw [rng_len] at h
  exact h
theorem all_le {G : List AG} (hG : agOk G) {n : Nat} (h : n < G.length) : (allF' (pvL (agH G) n)).length ≤ 24 := by
  have h1 := congrArg List.length (all_ag hG.len h)
  rw [List.length_map] at h1
  have h2 := (ag_okP hG h).its
  have h3 : (agI (G.getD n ag0).2).length ≤ 24 := h2
  rw [agI_len] at h3
  omega
set_option maxRecDepth 100000 in
set_option maxHeartbeats 32000000 in
theorem heapatonce_any (LA : Option Addr) (lc : Nat) (ls : List T3b) (w : World) (hL : At w LA (ls.flatMap cells3b)) (hll : ls.length ≤ 100000000000000) (hB : ∀ t ∈ ls, (0 ≤ t.1 ∧ t.1 ≤ 255) ∧ (0 ≤ t.2.1 ∧ t.2.1 ≤ 255) ∧ (0 ≤ t.2.2 ∧ t.2.2 ≤ 255)) (hN : NoneAt w) :
    Calls Tryd.prog 4 #[.slice LA ls.length lc] w (Ret (.bool true) w) := by
  go_enter Tryd.func4, Tryd.ntmps4
  have hst0 := St.start w
  refine wp_seq (wp_region_P [0] [.k 2 (.bool false)] [(2, 0, 1, 3)] hst0 fun W1 hst1 => ?_)
  refine then_normal (wp_seq (wp_region_Z [0, 1] [] [.c 39 (.bool true), .k 3 (.bool true)] [] [0] [(3, 1, 1, 4), (35, 0, 1, 36)] hst1 ?_ fun W2 hst2 => ?_))
  · refine ⟨?_, trivial⟩
    · exact xsc rfl id rfl rfl fun cx => ⟨_, sanity09_any _ (hN.ext cx.upd.to_ext), map0⟩
  refine then_normal (wp_seq (wp_region_Y [0, 1] [] [[0]] [] [.a 40, .a 4] (fun ix σ β X => match ix with | 0 => σ 40 = vp (pb (β 40)) ∧ X 0 = eB (pb (β 40)) 114 (clockL 3 3 (List.replicate 128 0)).toArray | 1 => σ 4 = vp (pb (β 40)) | _ => True) [0] [0, 1] [(4, 1, 1, 5), (35, 0, 1, 36)] hst2 ?_ ?_ ?_))
  · exact fun ix _ _ _ _ _ _ hs hb hx h => match ix, h with
    | 0, h => by dsimp only at h ⊢; rw [← hs 40 rfl, ← hb 40 rfl, ← hx 0 rfl]; exact h
    | 1, h => by dsimp only at h ⊢; rw [← hs 4 rfl, ← hb 40 rfl]; exact h
    | _ + 2, _ => trivial
  · refine ⟨?_, ?_, trivial⟩
    · refine sv_any rfl rfl fun ρ β W X cx => ?_
      refine DoesU.call (run_callF (args := #[vi 3]) rfl cx.sees rfl (by kernel_rfl) (map1 (cx.co _))) ?_
      refine (cnew_any 3 _ on3).mono ?_
      rintro e W1 ⟨B4, rfl, hb4, hw4, hx⟩
      refine ⟨_, rfl, post_call [eB B4 114 (clockL 3 3 (List.replicate 128 0)).toArray] rfl rfl hx (one_new ⟨hb4, eB_loc _ _ _, fun k hk => by simp [eB] at hk; subst hk; exact ⟨hw4, hb4.lt⟩⟩) (List.pairwise_singleton _ _) (fun σ β' X' hs hb hv hN => ?_)⟩
      have hv1 := (hv 40 rfl).1; have hv2 := (hv 40 rfl).2
      exact ⟨hv1.trans (by rw [hv2]; rfl), (by rw [hv2]; exact (List.cons.inj hN).1)⟩
    · exact sv rfl rfl rfl rfl rfl _ (fun _ _ _ h => h) (fun β β' h => by rw [h 40 (by decide)]) fun ρ β W X cx => run_assign' rfl (dTn (cx.an 0)).1
  intro σ β X W3 hD hst3 fr hfr
  obtain ⟨B40_3, hu_B40_3⟩ : ∃ z, pb (β 40) = z := ⟨_, rfl⟩
  simp only [exq 0 ((dTn (hD 0 lq)).2), hu_B40_3] at hst3
  simp only [ed 40 ((dTn (hD 0 lq)).1), ed 4 ((dTn (hD 1 lq))), hu_B40_3] at hfr
  clear hD hu_B40_3; subst hfr; clear σ β X
  refine then_normal (wp_seq (wp_region_Y [0, 0, 3] [[], [], [2]] [[1], [2], [3]] [[], [], [2]] [.a 41, .a 5, .n] (fun ix σ β X => match ix with | 0 => σ 41 = .agg #[.slice (sA (tg (β 41) 0)) 8 8] ∧ X 1 = eO 86 3 (.slice (sA (tg (β 41) 0)) 8 8) 8 ((List.replicate 8 p0).flatMap pgC) | 1 => σ 5 = vp (pb (β 5)) ∧ X 2 = eB (pb (β 5)) 30 #[.slice none 0 0] | 2 => X 3 = eB (pb (β 5)) 30 #[.slice (sA (tg (β 41) 0)) 8 8] | _ => True) [0, 1, 3] [0, 1, 2] [(5, 1, 1, 6), (35, 0, 1, 36)] hst3 ?_ ?_ ?_))
  · exact fun ix _ _ _ _ _ _ hs hb hx h => match ix, h with
    | 0, h => by dsimp only at h ⊢; rw [← hs 41 rfl, ← hb 41 rfl, ← hx 1 rfl]; exact h
    | 1, h => by dsimp only at h ⊢; rw [← hs 5 rfl, ← hb 5 rfl, ← hx 2 rfl]; exact h
    | 2, h => by dsimp only at h ⊢; rw [← hb 5 rfl, ← hb 41 rfl, ← hx 3 rfl]; exact h
    | _ + 3, _ => trivial
  · refine ⟨?_, ?_, ?_, trivial⟩
    · refine sv_any rfl rfl fun ρ β W X cx => ?_
      refine DoesU.call (run_callF (args := #[vi 8]) rfl cx.sees rfl (by kernel_rfl) (map1 (cx.co _))) ?_
      refine (free09_any 8 _ (by decide)).mono ?_
      rintro e W1 ⟨A4, rfl, ho, hx⟩
      refine ⟨_, rfl, post_call [eO 86 3 (.slice A4 8 8) 8 ((List.replicate 8 p0).flatMap pgC)] rfl rfl hx (one_new (eO_new ho)) (List.pairwise_singleton _ _) (fun σ β' X' hs hb hv hN => ?_)⟩
      have hv1 := (hv 41 rfl).1; have hv2 := (hv 41 rfl).2
      exact ⟨hv1.trans (by rw [hv2]; rfl), (by rw [hv2]; exact (List.cons.inj hN).1)⟩
    · refine sv_any rfl rfl fun ρ β W X cx => ?_
      exact dv_alloc (cs := #[.slice none 0 0]) rfl (by kernel_rfl) rfl rfl (fun σ β' X' hs hb hv hx => ⟨hv, hx⟩)
    · refine sv_any rfl rfl fun ρ β W X cx => ?_
      exact dv_store (n := 1) rfl (dTn (cx.an 1)).1 (dTn (cx.an 0)).1 (by kernel_rfl) (by kernel_rfl) (by kernel_rfl) cx (dTn (cx.an 1)).2 rfl (nle rfl) (by kernel_rfl) rfl rfl rfl (fun σ β' X' hs hb hx => by rw [hb 5, hb 41]; exact hx)
  intro σ β X W4 hD hst4 fr hfr
  obtain ⟨A41_4, hu_A41_4⟩ : ∃ z, sA (tg (β 41) 0) = z := ⟨_, rfl⟩
  obtain ⟨B5_4, hu_B5_4⟩ : ∃ z, pb (β 5) = z := ⟨_, rfl⟩
  simp only [exq 1 ((dTn (hD 0 lq)).2), exq 3 ((dTn (hD 2 lq))), hu_A41_4, hu_B5_4] at hst4
  simp only [ed 41 ((dTn (hD 0 lq)).1), ed 5 ((dTn (hD 1 lq)).1), hu_A41_4, hu_B5_4] at hfr
  clear hD hu_A41_4 hu_B5_4; subst hfr; clear σ β X
  refine then_normal (wp_seq (wp_region_Y [0, 1] [] [[3]] [] [.a 42, .a 6] (fun ix σ β X => match ix with | 0 => σ 42 = .slice (sA (β 42)) 0 0 ∧ X 3 = eO 3 1 (.slice (sA (β 42)) 0 0) 0 ([]) | 1 => σ 6 = .slice (sA (β 42)) 0 0 | _ => True) [0, 1, 2, 3] [0, 1] [(6, 1, 1, 7), (35, 0, 1, 36)] hst4 ?_ ?_ ?_))
  · exact fun ix _ _ _ _ _ _ hs hb hx h => match ix, h with
    | 0, h => by dsimp only at h ⊢; rw [← hs 42 rfl, ← hb 42 rfl, ← hx 3 rfl]; exact h
    | 1, h => by dsimp only at h ⊢; rw [← hs 6 rfl, ← hb 42 rfl]; exact h
    | _ + 2, _ => trivial
  · refine ⟨?_, ?_, trivial⟩
    · refine sv_any rfl rfl fun ρ β W X cx => ?_
      exact dv_lit (e := 3) (xs := []) rfl (by simp [go_sem]) rfl (by decide) rfl rfl (fun σ β' X' hs hb hv hx => ⟨hv, hx⟩)
    · exact sv rfl rfl rfl rfl rfl _ (fun _ _ _ h => h) (fun β β' h => by rw [h 42 (by decide)]) fun ρ β W X cx => run_assign' rfl (dTn (cx.an 0)).1
  intro σ β X W5 hD hst5 fr hfr
  obtain ⟨A42_5, hu_A42_5⟩ : ∃ z, sA (β 42) = z := ⟨_, rfl⟩
  simp only [exq 3 ((dTn (hD 0 lq)).2), hu_A42_5] at hst5
  simp only [ed 42 ((dTn (hD 0 lq)).1), ed 6 ((dTn (hD 1 lq))), hu_A42_5] at hfr
  clear hD hu_A42_5; subst hfr; clear σ β X
  refine then_normal (wp_seq (wp_region_Y [0, 1] [] [[4]] [] [.a 43, .a 7] (fun ix σ β X => match ix with | 0 => σ 43 = .slice ((some ⟨(pb' (β 43)), 0, none⟩)) 0 0 ∧ X 4 = eO 66 4 (.slice ((some ⟨(pb' (β 43)), 0, none⟩)) 0 0) 0 ([]) | 1 => σ 7 = .slice ((some ⟨(pb' (β 43)), 0, none⟩)) 0 0 | _ => True) [0, 1, 2, 3, 4] [0, 1] [(7, 1, 1, 8), (35, 0, 1, 36)] hst5 ?_ ?_ ?_))
  · exact fun ix _ _ _ _ _ _ hs hb hx h => match ix, h with
    | 0, h => by dsimp only at h ⊢; rw [← hs 43 rfl, ← hb 43 rfl, ← hx 4 rfl]; exact h
    | 1, h => by dsimp only at h ⊢; rw [← hs 7 rfl, ← hb 43 rfl]; exact h
    | _ + 2, _ => trivial
  · refine ⟨?_, ?_, trivial⟩
    · refine sv_any rfl rfl fun ρ β W X cx => ?_
      exact dv_litN (e := 66) (sz := 4) (xs := []) rfl (by simp [go_sem]) rfl (by decide) rfl rfl (fun σ β' X' hs hb hv hx => ⟨hv, hx⟩)
    · exact sv rfl rfl rfl rfl rfl _ (fun _ _ _ h => h) (fun β β' h => by rw [h 43 (by decide)]) fun ρ β W X cx => run_assign' rfl (dTn (cx.an 0)).1
  intro σ β X W6 hD hst6 fr hfr
  obtain ⟨B43_6, hu_B43_6⟩ : ∃ z, pb' (β 43) = z := ⟨_, rfl⟩
  simp only [exq 4 ((dTn (hD 0 lq)).2), hu_B43_6] at hst6
  simp only [ed 43 ((dTn (hD 0 lq)).1), ed 7 ((dTn (hD 1 lq))), hu_B43_6] at hfr
  clear hD hu_B43_6; subst hfr; clear σ β X
  refine then_normal (wp_seq (wp_region_Y [0, 0, 3] [[], [], [5]] [[], [5], [6]] [[], [], [5]] [.k 44 (.agg #[vi 0, vi 0, vi 0, vi 0]), .a 8, .n] (fun ix σ β X => match ix with | 0 => True | 1 => σ 8 = vp (pb (β 8)) ∧ X 5 = eB (pb (β 8)) 57 ((List.replicate 4 (0 : Int)).map (Value.int .i64)).toArray | 2 => X 6 = eB (pb (β 8)) 57 ((List.replicate 4 (0 : Int)).map (Value.int .i64)).toArray | _ => True) [0, 1, 2, 3, 4, 6] [1, 2] [(8, 1, 1, 9), (35, 0, 1, 36)] hst6 ?_ ?_ ?_))
  · exact fun ix _ _ _ _ _ _ hs hb hx h => match ix, h with
    | 1, h => by dsimp only at h ⊢; rw [← hs 8 rfl, ← hb 8 rfl, ← hx 5 rfl]; exact h
    | 2, h => by dsimp only at h ⊢; rw [← hb 8 rfl, ← hx 6 rfl]; exact h
    | 0, _ | _ + 3, _ => trivial
  · refine ⟨?_, ?_, trivial⟩
    · refine sv_any rfl rfl fun ρ β W X cx => ?_
      exact dv_alloc (cs := ((List.replicate 4 (0 : Int)).map (Value.int .i64)).toArray) rfl (by kernel_rfl) rfl rfl (fun σ β' X' hs hb hv hx => ⟨hv, hx⟩)
    · refine sv_any rfl rfl fun ρ β W X cx => ?_
      exact dv_storeL (n := 4) rfl (dTn (cx.an 1)).1 ((show _ = _ from (cx.an 0)).trans (by kernel_rfl : _ = Value.agg ((List.replicate 4 (0 : Int)).map (Value.int .i64)).toArray)) (by kernel_rfl) (by simp) (by simp) (by simp [cellsH, cellsS, cellsT2, Value.oneCell']) cx (dTn (cx.an 1)).2 rfl rfl rfl rfl (fun σ β' X' hs hb hx => by rw [hb 8]; exact hx)
  intro σ β X W7 hD hst7 fr hfr
  obtain ⟨B8_7, hu_B8_7⟩ : ∃ z, pb (β 8) = z := ⟨_, rfl⟩
  simp only [exq 6 ((dTn (hD 2 lq))), hu_B8_7] at hst7
  simp only [ed 8 ((dTn (hD 1 lq)).1), hu_B8_7] at hfr
  clear hD hu_B8_7; subst hfr; clear σ β X
  refine then_normal (wp_seq (wp_region_Y [0, 1] [] [[6]] [] [.a 45, .a 9] (fun ix σ β X => match ix with | 0 => σ 45 = .slice ((some ⟨(pb' (β 45)), 0, none⟩)) 0 0 ∧ X 6 = eO 69 2 (.slice ((some ⟨(pb' (β 45)), 0, none⟩)) 0 0) 0 ([]) | 1 => σ 9 = .slice ((some ⟨(pb' (β 45)), 0, none⟩)) 0 0 | _ => True) [0, 1, 2, 3, 4, 5, 6] [0, 1] [(9, 1, 1, 10), (35, 0, 1, 36)] hst7 ?_ ?_ ?_))
  · exact fun ix _ _ _ _ _ _ hs hb hx h => match ix, h with
    | 0, h => by dsimp only at h ⊢; rw [← hs 45 rfl, ← hb 45 rfl, ← hx 6 rfl]; exact h
    | 1, h => by dsimp only at h ⊢; rw [← hs 9 rfl, ← hb 45 rfl]; exact h
    | _ + 2, _ => trivial
  · refine ⟨?_, ?_, trivial⟩
    · refine sv_any rfl rfl fun ρ β W X cx => ?_
      exact dv_litN (e := 69) (sz := 2) (xs := []) rfl (by simp [go_sem]) rfl (by decide) rfl rfl (fun σ β' X' hs hb hv hx => ⟨hv, hx⟩)
    · exact sv rfl rfl rfl rfl rfl _ (fun _ _ _ h => h) (fun β β' h => by rw [h 45 (by decide)]) fun ρ β W X cx => run_assign' rfl (dTn (cx.an 0)).1
  intro σ β X W8 hD hst8 fr hfr
  obtain ⟨B45_8, hu_B45_8⟩ : ∃ z, pb' (β 45) = z := ⟨_, rfl⟩
  simp only [exq 6 ((dTn (hD 0 lq)).2), hu_B45_8] at hst8
  simp only [ed 45 ((dTn (hD 0 lq)).1), ed 9 ((dTn (hD 1 lq))), hu_B45_8] at hfr
  clear hD hu_B45_8; subst hfr; clear σ β X
  refine then_normal (wp_seq (wp_region_Y [0, 1] [] [[7]] [] [.a 46, .a 10] (fun ix σ β X => match ix with | 0 => σ 46 = .slice (sA (β 46)) 0 0 ∧ X 7 = eO 73 1 (.slice (sA (β 46)) 0 0) 0 ([]) | 1 => σ 10 = .slice (sA (β 46)) 0 0 | _ => True) [0, 1, 2, 3, 4, 5, 6, 7] [0, 1] [(10, 1, 1, 11), (35, 0, 1, 36)] hst8 ?_ ?_ ?_))
  · exact fun ix _ _ _ _ _ _ hs hb hx h => match ix, h with
    | 0, h => by dsimp only at h ⊢; rw [← hs 46 rfl, ← hb 46 rfl, ← hx 7 rfl]; exact h
    | 1, h => by dsimp only at h ⊢; rw [← hs 10 rfl, ← hb 46 rfl]; exact h
    | _ + 2, _ => trivial
  · refine ⟨?_, ?_, trivial⟩
    · refine sv_any rfl rfl fun ρ β W X cx => ?_
      exact dv_lit (e := 73) (xs := []) rfl (by simp [go_sem]) rfl (by decide) rfl rfl (fun σ β' X' hs hb hv hx => ⟨hv, hx⟩)
    · exact sv rfl rfl rfl rfl rfl _ (fun _ _ _ h => h) (fun β β' h => by rw [h 46 (by decide)]) fun ρ β W X cx => run_assign' rfl (dTn (cx.an 0)).1
  intro σ β X W9 hD hst9 fr hfr
  obtain ⟨A46_9, hu_A46_9⟩ : ∃ z, sA (β 46) = z := ⟨_, rfl⟩
  simp only [exq 7 ((dTn (hD 0 lq)).2), hu_A46_9] at hst9
  simp only [ed 46 ((dTn (hD 0 lq)).1), ed 10 ((dTn (hD 1 lq))), hu_A46_9] at hfr
  clear hD hu_A46_9; subst hfr; clear σ β X
  refine then_normal (wp_seq (wp_seq (wp_region_P [0] [.k 11 (vi 0)] [(11, 0, 1, 12)] hst9 fun W10 hst10 => ?_)))
  refine then_normal (wp_block ?_)
  have hc0 : clockL 3 3 (List.replicate 128 0) = clockL 3 (rAt 3 0) (List.replicate 128 0) := by rw [rAt_zero on3]
  rw [hc0] at hst10
  obtain ⟨R0, hPg0, hs0_⟩ := St.pg0 (L := [eB B40_3 114 (clockL 3 (rAt 3 0) (List.replicate 128 0)).toArray, eB B5_4 30 #[.slice A41_4 8 8], eO 3 1 (.slice A42_5 0 0) 0 ([]), eO 66 4 (.slice ((some ⟨B43_6, 0, none⟩)) 0 0) 0 ([]), eB B8_7 57 ((List.replicate 4 (0 : Int)).map (Value.int .i64)).toArray, eO 69 2 (.slice ((some ⟨B45_8, 0, none⟩)) 0 0) 0 ([]), eO 73 1 (.slice A46_9 0 0) 0 ([])]) (hst10.pick [0, 2, 3, 4, 5, 6, 7, 1] (by decide) rfl)
  simp only [List.cons_append, List.nil_append] at hs0_
  have hs1_ : St _ _ (_ ++ [eSS []]) _ := St.emNil hs0_
  simp only [List.cons_append, List.nil_append] at hs1_
  have hs2_ : St _ _ (_ ++ [eWW []]) _ := St.emNil hs1_
  simp only [List.cons_append, List.nil_append] at hs2_
  refine wp_loopN (fun mz az W => ∃ ii : Nat, ∃ m : Nat, ∃ K : List Int, ∃ who : List Int, ∃ R : List Ent, ∃ Ps : List PgD, ∃ PA : Option Addr, ∃ PC : Nat, ∃ G : List AG, ∃ P : Nat, ∃ NA : Option Addr, ∃ NC : Nat, ∃ Rw : List Hld, ∃ rn : Nat, ∃ RA : Option Addr, ∃ RC : Nat, ∃ ss : List SK, ∃ sn : Nat, ∃ SA : Option Addr, ∃ SC : Nat, ∃ ww : List WK, ∃ wn : Nat, ∃ WA : Option Addr, ∃ WC : Nat, ii ≤ 60 ∧ ii ≤ ls.length ∧ m ≤ ii ∧ AInv m K who G Rw (ss.map Prod.fst) (ww.map Prod.fst) ∧ PgR R Ps PA 8 ∧ Ps.map absP = agH G ∧ P = G.length ∧ (rn = Rw.length ∧ rn ≤ ii) ∧ (sn = ss.length ∧ sn ≤ ii) ∧ (wn = ww.length ∧ wn ≤ ii) ∧ (∀ k ∈ ss, k.1.2.length ≤ 124) ∧ mz = 60 - ii ∧ az = ⟨#[.slice LA ls.length lc, undef, jv az 2, .bool true, vp B40_3, vp B5_4, .slice NA P NC, .slice RA rn RC, vp B8_7, .slice SA sn SC, .slice WA wn WC, vi ((ii : Int)), jv az 12, jv az 13, jv az 14, jv az 15, jv az 16, jv az 17, jv az 18, jv az 19, jv az 20, jv az 21, jv az 22, jv az 23, jv az 24, jv az 25, jv az 26, jv az 27, jv az 28, jv az 29, jv az 30, undef, undef, undef, undef, undef, undef, undef, undef, .bool true, vp B40_3, .agg #[.slice A41_4 8 8], .slice A42_5 0 0, .slice ((some ⟨B43_6, 0, none⟩)) 0 0, .agg #[vi 0, vi 0, vi 0, vi 0], .slice ((some ⟨B45_8, 0, none⟩)) 0 0, .slice A46_9 0 0, jv az 47, jv az 48, jv az 49, jv az 50, jv az 51, jv az 52, jv az 53, jv az 54, jv az 55, jv az 56, jv az 57, jv az 58, jv az 59, jv az 60, jv az 61, jv az 62, jv az 63, jv az 64, jv az 65, jv az 66, jv az 67, jv az 68, jv az 69, jv az 70, jv az 71, jv az 72, jv az 73, jv az 74, jv az 75, jv az 76, jv az 77, jv az 78, jv az 79, jv az 80, jv az 81, jv az 82, jv az 83, jv az 84, jv az 85, jv az 86, jv az 87, jv az 88, jv az 89, jv az 90, jv az 91, jv az 92, jv az 93, jv az 94, jv az 95, jv az 96, jv az 97, jv az 98, jv az 99, jv az 100, jv az 101, jv az 102, jv az 103, jv az 104, jv az 105, jv az 106, jv az 107, jv az 108, jv az 109, jv az 110, jv az 111, jv az 112, jv az 113, jv az 114, jv az 115, jv az 116, jv az 117, jv az 118, jv az 119, jv az 120, jv az 121, jv az 122, jv az 123, jv az 124, jv az 125, jv az 126, jv az 127, jv az 128, jv az 129, jv az 130, jv az 131, jv az 132, jv az 133, jv az 134, jv az 135, jv az 136, jv az 137, jv az 138, jv az 139, jv az 140, jv az 141, jv az 142, jv az 143, jv az 144, jv az 145, jv az 146, jv az 147, jv az 148, jv az 149, jv az 150, jv az 151, jv az 152, jv az 153, jv az 154, jv az 155, jv az 156, jv az 157, jv az 158, jv az 159, jv az 160, jv az 161, jv az 162, jv az 163, jv az 164, jv az 165, jv az 166, jv az 167, jv az 168, jv az 169, jv az 170, jv az 171, jv az 172, jv az 173, jv az 174, jv az 175, jv az 176, jv az 177, jv az 178, jv az 179, jv az 180, jv az 181, jv az 182, jv az 183, jv az 184, jv az 185, jv az 186, jv az 187, jv az 188, jv az 189, jv az 190, jv az 191, jv az 192, jv az 193, jv az 194, jv az 195, jv az 196, jv az 197, jv az 198, jv az 199, jv az 200, jv az 201, jv az 202, jv az 203, jv az 204, jv az 205, jv az 206, jv az 207, jv az 208, jv az 209, jv az 210, jv az 211, jv az 212, jv az 213, jv az 214, jv az 215, jv az 216, jv az 217, jv az 218, jv az 219, jv az 220, jv az 221, jv az 222, jv az 223, jv az 224, jv az 225, jv az 226, jv az 227, jv az 228, jv az 229, jv az 230, jv az 231, jv az 232, jv az 233, jv az 234, jv az 235, jv az 236, jv az 237, jv az 238, jv az 239, jv az 240, jv az 241, jv az 242, jv az 243, jv az 244, jv az 245, jv az 246, jv az 247, jv az 248, jv az 249, jv az 250, jv az 251, jv az 252, jv az 253, jv az 254, jv az 255, jv az 256, jv az 257, jv az 258, jv az 259, jv az 260, jv az 261, jv az 262, jv az 263, jv az 264, jv az 265, jv az 266, jv az 267, jv az 268, jv az 269, jv az 270, jv az 271, jv az 272, jv az 273, jv az 274, jv az 275, jv az 276, jv az 277, jv az 278, jv az 279, jv az 280, jv az 281, jv az 282, jv az 283, jv az 284, jv az 285, jv az 286, jv az 287, jv az 288, jv az 289, jv az 290, jv az 291, jv az 292, jv az 293, jv az 294, jv az 295, jv az 296, jv az 297, jv az 298, jv az 299, jv az 300, jv az 301, undef, undef, undef, undef, undef, undef, undef, undef, undef, undef, undef, undef, undef, undef, undef, undef, undef, undef, undef, undef, undef, undef, undef, undef, undef, undef, undef, undef, undef, undef, undef, undef, undef, undef, undef, undef, undef, undef, undef, undef, undef, undef, undef, undef, undef, undef, undef, undef, undef, undef, undef, undef, undef, undef, undef, undef, undef, undef, undef, undef, undef, undef, undef, undef, undef, undef, undef, undef, undef, undef, undef, undef, undef, undef, undef, undef, undef, undef, undef, undef, undef, undef], []⟩ ∧ St w [] [eB B40_3 114 (clockL 3 (rAt 3 m) K).toArray, eB B5_4 30 #[.slice PA 8 PC], eB B8_7 57 (who.map (Value.int .i64)).toArray, eM R, eO 3 1 (.slice NA P NC) P ((rangeI P).map (Value.int .i64)), eO 66 4 (.slice RA rn RC) rn (Rw.flatMap cellsH), eO 69 2 (.slice SA sn SC) sn (ss.flatMap cellsS), eSS ss, eO 73 1 (.slice WA wn WC) wn (ww.map cellW), eWW ww] W) (60 - 0) ?_ ?_
  · -- the loop begins
    have hp12 := hs2_.pick [0, 1, 4, 7, 2, 3, 5, 8, 6, 9] (by decide) rfl
    exact ⟨0, 0, (List.replicate 128 0), [0, 0, 0, 0], R0, (List.replicate 8 p0), A41_4, 8, [], 0, A42_5, 0, [], 0, (some ⟨B43_6, 0, none⟩), 0, [], 0, (some ⟨B45_8, 0, none⟩), 0, [], 0, A46_9, 0, by omega, by omega, by omega, ai_0, hPg0, rfl, rfl, ⟨rfl, by omega⟩, ⟨rfl, by omega⟩, ⟨rfl, by omega⟩, fun k hk => (by cases hk), rfl, (by kernel_rfl), hp12⟩
  rintro n11 a11 W11 ⟨ii, m, K, who, R, Ps, PA, PC, G, P, NA, NC, Rw, rn, RA, RC, ss, sn, SA, SC, ww, wn, WA, WC, hii, hil, hm, hA, hPg, hPs, hPL, hrn, hsn, hwn, hsl, rfl, hj_, hst11⟩
  obtain ⟨u11_, hu_⟩ : ∃ z, jv a11 = z := ⟨_, rfl⟩
  rw [hu_] at hj_; clear hu_; subst hj_
  have hokP : okH (Ps.map absP) := by rw [hPs]; exact hA.ag.ok
  have hlP8 : Ps.length = 8 := by have h_ := congrArg List.length hPs; rw [List.length_map, agH_len hA.ag.len] at h_; exact h_
  have hlP : Ps.length ≤ 1000 := by omega
  have hP4 := hA.pp
  have hwl := hA.wl
  refine wp_seq (wp_seq (wp_region_P [0, 0, 2, 7, 15, 31, 63, 127] [.k 47 (vi ((ii : Int))), .k 48 (.slice LA ls.length lc), .k 49 (vi ((ls.length : Int))), .k 50 (.bool (decide ((ii : Int) < (ls.length : Int)))), .k 51 (.bool (decide ((ii : Int) < (ls.length : Int)))), .z 52 (decide ((ii : Int) < (ls.length : Int))) (vi ((ii : Int))), .z 53 (decide ((ii : Int) < (ls.length : Int))) (.bool (decide ((ii : Int) < 60))), tA 54 (decide ((ii : Int) < (ls.length : Int))) (decide ((ii : Int) < 60))] [(47, 0, 8, 55)] hst11 fun W13 hst13 => ?_))
  refine then_normal ?_
  rcases Bool.eq_false_or_eq_true ((decide ((ii : Int) < (ls.length : Int))) && (decide ((ii : Int) < 60))) with hs14 | hs14
  · skip
    have hs14p := hs14
    simp only [zB] at hs14p
    obtain ⟨hs14p1, hs14p2⟩ := hs14p
    refine wp_cond_true (show Act.eval _ _ = .bool true from (congrArg Value.bool hs14)) (wp_skip (then_normal (wp_seq (wp_block (wp_seq ?_)))))
    obtain ⟨⟨q1, q2, q3⟩, hqi⟩ := some_of (l := ls) (k := ii) (by omega)
    have hqb := hB _ (List.mem_of_getElem? hqi)
    dsimp only at hqb
    obtain ⟨a, hae, ha4⟩ : ∃ z : Nat, q1 % 4 = (z : Int) ∧ z < 4 := ⟨(q1 % 4).toNat, by omega, by omega⟩
    refine wp_region_Z [0, 0, 3, 7, 15, 31, 63, 127] [] [.k 57 (.slice LA ls.length lc), .k 58 (vi ((ii : Int))), .c 59 (.pointer (some ((ad LA).add (ii * 3)))), .c 60 (.pointer (some ((ad LA).add (ii * 3 + 0)))), .c 61 (.int .u8 q1), tW 62 .i64 q1 q1 (IntWalk.i64_in _ (by omega)), tRe 63 .i64 q1 4 (a : Int) ((Int.tmod_eq_emod_of_nonneg (by omega)).trans hae), .k 12 (vi ((a : Int)))] [0, 1, 2, 3, 4, 5, 6, 7, 8, 9] [2, 3, 4] [(12, 7, 1, 13), (44, 0, 7, 51)] hst13 ?_ fun W15 hst15 => ?_
    · refine ⟨?_, ?_, ?_, trivial⟩
      · exact xs4 rfl id fun cx => run_indexSlM (e := 61) (m := ii) (sz := 3) rfl (by kernel_rfl) (by kernel_rfl) (cx.an 0) (cx.an 1) (by omega) (by omega) (hL.ext cx.upd.to_ext) (by have h_ := flatLen (f := cells3b) (sz := 3) cells3b_len ls; show 0 < (List.flatMap cells3b ls).length; omega)
      · exact xs4 rfl id fun cx => run_fieldAd rfl (by kernel_rfl) (cx.an 2)
      · exact xs4 rfl id fun cx => run_load1 rfl (by kernel_rfl) (cx.an 3) (At.eltc (f := cells3b) (k := 0) cells3b_len (hL.ext cx.upd.to_ext) hqi rfl)
    refine then_normal ?_
    refine wp_cut (fun az W => ∃ mB : Nat, ∃ K2 : List Int, ∃ who2 : List Int, mB ≤ ii + 1 ∧ AInv mB K2 who2 G Rw (ss.map Prod.fst) (ww.map Prod.fst) ∧ who2.getD a 0 ≠ 0 ∧ az = ⟨#[.slice LA ls.length lc, undef, jv az 2, .bool true, vp B40_3, vp B5_4, .slice NA P NC, .slice RA rn RC, vp B8_7, .slice SA sn SC, .slice WA wn WC, vi ((ii : Int)), vi ((a : Int)), jv az 13, jv az 14, u11_ 15, u11_ 16, u11_ 17, u11_ 18, u11_ 19, u11_ 20, u11_ 21, u11_ 22, u11_ 23, u11_ 24, u11_ 25, u11_ 26, u11_ 27, u11_ 28, u11_ 29, u11_ 30, undef, undef, undef, undef, undef, undef, undef, undef, .bool true, vp B40_3, .agg #[.slice A41_4 8 8], .slice A42_5 0 0, .slice ((some ⟨B43_6, 0, none⟩)) 0 0, .agg #[vi 0, vi 0, vi 0, vi 0], .slice ((some ⟨B45_8, 0, none⟩)) 0 0, .slice A46_9 0 0, vi ((ii : Int)), .slice LA ls.length lc, vi ((ls.length : Int)), .bool (decide ((ii : Int) < (ls.length : Int))), .bool (decide ((ii : Int) < (ls.length : Int))), mb (decide ((ii : Int) < (ls.length : Int))) (vi ((ii : Int))), mb (decide ((ii : Int) < (ls.length : Int))) (.bool (decide ((ii : Int) < 60))), .bool ((decide ((ii : Int) < (ls.length : Int))) && (decide ((ii : Int) < 60))), u11_ 55, u11_ 56, .slice LA ls.length lc, vi ((ii : Int)), .pointer (some ((ad LA).add (ii * 3))), .pointer (some ((ad LA).add (ii * 3 + 0))), .int .u8 q1, vi q1, vi ((a : Int)), jv az 64, jv az 65, jv az 66, jv az 67, jv az 68, jv az 69, jv az 70, jv az 71, jv az 72, jv az 73, jv az 74, jv az 75, jv az 76, jv az 77, jv az 78, u11_ 79, u11_ 80, u11_ 81, u11_ 82, u11_ 83, u11_ 84, u11_ 85, u11_ 86, u11_ 87, u11_ 88, u11_ 89, u11_ 90, u11_ 91, u11_ 92, u11_ 93, u11_ 94, u11_ 95, u11_ 96, u11_ 97, u11_ 98, u11_ 99, u11_ 100, u11_ 101, u11_ 102, u11_ 103, u11_ 104, u11_ 105, u11_ 106, u11_ 107, u11_ 108, u11_ 109, u11_ 110, u11_ 111, u11_ 112, u11_ 113, u11_ 114, u11_ 115, u11_ 116, u11_ 117, u11_ 118, u11_ 119, u11_ 120, u11_ 121, u11_ 122, u11_ 123, u11_ 124, u11_ 125, u11_ 126, u11_ 127, u11_ 128, u11_ 129, u11_ 130, u11_ 131, u11_ 132, u11_ 133, u11_ 134, u11_ 135, u11_ 136, u11_ 137, u11_ 138, u11_ 139, u11_ 140, u11_ 141, u11_ 142, u11_ 143, u11_ 144, u11_ 145, u11_ 146, u11_ 147, u11_ 148, u11_ 149, u11_ 150, u11_ 151, u11_ 152, u11_ 153, u11_ 154, u11_ 155, u11_ 156, u11_ 157, u11_ 158, u11_ 159, u11_ 160, u11_ 161, u11_ 162, u11_ 163, u11_ 164, u11_ 165, u11_ 166, u11_ 167, u11_ 168, u11_ 169, u11_ 170, u11_ 171, u11_ 172, u11_ 173, u11_ 174, u11_ 175, u11_ 176, u11_ 177, u11_ 178, u11_ 179, u11_ 180, u11_ 181, u11_ 182, u11_ 183, u11_ 184, u11_ 185, u11_ 186, u11_ 187, u11_ 188, u11_ 189, u11_ 190, u11_ 191, u11_ 192, u11_ 193, u11_ 194, u11_ 195, u11_ 196, u11_ 197, u11_ 198, u11_ 199, u11_ 200, u11_ 201, u11_ 202, u11_ 203, u11_ 204, u11_ 205, u11_ 206, u11_ 207, u11_ 208, u11_ 209, u11_ 210, u11_ 211, u11_ 212, u11_ 213, u11_ 214, u11_ 215, u11_ 216, u11_ 217, u11_ 218, u11_ 219, u11_ 220, u11_ 221, u11_ 222, u11_ 223, u11_ 224, u11_ 225, u11_ 226, u11_ 227, u11_ 228, u11_ 229, u11_ 230, u11_ 231, u11_ 232, u11_ 233, u11_ 234, u11_ 235, u11_ 236, u11_ 237, u11_ 238, u11_ 239, u11_ 240, u11_ 241, u11_ 242, u11_ 243, u11_ 244, u11_ 245, u11_ 246, u11_ 247, u11_ 248, u11_ 249, u11_ 250, u11_ 251, u11_ 252, u11_ 253, u11_ 254, u11_ 255, u11_ 256, u11_ 257, u11_ 258, u11_ 259, u11_ 260, u11_ 261, u11_ 262, u11_ 263, u11_ 264, u11_ 265, u11_ 266, u11_ 267, u11_ 268, u11_ 269, u11_ 270, u11_ 271, u11_ 272, u11_ 273, u11_ 274, u11_ 275, u11_ 276, u11_ 277, u11_ 278, u11_ 279, u11_ 280, u11_ 281, u11_ 282, u11_ 283, u11_ 284, u11_ 285, u11_ 286, u11_ 287, u11_ 288, u11_ 289, u11_ 290, u11_ 291, u11_ 292, u11_ 293, u11_ 294, u11_ 295, u11_ 296, u11_ 297, u11_ 298, u11_ 299, u11_ 300, u11_ 301, undef, undef, undef, undef, undef, undef, undef, undef, undef, undef, undef, undef, undef, undef, undef, undef, undef, undef, undef, undef, undef, undef, undef, undef, undef, undef, undef, undef, undef, undef, undef, undef, undef, undef, undef, undef, undef, undef, undef, undef, undef, undef, undef, undef, undef, undef, undef, undef, undef, undef, undef, undef, undef, undef, undef, undef, undef, undef, undef, undef, undef, undef, undef, undef, undef, undef, undef, undef, undef, undef, undef, undef, undef, undef, undef, undef, undef, undef, undef, undef, undef, undef], []⟩ ∧ St w [] [eB B40_3 114 (clockL 3 (rAt 3 mB) K2).toArray, eB B5_4 30 #[.slice PA 8 PC], eB B8_7 57 (who2.map (Value.int .i64)).toArray, eM R, eO 3 1 (.slice NA P NC) P ((rangeI P).map (Value.int .i64)), eO 66 4 (.slice RA rn RC) rn (Rw.flatMap cellsH), eO 69 2 (.slice SA sn SC) sn (ss.flatMap cellsS), eSS ss, eO 73 1 (.slice WA wn WC) wn (ww.map cellW), eWW ww] W) ?_ ?_
    · skip
      refine wp_seq (wp_region_Z [0, 1, 3, 7] [[], [], [2]] [.k 64 (vi ((a : Int))), .c 65 (.pointer (some ⟨B8_7, a, none⟩)), .c 66 (vi (who.getD a 0)), .k 67 (.bool ((who.getD a 0) == 0))] [0, 1, 2, 3, 4, 5, 6, 7, 8, 9] [1, 2] [(64, 0, 4, 68)] hst15 ?_ fun W17 hst17 => ?_)
      · refine ⟨?_, ?_, trivial⟩
        · exact xs4 rfl id fun cx => run_indexArrB (n := 4) (sz := 1) (m := a) (q := a) rfl (by kernel_rfl) (cx.ou 8) (cx.an 0) (by omega) (by omega) (by omega)
        · exact xs4 rfl id fun cx => run_load1 rfl (by kernel_rfl) (cx.an 1) (((cx.bi 2 rfl).cell a).trans ((List.getElem?_toArray ..).trans (getD_int (by omega))))
      refine then_normal ?_
      rcases Bool.eq_false_or_eq_true ((who.getD a 0) == 0) with hs18 | hs18
      · skip
        have hs18p : (who.getD a 0) = 0 := by simpa using hs18
        refine wp_cond_true (show Act.eval _ _ = .bool true from (congrArg Value.bool hs18)) (wp_seq (wp_region_Y [0, 1, 3, 7, 7, 15, 63] [[], [0]] [[], [10]] [[], [0]] [.k 69 (vp B40_3), .a 70, .c 68 (.tuple #[vi ((rAt 3 m)), vi 0]), .k 71 (vi ((rAt 3 m))), .k 72 (vi 0), .k 13 (vi ((rAt 3 m))), .k 14 (vi 0)] (fun ix σ β X => match ix with | 0 => True | 1 => σ 70 = .tuple #[vi ((rAt 3 m)), vi 0] ∧ X 10 = eB B40_3 114 (clockL 3 (nxF (rAt 3 m)) (K.set (rAt 3 m).toNat 1)).toArray | _ => True) [1, 2, 3, 4, 5, 6, 7, 8, 9, 10] [1, 2] [(13, 5, 2, 15), (53, 2, 1, 54), (0, 0, 2, 2), (0, 3, 2, 2)] hst17 ?_ ?_ ?_))
        · exact fun ix _ _ _ _ _ _ hs hb hx h => match ix, h with
          | 1, h => by dsimp only at h ⊢; rw [← hs 70 rfl, ← hx 10 rfl]; exact h
          | 0, _ | _ + 2, _ => trivial
        · refine ⟨?_, ?_, trivial⟩
          · refine sv_any rfl rfl fun ρ β W X cx => ?_
            refine DoesU.call (run_callF (args := #[vp B40_3, vi 0]) rfl cx.sees rfl (by kernel_rfl) (map2 (cx.an 0) (cx.co _))) ?_
            refine (cbegin_any _ 3 (rAt 3 m) K _ (cx.bi 0 rfl) on3 (rAt_on 3 m) hA.kl (far_3 (by omega))).mono ?_
            rintro e W1 ⟨rfl, hb1, hu⟩
            refine ⟨_, rfl, post_mut (cx.init 0 _ rfl) rfl rfl hu hb1 (fun σ β' X' hs hb hv hx => ?_)⟩
            exact ⟨(hv 70 rfl).1.trans rfl, hx⟩
          · exact xs4 rfl id fun cx => run_move' rfl (dTn (cx.an 1)).1
        intro σ β X W19 hD hst19 fr hfr
        simp only [exq 10 ((dTn (hD 1 lq)).2)] at hst19
        simp only [ed 70 ((dTn (hD 1 lq)).1)] at hfr
        clear hD; subst hfr; clear σ β X
        refine then_normal (wp_seq (wp_seq (wp_region_P [0, 1] [.k 73 (vi 0), .k 74 (.bool false)] [(73, 0, 2, 75)] hst19 fun W20 hst20 => ?_)))
        refine then_normal (wp_cond_false (show Act.eval _ _ = .bool false from rfl) (wp_skip (then_normal (wp_region_Y [0, 0, 3, 7] [[], [], [], [1]] [[], [], [], [10]] [[], [], [], [1]] [.k 76 (vi ((a : Int))), .k 77 (vi ((rAt 3 m))), .c 78 (.pointer (some ⟨B8_7, a, none⟩)), .n] (fun ix σ β X => match ix with | 0 => True | 1 => True | 2 => True | 3 => X 10 = eB B8_7 57 ((who.set a (rAt 3 m)).map (Value.int .i64)).toArray | _ => True) [0, 2, 3, 4, 5, 6, 7, 8, 9, 10] [2, 3] [(76, 0, 3, 79)] hst20 ?_ ?_ ?_))))
        · exact fun ix _ _ _ _ _ _ hs hb hx h => match ix, h with
          | 3, h => by dsimp only at h ⊢; rw [← hx 10 rfl]; exact h
          | 0, _ | 1, _ | 2, _ | _ + 4, _ => trivial
        · refine ⟨?_, ?_, trivial⟩
          · exact xs4 rfl id fun cx => run_indexArrB (n := 4) (sz := 1) (m := a) (q := a) rfl (by kernel_rfl) (cx.ou 8) (cx.an 0) (by omega) (by omega) (by omega)
          · refine sv_any rfl rfl fun ρ β W X cx => ?_
            exact dv_storeAr (m := a) rfl (cx.an 2) (cx.an 1) (by kernel_rfl) rfl rfl cx (cx.init 1 _ rfl) rfl (by simp only [List.length_map, List.length_set]; omega) rfl (by rw [List.map_set]) rfl rfl (fun σ β' X' hs hb hx => hx)
        intro σ β X W21 hD hst21 fr hfr
        simp only [exq 10 ((dTn (hD 3 lq)))] at hst21
        clear hD; subst hfr; clear σ β X
        refine then_normal ?_
        rw [rAt_next] at hst21
        have hp22 := hst21.pick [8, 0, 9, 1, 2, 3, 4, 5, 6, 7] (by decide) rfl
        exact ⟨(m + 1), (K.set (rAt 3 m).toNat 1), (who.set a (rAt 3 m)), by omega, ai_begin hA (by omega) ha4, by rw [who_set hwl ha4, if_pos rfl]; have h_ := rAt_bd 3 m; omega, (by kernel_rfl), hp22⟩
      have hs18p : (who.getD a 0) ≠ 0 := by simpa using hs18
      refine wp_cond_false (show Act.eval _ _ = .bool false from (congrArg Value.bool hs18)) (wp_skip (then_normal ?_))
      have hp23 := hst17.pick [0, 1, 2, 3, 4, 5, 6, 7, 8, 9] (by decide) rfl
      exact ⟨m, K, who, by omega, hA, by simpa using hs18, (by kernel_rfl), hp23⟩
    rintro a16 W16 ⟨mB, K2, who2, hm2, hA2, hw0, hj_, hst16⟩
    obtain ⟨u16_, hu_⟩ : ∃ z, jv a16 = z := ⟨_, rfl⟩
    rw [hu_] at hj_; clear hu_; subst hj_
    have hwl2 := hA2.wl
    obtain ⟨hkn, hlk, hx3, hx128⟩ := ai_live hA2 (by omega) ha4 hw0
    refine wp_seq (wp_region_Z [0, 0, 3, 7, 15, 31] [] [.k 79 (.slice LA ls.length lc), .k 80 (vi ((ii : Int))), .c 81 (.pointer (some ((ad LA).add (ii * 3)))), .c 82 (.pointer (some ((ad LA).add (ii * 3 + 1)))), .c 83 (.int .u8 q2), tRe 84 .u8 q2 6 (q2 % 6) (Int.tmod_eq_emod_of_nonneg (by omega))] [0, 1, 2, 3, 4, 5, 6, 7, 8, 9] [2, 3, 4] [(79, 0, 6, 85)] hst16 ?_ fun W24 hst24 => ?_)
    · refine ⟨?_, ?_, ?_, trivial⟩
      · exact xs4 rfl id fun cx => run_indexSlM (e := 61) (m := ii) (sz := 3) rfl (by kernel_rfl) (by kernel_rfl) (cx.an 0) (cx.an 1) (by omega) (by omega) (hL.ext cx.upd.to_ext) (by have h_ := flatLen (f := cells3b) (sz := 3) cells3b_len ls; show 0 < (List.flatMap cells3b ls).length; omega)
      · exact xs4 rfl id fun cx => run_fieldAd rfl (by kernel_rfl) (cx.an 2)
      · exact xs4 rfl id fun cx => run_load1 rfl (by kernel_rfl) (cx.an 3) (At.eltc (f := cells3b) (k := 1) cells3b_len (hL.ext cx.upd.to_ext) hqi rfl)
    refine then_normal (wp_block ?_)
    refine wp_cut (fun az W => ∃ q : Bool, True ∧ az = ⟨#[.slice LA ls.length lc, undef, u16_ 2, .bool true, vp B40_3, vp B5_4, .slice NA P NC, .slice RA rn RC, vp B8_7, .slice SA sn SC, .slice WA wn WC, vi ((ii : Int)), vi ((a : Int)), u16_ 13, u16_ 14, u11_ 15, u11_ 16, u11_ 17, u11_ 18, u11_ 19, u11_ 20, u11_ 21, u11_ 22, u11_ 23, u11_ 24, u11_ 25, u11_ 26, u11_ 27, u11_ 28, u11_ 29, u11_ 30, undef, undef, undef, undef, undef, undef, undef, undef, .bool true, vp B40_3, .agg #[.slice A41_4 8 8], .slice A42_5 0 0, .slice ((some ⟨B43_6, 0, none⟩)) 0 0, .agg #[vi 0, vi 0, vi 0, vi 0], .slice ((some ⟨B45_8, 0, none⟩)) 0 0, .slice A46_9 0 0, vi ((ii : Int)), .slice LA ls.length lc, vi ((ls.length : Int)), .bool (decide ((ii : Int) < (ls.length : Int))), .bool (decide ((ii : Int) < (ls.length : Int))), mb (decide ((ii : Int) < (ls.length : Int))) (vi ((ii : Int))), mb (decide ((ii : Int) < (ls.length : Int))) (.bool (decide ((ii : Int) < 60))), .bool ((decide ((ii : Int) < (ls.length : Int))) && (decide ((ii : Int) < 60))), u11_ 55, u11_ 56, .slice LA ls.length lc, vi ((ii : Int)), .pointer (some ((ad LA).add (ii * 3))), .pointer (some ((ad LA).add (ii * 3 + 0))), .int .u8 q1, vi q1, vi ((a : Int)), u16_ 64, u16_ 65, u16_ 66, u16_ 67, u16_ 68, u16_ 69, u16_ 70, u16_ 71, u16_ 72, u16_ 73, u16_ 74, u16_ 75, u16_ 76, u16_ 77, u16_ 78, .slice LA ls.length lc, vi ((ii : Int)), .pointer (some ((ad LA).add (ii * 3))), .pointer (some ((ad LA).add (ii * 3 + 1))), .int .u8 q2, .int .u8 (q2 % 6), u11_ 85, u11_ 86, u11_ 87, u11_ 88, u11_ 89, u11_ 90, u11_ 91, u11_ 92, u11_ 93, u11_ 94, u11_ 95, u11_ 96, u11_ 97, u11_ 98, u11_ 99, u11_ 100, u11_ 101, u11_ 102, u11_ 103, u11_ 104, u11_ 105, u11_ 106, u11_ 107, u11_ 108, u11_ 109, u11_ 110, u11_ 111, u11_ 112, u11_ 113, u11_ 114, u11_ 115, u11_ 116, u11_ 117, u11_ 118, u11_ 119, u11_ 120, u11_ 121, u11_ 122, u11_ 123, u11_ 124, u11_ 125, u11_ 126, u11_ 127, u11_ 128, u11_ 129, u11_ 130, u11_ 131, u11_ 132, u11_ 133, u11_ 134, u11_ 135, u11_ 136, u11_ 137, u11_ 138, u11_ 139, u11_ 140, u11_ 141, u11_ 142, u11_ 143, u11_ 144, u11_ 145, u11_ 146, u11_ 147, u11_ 148, u11_ 149, u11_ 150, u11_ 151, u11_ 152, u11_ 153, u11_ 154, u11_ 155, u11_ 156, u11_ 157, u11_ 158, u11_ 159, .bool q, jv az 161, jv az 162, jv az 163, u11_ 164, u11_ 165, u11_ 166, u11_ 167, u11_ 168, u11_ 169, u11_ 170, u11_ 171, u11_ 172, u11_ 173, u11_ 174, u11_ 175, u11_ 176, u11_ 177, u11_ 178, u11_ 179, u11_ 180, u11_ 181, u11_ 182, u11_ 183, u11_ 184, u11_ 185, u11_ 186, u11_ 187, u11_ 188, u11_ 189, u11_ 190, u11_ 191, u11_ 192, u11_ 193, u11_ 194, u11_ 195, u11_ 196, u11_ 197, u11_ 198, u11_ 199, u11_ 200, u11_ 201, u11_ 202, u11_ 203, u11_ 204, u11_ 205, u11_ 206, u11_ 207, u11_ 208, u11_ 209, u11_ 210, u11_ 211, u11_ 212, u11_ 213, u11_ 214, u11_ 215, u11_ 216, u11_ 217, u11_ 218, u11_ 219, u11_ 220, u11_ 221, u11_ 222, u11_ 223, u11_ 224, u11_ 225, u11_ 226, u11_ 227, u11_ 228, u11_ 229, u11_ 230, u11_ 231, u11_ 232, u11_ 233, u11_ 234, u11_ 235, u11_ 236, u11_ 237, u11_ 238, u11_ 239, u11_ 240, u11_ 241, u11_ 242, u11_ 243, u11_ 244, u11_ 245, u11_ 246, u11_ 247, u11_ 248, u11_ 249, u11_ 250, u11_ 251, u11_ 252, u11_ 253, u11_ 254, u11_ 255, u11_ 256, u11_ 257, u11_ 258, u11_ 259, u11_ 260, u11_ 261, u11_ 262, u11_ 263, u11_ 264, u11_ 265, u11_ 266, u11_ 267, u11_ 268, u11_ 269, u11_ 270, u11_ 271, u11_ 272, u11_ 273, u11_ 274, u11_ 275, u11_ 276, u11_ 277, u11_ 278, u11_ 279, u11_ 280, u11_ 281, u11_ 282, u11_ 283, u11_ 284, u11_ 285, u11_ 286, u11_ 287, u11_ 288, u11_ 289, u11_ 290, u11_ 291, u11_ 292, u11_ 293, u11_ 294, u11_ 295, u11_ 296, u11_ 297, u11_ 298, u11_ 299, u11_ 300, u11_ 301, undef, undef, undef, undef, undef, undef, undef, undef, undef, undef, undef, undef, undef, undef, undef, undef, undef, undef, undef, undef, undef, undef, undef, undef, undef, undef, undef, undef, undef, undef, undef, undef, undef, undef, undef, undef, undef, undef, undef, undef, undef, undef, undef, undef, undef, undef, undef, undef, undef, undef, undef, undef, undef, undef, undef, undef, undef, undef, undef, undef, undef, undef, undef, undef, undef, undef, undef, undef, undef, undef, undef, undef, undef, undef, undef, undef, undef, undef, undef, undef, undef, undef], []⟩ ∧ St w [] [eB B40_3 114 (clockL 3 (rAt 3 mB) K2).toArray, eB B5_4 30 #[.slice PA 8 PC], eB B8_7 57 (who2.map (Value.int .i64)).toArray, eM R, eO 3 1 (.slice NA P NC) P ((rangeI P).map (Value.int .i64)), eO 66 4 (.slice RA rn RC) rn (Rw.flatMap cellsH), eO 69 2 (.slice SA sn SC) sn (ss.flatMap cellsS), eSS ss, eO 73 1 (.slice WA wn WC) wn (ww.map cellW), eWW ww] W) ?_ ?_
    · skip
      refine wp_seq (wp_region_P [0, 1] [.k 161 (.bool ((q2 % 6) == 0)), .k 160 (.bool ((q2 % 6) == 0))] [(160, 1, 1, 161), (0, 0, 1, 1)] hst24 fun W26 hst26 => ?_)
      refine then_normal ?_
      rcases Bool.eq_false_or_eq_true ((q2 % 6) == 0) with hs27 | hs27
      · skip
        have hs27p : (q2 % 6) = 0 := by simpa using hs27
        refine wp_cond_true (show Act.eval _ _ = .bool true from (congrArg Value.bool hs27)) (wp_skip (then_normal ?_))
        have hp28 := hst26.pick [0, 1, 2, 3, 4, 5, 6, 7, 8, 9] (by decide) rfl
        exact ⟨((q2 % 6) == 0), trivial, (by kernel_rfl), hp28⟩
      have hs27p : (q2 % 6) ≠ 0 := by simpa using hs27
      refine wp_cond_false (show Act.eval _ _ = .bool false from (congrArg Value.bool hs27)) (wp_seq (wp_region_P [0, 1] [.k 162 (.bool ((q2 % 6) == 1)), .k 160 (.bool ((q2 % 6) == 1))] [(160, 1, 1, 161), (1, 0, 1, 2)] hst26 fun W29 hst29 => ?_))
      refine then_normal ?_
      rcases Bool.eq_false_or_eq_true ((q2 % 6) == 1) with hs30 | hs30
      · skip
        have hs30p : (q2 % 6) = 1 := by simpa using hs30
        refine wp_cond_true (show Act.eval _ _ = .bool true from (congrArg Value.bool hs30)) (wp_skip (then_normal ?_))
        have hp31 := hst29.pick [0, 1, 2, 3, 4, 5, 6, 7, 8, 9] (by decide) rfl
        exact ⟨((q2 % 6) == 1), trivial, (by kernel_rfl), hp31⟩
      have hs30p : (q2 % 6) ≠ 1 := by simpa using hs30
      refine wp_cond_false (show Act.eval _ _ = .bool false from (congrArg Value.bool hs30)) (wp_region_P [0, 1] [.k 163 (.bool ((q2 % 6) == 2)), .k 160 (.bool ((q2 % 6) == 2))] [(160, 1, 1, 161), (2, 0, 1, 3)] hst29 fun W32 hst32 => ?_)
      refine then_normal ?_
      have hp33 := hst32.pick [0, 1, 2, 3, 4, 5, 6, 7, 8, 9] (by decide) rfl
      exact ⟨((q2 % 6) == 2), trivial, (by kernel_rfl), hp33⟩
    rintro a25 W25 ⟨q, -, hj_, hst25⟩
    obtain ⟨u25_, hu_⟩ : ∃ z, jv a25 = z := ⟨_, rfl⟩
    rw [hu_] at hj_; clear hu_; subst hj_
    rcases Bool.eq_false_or_eq_true (q) with hs34 | hs34
    · skip
      refine wp_cond_true (show Act.eval _ _ = .bool true from (congrArg Value.bool hs34)) (wp_seq (wp_region_P [0, 1, 3] [.k 164 (.slice NA P NC), .k 165 (vi ((P : Int))), .k 15 (vi ((P : Int)))] [(15, 2, 1, 16), (148, 0, 2, 150)] hst25 fun W35 hst35 => ?_))
      refine then_normal (wp_seq ?_)
      have hvk := whole_vok (x := (who2.getD a 0)) (i := (ii : Int)) ⟨hx3, hx128⟩ (by omega)
      obtain ⟨n, es, hn, hRI, hed, hdo, hG2, hc23, hfull⟩ := ag_ins (lsn := (ii : Int) + 1) hA2.ag hvk (by omega) (by have h_ := hA2.pp; omega)
      obtain ⟨c1, hc1⟩ : ∃ z, (G.getD n ag0).2.length + 1 = z := ⟨_, rfl⟩
      obtain ⟨L1, hL1⟩ : ∃ z, es.map edD = z := ⟨_, rfl⟩
      obtain ⟨G2, hG2e⟩ : ∃ z, addG G n ((ii : Int) + 1) ((who2.getD a 0), 0, -1, 0, false, [(1, (ii : Int), ByteArray.empty)]) = z := ⟨_, rfl⟩
      rw [hG2e] at hdo hG2
      rw [← hPL, hc1, hL1] at hRI
      have hLl : L1.length ≤ 100000 := by have h_ := congrArg (fun z => z.2.1.length) hRI; dsimp only at h_; rw [← h_]; exact Nat.le_trans (insA_len _ _ _ _ _) (by decide)
      have hc1b : c1 ≤ 23 := by omega
      refine wp_region_Y [0, 1, 0, 0, 0, 16, 48, 0, 0, 256, 1008, 2047, 4095, 8191, 8191, 8191, 0, 81919, 229375, 524287] [[1], [], [], [], [], [], [2], [], [], [], [], [3, 4, 10], [], [], [], [], [], [12]] [[], [], [], [], [], [], [], [], [], [10], [], [11], [], [], [], [], [12], [13]] [[], [], [], [], [], [], [], [], [], [], [], [], [], [], [], [], [], [12]] [.c 167 (.agg #[.slice PA 8 PC]), .c 168 (.iface 30 (.agg #[.slice PA 8 PC])), .k 169 (.slice NA P NC), .k 170 (vi ((P : Int))), .k 171 (vi ((a : Int))), .c 172 (.pointer (some ⟨B8_7, a, none⟩)), .c 173 (vi (who2.getD a 0)), .k 174 (.agg #[vi (-1), vi 0]), .k 175 (vi ((ii : Int))), .a 176, .a 177, .a 178, .a 166, .c 179 (.agg #[vi ((n : Int)), vi ((c1 : Int))]), .a 180, .c 181 (vi 0), .a 16, .n, .a 17, .k 18 (vi 0)] (fun ix σ β X => match ix with | 0 => True | 1 => True | 2 => True | 3 => True | 4 => True | 5 => True | 6 => True | 7 => True | 8 => True | 9 => σ 176 = .slice (sA (β 176)) 1 1 ∧ X 10 = eO 82 3 (.slice (sA (β 176)) 1 1) 1 (flatR [(1, (ii : Int), ByteArray.empty)]) | 10 => σ 177 = .agg #[vi (who2.getD a 0), vi 0, vi (-1), vi 0, .bool false, .slice (sA (β 176)) 1 1] | 11 => σ 178 = .tuple #[.agg #[vi ((n : Int)), vi ((c1 : Int))], .slice (sA (tg (β 178) 1)) L1.length (sC (tg (β 178) 1)), vi 0] ∧ X 11 = eO 99 3 (.slice (sA (tg (β 178) 1)) L1.length (sC (tg (β 178) 1))) L1.length (L1.flatMap cellsE) | 12 => σ 166 = .tuple #[.agg #[vi ((n : Int)), vi ((c1 : Int))], .slice (sA (tg (β 178) 1)) L1.length (sC (tg (β 178) 1)), vi 0] | 13 => True | 14 => σ 180 = .slice (sA (tg (β 178) 1)) L1.length (sC (tg (β 178) 1)) | 15 => True | 16 => σ 16 = vp (pb (β 16)) ∧ X 12 = eB (pb (β 16)) 24 #[vi 0, vi 0] | 17 => X 13 = eB (pb (β 16)) 24 #[vi ((n : Int)), vi ((c1 : Int))] | 18 => σ 17 = .slice (sA (tg (β 178) 1)) L1.length (sC (tg (β 178) 1)) | _ => True) [0, 1, 2, 3, 4, 5, 6, 7, 8, 9, 10, 11, 13] [0, 1, 5, 6, 9, 10, 11, 12, 13, 14, 15, 16, 17, 18] [(16, 16, 4, 19), (147, 12, 1, 148), (0, 0, 12, 12), (0, 13, 3, 3)] hst35 ?_ ?_ ?_
      · exact fun ix _ _ _ _ _ _ hs hb hx h => match ix, h with
        | 9, h => by dsimp only at h ⊢; rw [← hs 176 rfl, ← hb 176 rfl, ← hx 10 rfl]; exact h
        | 10, h => by dsimp only at h ⊢; rw [← hs 177 rfl, ← hb 176 rfl]; exact h
        | 11, h => by dsimp only at h ⊢; rw [← hs 178 rfl, ← hb 178 rfl, ← hx 11 rfl]; exact h
        | 12, h => by dsimp only at h ⊢; rw [← hs 166 rfl, ← hb 178 rfl]; exact h
        | 14, h => by dsimp only at h ⊢; rw [← hs 180 rfl, ← hb 178 rfl]; exact h
        | 16, h => by dsimp only at h ⊢; rw [← hs 16 rfl, ← hb 16 rfl, ← hx 12 rfl]; exact h
        | 17, h => by dsimp only at h ⊢; rw [← hb 16 rfl, ← hx 13 rfl]; exact h
        | 18, h => by dsimp only at h ⊢; rw [← hs 17 rfl, ← hb 178 rfl]; exact h
        | 0, _ | 1, _ | 2, _ | 3, _ | 4, _ | 5, _ | 6, _ | 7, _ | 8, _ | 13, _ | 15, _ | _ + 19, _ => trivial
      · refine ⟨?_, ?_, ?_, ?_, ?_, ?_, ?_, ?_, ?_, ?_, ?_, ?_, ?_, ?_, trivial⟩
        · exact xs4 rfl id fun cx => run_loadB (n := 1) rfl (by kernel_rfl) (by kernel_rfl) (cx.ou 5) (cx.bi 1 rfl) (nle rfl) rfl
        · exact sv0 rfl rfl rfl rfl rfl (fun _ _ _ h => h) fun ρ β W X cx => by
            have fF167 : ρ (.tmp 167) = .agg #[.slice PA 8 PC] := (cx.an 0)
            simp [go_sem, fF167]
        · exact xs4 rfl id fun cx => run_indexArrB (n := 4) (sz := 1) (m := a) (q := a) rfl (by kernel_rfl) (cx.ou 8) (cx.an 4) (by omega) (by omega) (by omega)
        · exact xs4 rfl id fun cx => run_load1 rfl (by kernel_rfl) (cx.an 5) (((cx.bi 2 rfl).cell a).trans ((List.getElem?_toArray ..).trans (getD_int (by omega))))
        · refine sv_any rfl rfl fun ρ β W X cx => ?_
          refine DoesU.call (run_callF (args := #[vi ((ii : Int))]) rfl cx.sees rfl (by kernel_rfl) (map1 (cx.an 8))) ?_
          refine (whole09_any (ii : Int) _).mono ?_
          rintro e W1 ⟨A4, rfl, ho, hx⟩
          refine ⟨_, rfl, post_call [eO 82 3 (.slice A4 1 1) 1 (flatR [(1, (ii : Int), ByteArray.empty)])] rfl rfl hx (one_new (eO_new ho)) (List.pairwise_singleton _ _) (fun σ β' X' hs hb hv hN => ?_)⟩
          have hv1 := (hv 176 rfl).1; have hv2 := (hv 176 rfl).2
          exact ⟨hv1.trans (by rw [hv2]; rfl), (by rw [hv2]; exact (List.cons.inj hN).1)⟩
        · exact sv rfl rfl rfl rfl rfl _ (fun _ _ _ h => h) (fun β β' h => by rw [h 176 (by decide)]) fun ρ β W X cx => run_buildL rfl (pmc (cx.an 6) (pmc (cx.an 7) (pmc (dTn (cx.an 9)).1 pmn))) (by kernel_rfl)
        · refine sv_any rfl rfl fun ρ β W X cx => ?_
          refine DoesU.call (run_callF (args := #[.iface 30 (.agg #[.slice PA 8 PC]), .slice NA P NC, vi ((P : Int)), vi 7, .agg #[vi (who2.getD a 0), vi 0, vi (-1), vi 0, .bool false, .slice (sA (β 176)) 1 1]]) rfl cx.sees rfl (by kernel_rfl) (map5 (cx.an 1) (cx.an 2) (cx.an 3) (cx.co _) (dTn (cx.an 10)))) ?_
          refine (ins_eq hRI (hins_rng _ _ (pvL (agH G)) _ _ P (P : Int) 7 (who2.getD a 0) 0 (-1) 0 false _ _ [(1, (ii : Int), ByteArray.empty)] _ (pgs_ok (hPg.at_ (CtxV.holdE cx (cx.init 3 _ rfl) rfl) hokP hlP) hlP8 hPs) (At.of_own (cx.ri 4 rfl)) (by omega) (At.of_ownN (cx.row (dTn (cx.an 9)).2 rfl)) (by show (1 : Nat) ≤ 9223372036854775807; decide) (hN.ext cx.upd.to_ext))).mono ?_
          rintro e W1 ⟨A4, c4, rfl, ho_, hx⟩
          refine ⟨_, rfl, post_call [eO 99 3 (.slice A4 L1.length c4) L1.length (L1.flatMap cellsE)] rfl rfl hx (one_new (eO_new (n := L1.length) (xs := L1.flatMap cellsE) ho_)) (List.pairwise_singleton _ _) (fun σ β' X' hs hb hv hN => ?_)⟩
          have hv1 := (hv 178 rfl).1; have hv2 := (hv 178 rfl).2
          exact ⟨hv1.trans (by rw [hv2]; rfl), (by rw [hv2]; exact (List.cons.inj hN).1)⟩
        · exact sv rfl rfl rfl rfl rfl _ (fun _ _ _ h => h) (fun β β' h => by rw [h 178 (by decide)]) fun ρ β W X cx => run_move' rfl (dTn (cx.an 11)).1
        · exact xs4 rfl id fun cx => run_extract' rfl (dTn (cx.an 12)) rfl
        · exact sv rfl rfl rfl rfl rfl _ (fun _ _ _ h => h) (fun β β' h => by rw [h 178 (by decide)]) fun ρ β W X cx => run_extract' rfl (dTn (cx.an 12)) rfl
        · exact xs4 rfl id fun cx => run_extract' rfl (dTn (cx.an 12)) rfl
        · refine sv_any rfl rfl fun ρ β W X cx => ?_
          exact dv_alloc (cs := #[vi 0, vi 0]) rfl (by kernel_rfl) rfl rfl (fun σ β' X' hs hb hv hx => ⟨hv, hx⟩)
        · refine sv_any rfl rfl fun ρ β W X cx => ?_
          exact dv_store (n := 2) rfl (dTn (cx.an 16)).1 (cx.an 13) (by kernel_rfl) (by kernel_rfl) (by kernel_rfl) cx (dTn (cx.an 16)).2 rfl (nle rfl) (by kernel_rfl) rfl rfl rfl (fun σ β' X' hs hb hx => by rw [hb 16]; exact hx)
        · exact sv rfl rfl rfl rfl rfl _ (fun _ _ _ h => h) (fun β β' h => by rw [h 178 (by decide)]) fun ρ β W X cx => run_assign' rfl (dTn (cx.an 14))
      intro σ β X W36 hD hst36 fr hfr
      obtain ⟨A176_36, hu_A176_36⟩ : ∃ z, sA (β 176) = z := ⟨_, rfl⟩
      obtain ⟨A178_36, hu_A178_36⟩ : ∃ z, sA (tg (β 178) 1) = z := ⟨_, rfl⟩
      obtain ⟨c178_36, hu_c178_36⟩ : ∃ z, sC (tg (β 178) 1) = z := ⟨_, rfl⟩
      obtain ⟨B16_36, hu_B16_36⟩ : ∃ z, pb (β 16) = z := ⟨_, rfl⟩
      simp only [exq 10 ((dTn (hD 9 lq)).2), exq 11 ((dTn (hD 11 lq)).2), exq 13 ((dTn (hD 17 lq))), hu_A176_36, hu_A178_36, hu_c178_36, hu_B16_36] at hst36
      simp only [ed 176 ((dTn (hD 9 lq)).1), ed 177 ((dTn (hD 10 lq))), ed 178 ((dTn (hD 11 lq)).1), ed 166 ((dTn (hD 12 lq))), ed 180 ((dTn (hD 14 lq))), ed 16 ((dTn (hD 16 lq)).1), ed 17 ((dTn (hD 18 lq))), hu_A176_36, hu_A178_36, hu_c178_36, hu_B16_36] at hfr
      clear hD hu_A176_36 hu_A178_36 hu_c178_36 hu_B16_36; subst hfr; clear σ β X
      refine then_normal (wp_seq (wp_region_Y [0, 0, 0, 4, 15, 31, 63, 63, 0, 383, 1023] [[1], [], [], [], [11, 3], [], [], [], [], [14]] [[], [], [], [], [13], [], [], [], [14], [15]] [[], [], [], [], [], [], [], [], [], [14]] [.c 183 (.agg #[.slice PA 8 PC]), .k 184 (.slice A178_36 L1.length c178_36), .k 185 (vi ((ii : Int))), tI 186 ((ii : Int) + 1) (by omega), .a 187, .a 182, .a 188, .c 189 (.bool true), .a 19, .n, .k 20 (.bool true)] (fun ix σ β X => match ix with | 0 => True | 1 => True | 2 => True | 3 => True | 4 => σ 187 = .tuple #[.agg #[.slice (sA (tg (tg (β 187) 0) 0)) 8 (sC (tg (tg (β 187) 0) 0))], .bool true] ∧ X 13 = eDo Ps (agH G2) 8 (sA (tg (tg (β 187) 0) 0)) ((X 13).fp) | 5 => σ 182 = .tuple #[.agg #[.slice (sA (tg (tg (β 187) 0) 0)) 8 (sC (tg (tg (β 187) 0) 0))], .bool true] | 6 => σ 188 = .agg #[.slice (sA (tg (tg (β 187) 0) 0)) 8 (sC (tg (tg (β 187) 0) 0))] | 7 => True | 8 => σ 19 = vp (pb (β 19)) ∧ X 14 = eB (pb (β 19)) 30 #[.slice none 0 0] | 9 => X 15 = eB (pb (β 19)) 30 #[.slice (sA (tg (tg (β 187) 0) 0)) 8 (sC (tg (tg (β 187) 0) 0))] | _ => True) [0, 1, 2, 3, 4, 5, 6, 7, 8, 9, 10, 11, 12, 13, 15] [0, 4, 5, 6, 7, 8, 9] [(19, 8, 3, 21), (161, 5, 1, 162), (0, 0, 5, 5), (0, 6, 2, 2)] hst36 ?_ ?_ ?_))
      · exact fun ix _ _ _ _ _ _ hs hb hx h => match ix, h with
        | 4, h => by dsimp only at h ⊢; rw [← hs 187 rfl, ← hb 187 rfl, ← hx 13 rfl]; exact h
        | 5, h => by dsimp only at h ⊢; rw [← hs 182 rfl, ← hb 187 rfl]; exact h
        | 6, h => by dsimp only at h ⊢; rw [← hs 188 rfl, ← hb 187 rfl]; exact h
        | 8, h => by dsimp only at h ⊢; rw [← hs 19 rfl, ← hb 19 rfl, ← hx 14 rfl]; exact h
        | 9, h => by dsimp only at h ⊢; rw [← hb 19 rfl, ← hb 187 rfl, ← hx 15 rfl]; exact h
        | 0, _ | 1, _ | 2, _ | 3, _ | 7, _ | _ + 10, _ => trivial
      · refine ⟨?_, ?_, ?_, ?_, ?_, ?_, ?_, trivial⟩
        · exact xs4 rfl id fun cx => run_loadB (n := 1) rfl (by kernel_rfl) (by kernel_rfl) (cx.ou 5) (cx.bi 1 rfl) (nle rfl) rfl
        · refine sv_any rfl rfl fun ρ β W X cx => ?_
          refine DoesU.call (run_callF (args := #[.agg #[.slice PA 8 PC], .slice A178_36 L1.length c178_36, vi ((ii : Int) + 1)]) rfl cx.sees rfl (by kernel_rfl) (map3 (cx.an 0) (cx.an 1) (cx.an 3))) ?_
          refine (rdo9_n (es := es) hlP8 (by have := congrArg List.length hL1; rw [List.length_map] at this; exact this) (by decide) (hPg.at_ (CtxV.holdE cx (cx.init 3 _ rfl) rfl) hokP hlP) (by rw [← edD_cells, hL1]; exact (At.of_ownN (cx.ri 11 rfl))) (by omega) hed (by omega) hokP (by rw [hPs]; exact hdo)).mono ?_
          rintro e W1 ⟨A4, c4, fp4, rfl, hc⟩
          refine ⟨_, rfl, post_st [eDo Ps (agH G2) 8 A4 fp4] rfl rfl hc (fun σ β' X' hs hb hv hN => ?_)⟩
          have hv1 := (hv 187 rfl).1; have hv2 := (hv 187 rfl).2
          exact ⟨hv1.trans (by rw [hv2]; rfl), (by rw [hv2]; exact eDo_self ((List.cons.inj hN).1))⟩
        · exact sv rfl rfl rfl rfl rfl _ (fun _ _ _ h => h) (fun β β' h => by rw [h 187 (by decide)]) fun ρ β W X cx => run_move' rfl (dTn (cx.an 4)).1
        · exact sv rfl rfl rfl rfl rfl _ (fun _ _ _ h => h) (fun β β' h => by rw [h 187 (by decide)]) fun ρ β W X cx => run_extract' rfl (dTn (cx.an 5)) rfl
        · exact xs4 rfl id fun cx => run_extract' rfl (dTn (cx.an 5)) rfl
        · refine sv_any rfl rfl fun ρ β W X cx => ?_
          exact dv_alloc (cs := #[.slice none 0 0]) rfl (by kernel_rfl) rfl rfl (fun σ β' X' hs hb hv hx => ⟨hv, hx⟩)
        · refine sv_any rfl rfl fun ρ β W X cx => ?_
          exact dv_store (n := 1) rfl (dTn (cx.an 8)).1 (dTn (cx.an 6)) (by kernel_rfl) (by kernel_rfl) (by kernel_rfl) cx (dTn (cx.an 8)).2 rfl (nle rfl) (by kernel_rfl) rfl rfl rfl (fun σ β' X' hs hb hx => by rw [hb 19, hb 187]; exact hx)
      intro σ β X W37 hD hst37 fr hfr
      obtain ⟨A187_37, hu_A187_37⟩ : ∃ z, sA (tg (tg (β 187) 0) 0) = z := ⟨_, rfl⟩
      obtain ⟨c187_37, hu_c187_37⟩ : ∃ z, sC (tg (tg (β 187) 0) 0) = z := ⟨_, rfl⟩
      obtain ⟨B19_37, hu_B19_37⟩ : ∃ z, pb (β 19) = z := ⟨_, rfl⟩
      have xX13 : X 13 = _ := (dTn (hD 4 lq)).2
      obtain ⟨r13_37, hu_r13_37⟩ : ∃ z, (X 13).fp = z := ⟨_, rfl⟩
      rw [hu_r13_37] at xX13
      clear hu_r13_37
      simp only [xX13, exq 15 ((dTn (hD 9 lq))), hu_A187_37, hu_c187_37, hu_B19_37] at hst37
      simp only [ed 187 ((dTn (hD 4 lq)).1), ed 182 ((dTn (hD 5 lq))), ed 188 ((dTn (hD 6 lq))), ed 19 ((dTn (hD 8 lq)).1), hu_A187_37, hu_c187_37, hu_B19_37] at hfr
      clear hD xX13 hu_A187_37 hu_c187_37 hu_B19_37; subst hfr; clear σ β X
      refine then_normal (wp_seq (wp_seq (wp_region_P [0, 1, 3, 7, 15, 31] [.k 190 (vi 0), .k 191 (.bool false), .k 192 (.bool false), .k 193 (.bool true), .k 194 (.bool false), .k 195 (.bool false)] [(190, 0, 6, 196)] hst37 fun W38 hst38 => ?_)))
      refine then_normal (wp_cond_false (show Act.eval _ _ = .bool false from rfl) (wp_skip (then_normal (wp_seq ?_))))
      obtain ⟨R2, Ps2, hPs2, hPg2, hmN_⟩ := St.domerge (L := [eB B40_3 114 (clockL 3 (rAt 3 mB) K2).toArray, eB B5_4 30 #[.slice PA 8 PC], eB B8_7 57 (who2.map (Value.int .i64)).toArray, eO 3 1 (.slice NA P NC) P ((rangeI P).map (Value.int .i64)), eO 66 4 (.slice RA rn RC) rn (Rw.flatMap cellsH), eO 69 2 (.slice SA sn SC) sn (ss.flatMap cellsS), eSS ss, eO 73 1 (.slice WA wn WC) wn (ww.map cellW), eWW ww, eO 82 3 (.slice A176_36 1 1) 1 (flatR [(1, (ii : Int), ByteArray.empty)]), eO 99 3 (.slice A178_36 L1.length c178_36) L1.length (L1.flatMap cellsE), eB B16_36 24 #[vi ((n : Int)), vi ((c1 : Int))], eB B19_37 30 #[.slice A187_37 8 c187_37]]) (hst38.pick [0, 1, 2, 4, 5, 6, 7, 8, 9, 10, 11, 12, 14, 3, 13] (by decide) rfl) hPg
      simp only [List.cons_append, List.nil_append] at hmN_
      refine wp_region_Y [0, 1] [[12], [1]] [[], [14]] [[], [1]] [.c 196 (.agg #[.slice A187_37 8 c187_37]), .n] (fun ix σ β X => match ix with | 0 => True | 1 => X 14 = eB B5_4 30 #[.slice A187_37 8 c187_37] | _ => True) [0, 2, 3, 4, 5, 6, 7, 8, 9, 10, 11, 12, 13, 14] [0, 1] [(196, 0, 1, 197)] hmN_ ?_ ?_ ?_
      · exact fun ix _ _ _ _ _ _ hs hb hx h => match ix, h with
        | 1, h => by dsimp only at h ⊢; rw [← hx 14 rfl]; exact h
        | 0, _ | _ + 2, _ => trivial
      · refine ⟨?_, ?_, trivial⟩
        · exact xs4 rfl id fun cx => run_loadB (n := 1) rfl (by kernel_rfl) (by kernel_rfl) (cx.ou 19) (cx.bi 12 rfl) (nle rfl) rfl
        · refine sv_any rfl rfl fun ρ β W X cx => ?_
          exact dv_store (n := 1) rfl (cx.ou 5) (cx.an 0) (by kernel_rfl) (by kernel_rfl) (by kernel_rfl) cx (cx.init 1 _ rfl) rfl (nle rfl) (by kernel_rfl) rfl rfl rfl (fun σ β' X' hs hb hx => hx)
      intro σ β X W39 hD hst39 fr hfr
      simp only [exq 14 ((dTn (hD 1 lq)))] at hst39
      clear hD; subst hfr; clear σ β X
      refine then_normal (wp_seq (wp_seq (wp_region_Z [0, 1, 0, 7] [[], [10]] [.k 197 (vp B16_36), .c 198 (vi ((n : Int))), .k 199 (vi ((P : Int))), .k 200 (.bool ((n : Int) == (P : Int)))] [0, 1, 2, 3, 4, 5, 6, 7, 8, 9, 10, 11, 12, 13] [1] [(197, 0, 4, 201)] hst39 ?_ fun W40 hst40 => ?_)))
      · refine ⟨?_, trivial⟩
        · exact xs4 rfl id fun cx => run_load1 rfl (by kernel_rfl) (cx.an 0) ((cx.bi 10 rfl).cell 0)
      refine then_normal ?_
      rcases Bool.eq_false_or_eq_true ((n : Int) == (P : Int)) with hs41 | hs41
      · skip
        have hs41p : (n : Int) = (P : Int) := by simpa using hs41
        refine wp_cond_true (show Act.eval _ _ = .bool true from (congrArg Value.bool hs41)) (wp_region_Y [0, 0, 2, 7, 15] [[], [], [], [14, 2]] [[], [], [14], [15]] [[], [], [], [2]] [.k 201 (.slice NA P NC), .k 202 (vi ((P : Int))), .a 203, .a 204, .a 6] (fun ix σ β X => match ix with | 0 => True | 1 => True | 2 => σ 203 = .slice (sA (β 203)) 1 1 ∧ X 14 = eO 3 1 (.slice (sA (β 203)) 1 1) 1 ([vi ((P : Int))]) | 3 => σ 204 = .slice (sA (β 204)) (P + 1) (sC (β 204)) ∧ X 15 = eO 3 1 (.slice (sA (β 204)) (P + 1) (sC (β 204))) (P + 1) ((rangeI (P + 1)).map (Value.int .i64)) | 4 => σ 6 = .slice (sA (β 204)) (P + 1) (sC (β 204)) | _ => True) [0, 1, 3, 4, 5, 6, 7, 8, 9, 10, 11, 12, 13, 14, 15] [2, 3, 4] [(6, 4, 1, 7), (194, 0, 4, 198)] hst40 ?_ ?_ ?_)
        · exact fun ix _ _ _ _ _ _ hs hb hx h => match ix, h with
          | 2, h => by dsimp only at h ⊢; rw [← hs 203 rfl, ← hb 203 rfl, ← hx 14 rfl]; exact h
          | 3, h => by dsimp only at h ⊢; rw [← hs 204 rfl, ← hb 204 rfl, ← hx 15 rfl]; exact h
          | 4, h => by dsimp only at h ⊢; rw [← hs 6 rfl, ← hb 204 rfl]; exact h
          | 0, _ | 1, _ | _ + 5, _ => trivial
        · refine ⟨?_, ?_, ?_, trivial⟩
          · refine sv_any rfl rfl fun ρ β W X cx => ?_
            have fF202 : ρ (.tmp 202) = vi ((P : Int)) := (cx.an 1)
            exact dv_lit (e := 3) (xs := [vi ((P : Int))]) rfl (by simp [go_sem, fF202]) rfl (by decide) rfl rfl (fun σ β' X' hs hb hv hx => ⟨hv, hx⟩)
          · refine sv_any rfl rfl fun ρ β W X cx => ?_
            obtain ⟨i0, hi0, hz0, hz1, hz2⟩ := info_parts Tryd.infoInt
            refine dv_append (n := P) (m := 1) (nm := P + 1) (xs := (rangeI P).map (Value.int .i64)) (news := [vi ((P : Int))]) (xs' := (rangeI (P + 1)).map (Value.int .i64)) rfl (ty := 22) rfl (by kernel_rfl) hi0 hz0 hz1 hz2 rfl (cx.an 0) cx (cx.init 2 _ rfl) rfl (dTn (cx.an 2)).1 (by first | (simp; done) | (simp; omega)) (At.of_own (cx.row (dTn (cx.an 2)).2 rfl)) (by simp [cellsH, cellsS, cellsT2, Value.oneCell']) (by simp only [maxLen]; omega) (by omega) rfl rfl rfl (by omega) (rng_snoc P) (fun σ β' X' hs hb hv hx => ?_)
            exact ⟨hv, hx⟩
          · exact sv rfl rfl rfl rfl rfl _ (fun _ _ _ h => h) (fun β β' h => by rw [h 204 (by decide)]) fun ρ β W X cx => run_assign' rfl (dTn (cx.an 3)).1
        intro σ β X W42 hD hst42 fr hfr
        obtain ⟨A203_42, hu_A203_42⟩ : ∃ z, sA (β 203) = z := ⟨_, rfl⟩
        obtain ⟨A204_42, hu_A204_42⟩ : ∃ z, sA (β 204) = z := ⟨_, rfl⟩
        obtain ⟨c204_42, hu_c204_42⟩ : ∃ z, sC (β 204) = z := ⟨_, rfl⟩
        simp only [exq 14 ((dTn (hD 2 lq)).2), exq 15 ((dTn (hD 3 lq)).2), hu_A203_42, hu_A204_42, hu_c204_42] at hst42
        simp only [ed 203 ((dTn (hD 2 lq)).1), ed 204 ((dTn (hD 3 lq)).1), ed 6 ((dTn (hD 4 lq))), hu_A203_42, hu_A204_42, hu_c204_42] at hfr
        clear hD hu_A203_42 hu_A204_42 hu_c204_42; subst hfr; clear σ β X
        refine then_normal (wp_region_Y [0, 0, 2, 6, 0, 30, 62, 127, 255] [[], [], [], [1], [9], [], [], [15, 2]] [[], [], [], [], [], [], [15], [16]] [[], [], [], [], [], [], [], [2]] [.k 205 (.slice RA rn RC), .k 206 (vi ((a : Int))), .c 207 (.pointer (some ⟨B8_7, a, none⟩)), .c 208 (vi (who2.getD a 0)), .c 209 (.agg #[vi ((n : Int)), vi ((c1 : Int))]), .k 210 (.agg #[vi (who2.getD a 0), vi 0, vi ((n : Int)), vi ((c1 : Int))]), .a 211, .a 212, .a 7] (fun ix σ β X => match ix with | 0 => True | 1 => True | 2 => True | 3 => True | 4 => True | 5 => True | 6 => σ 211 = .slice ((some ⟨(pb' (β 211)), 0, none⟩)) 1 1 ∧ X 15 = eO 66 4 (.slice ((some ⟨(pb' (β 211)), 0, none⟩)) 1 1) 1 (cellsH (who2.getD a 0, 0, (n : Int), (c1 : Int))) | 7 => σ 212 = .slice (sA (β 212)) (rn + 1) (sC (β 212)) ∧ X 16 = eO 66 4 (.slice (sA (β 212)) (rn + 1) (sC (β 212))) (rn + 1) ((Rw ++ [(who2.getD a 0, 0, (n : Int), (c1 : Int))]).flatMap cellsH) | 8 => σ 7 = .slice (sA (β 212)) (rn + 1) (sC (β 212)) | _ => True) [0, 1, 3, 4, 5, 6, 7, 8, 9, 10, 11, 12, 13, 14, 15, 16] [2, 3, 4, 6, 7, 8] [(7, 8, 1, 8), (197, 0, 8, 205)] hst42 ?_ ?_ ?_)
        · exact fun ix _ _ _ _ _ _ hs hb hx h => match ix, h with
          | 6, h => by dsimp only at h ⊢; rw [← hs 211 rfl, ← hb 211 rfl, ← hx 15 rfl]; exact h
          | 7, h => by dsimp only at h ⊢; rw [← hs 212 rfl, ← hb 212 rfl, ← hx 16 rfl]; exact h
          | 8, h => by dsimp only at h ⊢; rw [← hs 7 rfl, ← hb 212 rfl]; exact h
          | 0, _ | 1, _ | 2, _ | 3, _ | 4, _ | 5, _ | _ + 9, _ => trivial
        · refine ⟨?_, ?_, ?_, ?_, ?_, ?_, trivial⟩
          · exact xs4 rfl id fun cx => run_indexArrB (n := 4) (sz := 1) (m := a) (q := a) rfl (by kernel_rfl) (cx.ou 8) (cx.an 1) (by omega) (by omega) (by omega)
          · exact xs4 rfl id fun cx => run_load1 rfl (by kernel_rfl) (cx.an 2) (((cx.bi 1 rfl).cell a).trans ((List.getElem?_toArray ..).trans (getD_int (by omega))))
          · exact xs4 rfl id fun cx => run_loadB (n := 2) rfl (by kernel_rfl) (by kernel_rfl) (cx.ou 16) (cx.bi 9 rfl) (nle rfl) rfl
          · refine sv_any rfl rfl fun ρ β W X cx => ?_
            have fF210 : ρ (.tmp 210) = .agg #[vi (who2.getD a 0), vi 0, vi ((n : Int)), vi ((c1 : Int))] := (cx.an 5)
            exact dv_litN (e := 66) (sz := 4) (xs := [vi (who2.getD a 0), vi 0, vi ((n : Int)), vi ((c1 : Int))]) rfl (by simp [go_sem, fF210]) rfl (by decide) rfl rfl (fun σ β' X' hs hb hv hx => ⟨hv, hx⟩)
          · refine sv_any rfl rfl fun ρ β W X cx => ?_
            obtain ⟨i0, hi0, hz0, hz1, hz2⟩ := info_parts infoHld
            refine dv_appendN (n := rn) (m := 1) (nm := rn + 1) (sz := 4) (xs := Rw.flatMap cellsH) (news := cellsH (who2.getD a 0, 0, (n : Int), (c1 : Int))) (xs' := (Rw ++ [(who2.getD a 0, 0, (n : Int), (c1 : Int))]).flatMap cellsH) rfl (ty := 56) rfl (by kernel_rfl) hi0 hz0 hz1 hz2 rfl (by decide) (cx.an 0) cx (cx.init 2 _ rfl) rfl (dTn (cx.an 6)).1 (by rfl) (At.of_ownN (cx.row (dTn (cx.an 6)).2 rfl)) (by simp [cellsH, cellsS, cellsT2, Value.oneCell']) (by simp only [maxLen]; omega) (by omega) rfl rfl rfl (by omega) (hld_snoc _ _) (fun σ β' X' hs hb hv hx => ?_)
            exact ⟨hv, hx⟩
          · exact sv rfl rfl rfl rfl rfl _ (fun _ _ _ h => h) (fun β β' h => by rw [h 212 (by decide)]) fun ρ β W X cx => run_assign' rfl (dTn (cx.an 7)).1
        intro σ β X W43 hD hst43 fr hfr
        obtain ⟨B211_43, hu_B211_43⟩ : ∃ z, pb' (β 211) = z := ⟨_, rfl⟩
        obtain ⟨A212_43, hu_A212_43⟩ : ∃ z, sA (β 212) = z := ⟨_, rfl⟩
        obtain ⟨c212_43, hu_c212_43⟩ : ∃ z, sC (β 212) = z := ⟨_, rfl⟩
        simp only [exq 15 ((dTn (hD 6 lq)).2), exq 16 ((dTn (hD 7 lq)).2), hu_B211_43, hu_A212_43, hu_c212_43] at hst43
        simp only [ed 211 ((dTn (hD 6 lq)).1), ed 212 ((dTn (hD 7 lq)).1), ed 7 ((dTn (hD 8 lq))), hu_B211_43, hu_A212_43, hu_c212_43] at hfr
        clear hD hu_B211_43 hu_A212_43 hu_c212_43; subst hfr; clear σ β X
        refine blk_normal (blk_normal (then_normal (wp_region_P [0, 1, 3] [.k 55 (vi ((ii : Int))), tI 56 ((ii : Int) + 1) (by omega), .k 11 (vi ((ii : Int) + 1))] [(11, 2, 1, 12), (43, 0, 2, 45)] hst43 fun W44 hst44 => ?_)))
        refine then_normal ?_
        have hA3 := ai_ins (lsn := (ii : Int) + 1) (rs := [(1, (ii : Int), ByteArray.empty)]) hA2 (by omega) ha4 hw0 (by omega) hn (by rw [hG2e]; exact hG2) hfull
        rw [hG2e, hc1] at hA3
        refine ⟨60 - ((ii + 1)), by omega, ?_⟩
        have hp45 := hst44.pick [0, 11, 1, 10, 13, 15, 2, 3, 4, 5] (by decide) rfl
        exact ⟨(ii + 1), mB, K2, who2, R2, Ps2, A187_37, c187_37, G2, (P + 1), A204_42, c204_42, (Rw ++ [((who2.getD a 0), 0, (n : Int), (c1 : Int))]), (rn + 1), A212_43, c212_43, ss, sn, SA, SC, ww, wn, WA, WC, by omega, by omega, hm2, hA3, hPg2, hPs2, by rw [← hG2e, addG, if_neg (by have h_ := hs41p; omega), List.length_append, hPL]; rfl, ⟨by rw [List.length_append, hrn.1]; rfl, by omega⟩, ⟨hsn.1, by omega⟩, ⟨hwn.1, by omega⟩, hsl, rfl, (by kernel_rfl), hp45⟩
      have hs41p : (n : Int) ≠ (P : Int) := by simpa using hs41
      refine wp_cond_false (show Act.eval _ _ = .bool false from (congrArg Value.bool hs41)) (wp_skip (then_normal (wp_region_Y [0, 0, 2, 6, 0, 30, 62, 127, 255] [[], [], [], [1], [10], [], [], [14, 3]] [[], [], [], [], [], [], [14], [15]] [[], [], [], [], [], [], [], [3]] [.k 205 (.slice RA rn RC), .k 206 (vi ((a : Int))), .c 207 (.pointer (some ⟨B8_7, a, none⟩)), .c 208 (vi (who2.getD a 0)), .c 209 (.agg #[vi ((n : Int)), vi ((c1 : Int))]), .k 210 (.agg #[vi (who2.getD a 0), vi 0, vi ((n : Int)), vi ((c1 : Int))]), .a 211, .a 212, .a 7] (fun ix σ β X => match ix with | 0 => True | 1 => True | 2 => True | 3 => True | 4 => True | 5 => True | 6 => σ 211 = .slice ((some ⟨(pb' (β 211)), 0, none⟩)) 1 1 ∧ X 14 = eO 66 4 (.slice ((some ⟨(pb' (β 211)), 0, none⟩)) 1 1) 1 (cellsH (who2.getD a 0, 0, (n : Int), (c1 : Int))) | 7 => σ 212 = .slice (sA (β 212)) (rn + 1) (sC (β 212)) ∧ X 15 = eO 66 4 (.slice (sA (β 212)) (rn + 1) (sC (β 212))) (rn + 1) ((Rw ++ [(who2.getD a 0, 0, (n : Int), (c1 : Int))]).flatMap cellsH) | 8 => σ 7 = .slice (sA (β 212)) (rn + 1) (sC (β 212)) | _ => True) [0, 1, 2, 4, 5, 6, 7, 8, 9, 10, 11, 12, 13, 14, 15] [2, 3, 4, 6, 7, 8] [(7, 8, 1, 8), (197, 0, 8, 205)] hst40 ?_ ?_ ?_)))
      · exact fun ix _ _ _ _ _ _ hs hb hx h => match ix, h with
        | 6, h => by dsimp only at h ⊢; rw [← hs 211 rfl, ← hb 211 rfl, ← hx 14 rfl]; exact h
        | 7, h => by dsimp only at h ⊢; rw [← hs 212 rfl, ← hb 212 rfl, ← hx 15 rfl]; exact h
        | 8, h => by dsimp only at h ⊢; rw [← hs 7 rfl, ← hb 212 rfl]; exact h
        | 0, _ | 1, _ | 2, _ | 3, _ | 4, _ | 5, _ | _ + 9, _ => trivial
      · refine ⟨?_, ?_, ?_, ?_, ?_, ?_, trivial⟩
        · exact xs4 rfl id fun cx => run_indexArrB (n := 4) (sz := 1) (m := a) (q := a) rfl (by kernel_rfl) (cx.ou 8) (cx.an 1) (by omega) (by omega) (by omega)
        · exact xs4 rfl id fun cx => run_load1 rfl (by kernel_rfl) (cx.an 2) (((cx.bi 1 rfl).cell a).trans ((List.getElem?_toArray ..).trans (getD_int (by omega))))
        · exact xs4 rfl id fun cx => run_loadB (n := 2) rfl (by kernel_rfl) (by kernel_rfl) (cx.ou 16) (cx.bi 10 rfl) (nle rfl) rfl
        · refine sv_any rfl rfl fun ρ β W X cx => ?_
          have fF210 : ρ (.tmp 210) = .agg #[vi (who2.getD a 0), vi 0, vi ((n : Int)), vi ((c1 : Int))] := (cx.an 5)
          exact dv_litN (e := 66) (sz := 4) (xs := [vi (who2.getD a 0), vi 0, vi ((n : Int)), vi ((c1 : Int))]) rfl (by simp [go_sem, fF210]) rfl (by decide) rfl rfl (fun σ β' X' hs hb hv hx => ⟨hv, hx⟩)
        · refine sv_any rfl rfl fun ρ β W X cx => ?_
          obtain ⟨i0, hi0, hz0, hz1, hz2⟩ := info_parts infoHld
          refine dv_appendN (n := rn) (m := 1) (nm := rn + 1) (sz := 4) (xs := Rw.flatMap cellsH) (news := cellsH (who2.getD a 0, 0, (n : Int), (c1 : Int))) (xs' := (Rw ++ [(who2.getD a 0, 0, (n : Int), (c1 : Int))]).flatMap cellsH) rfl (ty := 56) rfl (by kernel_rfl) hi0 hz0 hz1 hz2 rfl (by decide) (cx.an 0) cx (cx.init 3 _ rfl) rfl (dTn (cx.an 6)).1 (by rfl) (At.of_ownN (cx.row (dTn (cx.an 6)).2 rfl)) (by simp [cellsH, cellsS, cellsT2, Value.oneCell']) (by simp only [maxLen]; omega) (by omega) rfl rfl rfl (by omega) (hld_snoc _ _) (fun σ β' X' hs hb hv hx => ?_)
          exact ⟨hv, hx⟩
        · exact sv rfl rfl rfl rfl rfl _ (fun _ _ _ h => h) (fun β β' h => by rw [h 212 (by decide)]) fun ρ β W X cx => run_assign' rfl (dTn (cx.an 7)).1
      intro σ β X W46 hD hst46 fr hfr
      obtain ⟨B211_46, hu_B211_46⟩ : ∃ z, pb' (β 211) = z := ⟨_, rfl⟩
      obtain ⟨A212_46, hu_A212_46⟩ : ∃ z, sA (β 212) = z := ⟨_, rfl⟩
      obtain ⟨c212_46, hu_c212_46⟩ : ∃ z, sC (β 212) = z := ⟨_, rfl⟩
      simp only [exq 14 ((dTn (hD 6 lq)).2), exq 15 ((dTn (hD 7 lq)).2), hu_B211_46, hu_A212_46, hu_c212_46] at hst46
      simp only [ed 211 ((dTn (hD 6 lq)).1), ed 212 ((dTn (hD 7 lq)).1), ed 7 ((dTn (hD 8 lq))), hu_B211_46, hu_A212_46, hu_c212_46] at hfr
      clear hD hu_B211_46 hu_A212_46 hu_c212_46; subst hfr; clear σ β X
      refine blk_normal (blk_normal (then_normal (wp_region_P [0, 1, 3] [.k 55 (vi ((ii : Int))), tI 56 ((ii : Int) + 1) (by omega), .k 11 (vi ((ii : Int) + 1))] [(11, 2, 1, 12), (43, 0, 2, 45)] hst46 fun W47 hst47 => ?_)))
      refine then_normal ?_
      have hA3 := ai_ins (lsn := (ii : Int) + 1) (rs := [(1, (ii : Int), ByteArray.empty)]) hA2 (by omega) ha4 hw0 (by omega) hn (by rw [hG2e]; exact hG2) hfull
      rw [hG2e, hc1] at hA3
      refine ⟨60 - ((ii + 1)), by omega, ?_⟩
      have hp48 := hst47.pick [0, 12, 1, 11, 2, 14, 3, 4, 5, 6] (by decide) rfl
      exact ⟨(ii + 1), mB, K2, who2, R2, Ps2, A187_37, c187_37, G2, P, NA, NC, (Rw ++ [((who2.getD a 0), 0, (n : Int), (c1 : Int))]), (rn + 1), A212_46, c212_46, ss, sn, SA, SC, ww, wn, WA, WC, by omega, by omega, hm2, hA3, hPg2, hPs2, by rw [← hG2e, addG, if_pos (by have h_ := hs41p; omega), List.length_set, hPL], ⟨by rw [List.length_append, hrn.1]; rfl, by omega⟩, ⟨hsn.1, by omega⟩, ⟨hwn.1, by omega⟩, hsl, rfl, (by kernel_rfl), hp48⟩
    refine wp_cond_false (show Act.eval _ _ = .bool false from (congrArg Value.bool hs34)) (wp_seq (wp_region_P [0, 1] [.k 214 (.bool ((q2 % 6) == 3)), .k 213 (.bool ((q2 % 6) == 3))] [(213, 1, 1, 214), (0, 0, 1, 1)] hst25 fun W49 hst49 => ?_))
    refine then_normal ?_
    rcases Bool.eq_false_or_eq_true ((q2 % 6) == 3) with hs50 | hs50
    · skip
      have hs50p : (q2 % 6) = 3 := by simpa using hs50
      refine wp_cond_true (show Act.eval _ _ = .bool true from (congrArg Value.bool hs50)) (wp_seq ?_)
      obtain ⟨kk, hke, hk⟩ := tmod_nat (a := q3) (m := rn + 1) (by omega) (by omega)
      have hke' : q3.tmod ((rn : Int) + 1) = (kk : Int) := by rw [show ((rn : Int) + 1) = ((rn + 1 : Nat) : Int) by omega]; exact hke
      refine wp_region_Z [0, 0, 3, 7, 15, 31, 0, 64, 192, 511, 1023] [] [.k 215 (.slice LA ls.length lc), .k 216 (vi ((ii : Int))), .c 217 (.pointer (some ((ad LA).add (ii * 3)))), .c 218 (.pointer (some ((ad LA).add (ii * 3 + 2)))), .c 219 (.int .u8 q3), tW 220 .i64 q3 q3 (IntWalk.i64_in _ (by omega)), .k 221 (.slice RA rn RC), .k 222 (vi ((rn : Int))), tI 223 ((rn : Int) + 1) (by omega), .c 224 (vi ((kk : Int))), .k 21 (vi ((kk : Int)))] [0, 1, 2, 3, 4, 5, 6, 7, 8, 9] [2, 3, 4, 9] [(21, 10, 1, 22), (193, 0, 10, 203)] hst49 ?_ fun W51 hst51 => ?_
      · refine ⟨?_, ?_, ?_, ?_, trivial⟩
        · exact xs4 rfl id fun cx => run_indexSlM (e := 61) (m := ii) (sz := 3) rfl (by kernel_rfl) (by kernel_rfl) (cx.an 0) (cx.an 1) (by omega) (by omega) (hL.ext cx.upd.to_ext) (by have h_ := flatLen (f := cells3b) (sz := 3) cells3b_len ls; show 0 < (List.flatMap cells3b ls).length; omega)
        · exact xs4 rfl id fun cx => run_fieldAd rfl (by kernel_rfl) (cx.an 2)
        · exact xs4 rfl id fun cx => run_load1 rfl (by kernel_rfl) (cx.an 3) (At.eltc (f := cells3b) (k := 2) cells3b_len (hL.ext cx.upd.to_ext) hqi rfl)
        · exact xs4 rfl id fun cx => run_rem rfl (cx.an 5) (cx.an 8) (by omega) hke'
      refine then_normal (wp_seq (wp_seq (wp_region_P [0, 0, 2, 7] [.k 225 (vi ((kk : Int))), .k 226 (.slice RA rn RC), .k 227 (vi ((rn : Int))), .k 228 (.bool ((kk : Int) == (rn : Int)))] [(225, 0, 4, 229)] hst51 fun W52 hst52 => ?_)))
      refine then_normal ?_
      rcases Bool.eq_false_or_eq_true ((kk : Int) == (rn : Int)) with hs53 | hs53
      · skip
        have hs53p : (kk : Int) = (rn : Int) := by simpa using hs53
        refine wp_cond_true (show Act.eval _ _ = .bool true from (congrArg Value.bool hs53)) (wp_exit (then_exit (blk_ne (by decide) (blk_eq (then_normal (wp_region_P [0, 1, 3] [.k 55 (vi ((ii : Int))), tI 56 ((ii : Int) + 1) (by omega), .k 11 (vi ((ii : Int) + 1))] [(11, 2, 1, 12), (43, 0, 2, 45)] hst52 fun W54 hst54 => ?_))))))
        refine then_normal ?_
        refine ⟨60 - ((ii + 1)), by omega, ?_⟩
        have hp55 := hst54.pick [0, 1, 2, 3, 4, 5, 6, 7, 8, 9] (by decide) rfl
        exact ⟨(ii + 1), mB, K2, who2, R, Ps, PA, PC, G, P, NA, NC, Rw, rn, RA, RC, ss, sn, SA, SC, ww, wn, WA, WC, by omega, by omega, hm2, hA2, hPg, hPs, hPL, ⟨hrn.1, by omega⟩, ⟨hsn.1, by omega⟩, ⟨hwn.1, by omega⟩, hsl, rfl, (by kernel_rfl), hp55⟩
      have hs53p : (kk : Int) ≠ (rn : Int) := by simpa using hs53
      refine wp_cond_false (show Act.eval _ _ = .bool false from (congrArg Value.bool hs53)) (wp_skip (then_normal (wp_seq ?_)))
      obtain ⟨⟨x, y, p1, s1⟩, hrk⟩ := some_of (l := Rw) (k := kk) (by omega)
      obtain ⟨hin, n, s, rs, hat0, hnG, hs1, hag⟩ := hA2.row _ (List.mem_of_getElem? hrk)
      dsimp only at hat0 hag
      obtain ⟨rfl, rfl⟩ : p1 = (n : Int) ∧ s1 = (s : Int) := by simpa using hat0
      have hatk := ag_at' hA2.ag hnG hs1 hag
      refine wp_region_Y [0, 1, 0, 0, 12, 28, 60, 127, 255, 511, 511, 0, 3071, 8191] [[1], [], [], [], [5], [], [5], [3], [], [], [], [], [11]] [[], [], [], [], [], [], [], [10], [], [], [], [11], [12]] [[], [], [], [], [], [], [], [], [], [], [], [], [11]] [.c 230 (.agg #[.slice PA 8 PC]), .c 231 (.iface 30 (.agg #[.slice PA 8 PC])), .k 232 (.slice RA rn RC), .k 233 (vi ((kk : Int))), .c 234 (.pointer (some ((ad RA).add (kk * 4)))), .c 235 (.pointer (some ((ad RA).add (kk * 4 + 2)))), .c 236 (.agg #[vi ((n : Int)), vi ((s : Int))]), .a 237, .a 229, .a 238, .c 239 (.bool true), .a 22, .n, .k 23 (.bool true)] (fun ix σ β X => match ix with | 0 => True | 1 => True | 2 => True | 3 => True | 4 => True | 5 => True | 6 => True | 7 => σ 237 = .tuple #[.agg #[vi x, vi y, vi (-1), vi 0, .bool false, .slice (sA (tg (tg (β 237) 0) 5)) rs.length (sC (tg (tg (β 237) 0) 5))], .bool true] ∧ X 10 = eO 82 3 (.slice (sA (tg (tg (β 237) 0) 5)) rs.length (sC (tg (tg (β 237) 0) 5))) rs.length (flatR rs) | 8 => σ 229 = .tuple #[.agg #[vi x, vi y, vi (-1), vi 0, .bool false, .slice (sA (tg (tg (β 237) 0) 5)) rs.length (sC (tg (tg (β 237) 0) 5))], .bool true] | 9 => σ 238 = .agg #[vi x, vi y, vi (-1), vi 0, .bool false, .slice (sA (tg (tg (β 237) 0) 5)) rs.length (sC (tg (tg (β 237) 0) 5))] | 10 => True | 11 => σ 22 = vp (pb (β 22)) ∧ X 11 = eB (pb (β 22)) 41 #[vi 0, vi 0, vi 0, vi 0, .bool false, .slice none 0 0] | 12 => X 12 = eB (pb (β 22)) 41 #[vi x, vi y, vi (-1), vi 0, .bool false, .slice (sA (tg (tg (β 237) 0) 5)) rs.length (sC (tg (tg (β 237) 0) 5))] | _ => True) [0, 1, 2, 3, 4, 5, 6, 7, 8, 9, 10, 12] [0, 1, 4, 5, 6, 7, 8, 9, 10, 11, 12] [(22, 11, 3, 24), (205, 8, 1, 206), (0, 0, 8, 8), (0, 9, 2, 2)] hst52 ?_ ?_ ?_
      · exact fun ix _ _ _ _ _ _ hs hb hx h => match ix, h with
        | 7, h => by dsimp only at h ⊢; rw [← hs 237 rfl, ← hb 237 rfl, ← hx 10 rfl]; exact h
        | 8, h => by dsimp only at h ⊢; rw [← hs 229 rfl, ← hb 237 rfl]; exact h
        | 9, h => by dsimp only at h ⊢; rw [← hs 238 rfl, ← hb 237 rfl]; exact h
        | 11, h => by dsimp only at h ⊢; rw [← hs 22 rfl, ← hb 22 rfl, ← hx 11 rfl]; exact h
        | 12, h => by dsimp only at h ⊢; rw [← hb 22 rfl, ← hb 237 rfl, ← hx 12 rfl]; exact h
        | 0, _ | 1, _ | 2, _ | 3, _ | 4, _ | 5, _ | 6, _ | 10, _ | _ + 13, _ => trivial
      · refine ⟨?_, ?_, ?_, ?_, ?_, ?_, ?_, ?_, ?_, ?_, ?_, trivial⟩
        · exact xs4 rfl id fun cx => run_loadB (n := 1) rfl (by kernel_rfl) (by kernel_rfl) (cx.ou 5) (cx.bi 1 rfl) (nle rfl) rfl
        · exact sv0 rfl rfl rfl rfl rfl (fun _ _ _ h => h) fun ρ β W X cx => by
            have fF230 : ρ (.tmp 230) = .agg #[.slice PA 8 PC] := (cx.an 0)
            simp [go_sem, fF230]
        · exact xs4 rfl id fun cx => run_indexSlM (e := 66) (m := kk) (sz := 4) rfl (by kernel_rfl) (by kernel_rfl) (cx.an 2) (cx.an 3) (by omega) (by omega) (At.of_ownN (cx.ri 5 rfl)) (by have h_ := flatLen (f := cellsH) (sz := 4) cellsH_len Rw; show 0 < (List.flatMap cellsH Rw).length; omega)
        · exact xs4 rfl id fun cx => run_fieldAd rfl (by kernel_rfl) (cx.an 4)
        · exact xs4 rfl id fun cx => run_loadElt (f := cellsH) (m := kk) (sz := 4) (off := 2) (n := 2) rfl (by kernel_rfl) (by kernel_rfl) (cx.an 5) rfl cellsH_len (At.of_ownN (cx.ri 5 rfl)) hrk (fun k hk => match k, hk with | 0, _ => rfl | 1, _ => rfl | k + 2, hk => absurd hk (by omega))
        · refine sv_any rfl rfl fun ρ β W X cx => ?_
          refine DoesU.call (run_callF (args := #[.iface 30 (.agg #[.slice PA 8 PC]), .agg #[vi ((n : Int)), vi ((s : Int))]]) rfl cx.sees rfl (by kernel_rfl) (map2 (cx.an 1) (cx.an 6))) ?_
          refine (get_eq hatk (hget_any _ _ (pvL (agH G)) (n : Int) (s : Int) _ (pgs_ok (hPg.at_ (CtxV.holdE cx (cx.init 3 _ rfl) rfl) hokP hlP) hlP8 hPs) (hN.ext cx.upd.to_ext))).mono ?_
          rintro e W1 ⟨A4, c4, rfl, ho_, hx⟩
          refine ⟨_, rfl, post_call [eO 82 3 (.slice A4 rs.length c4) rs.length (flatR rs)] rfl rfl hx (one_new (eO_new (n := rs.length) (xs := flatR rs) ho_)) (List.pairwise_singleton _ _) (fun σ β' X' hs hb hv hN => ?_)⟩
          have hv1 := (hv 237 rfl).1; have hv2 := (hv 237 rfl).2
          exact ⟨hv1.trans (by rw [hv2]; rfl), (by rw [hv2]; exact (List.cons.inj hN).1)⟩
        · exact sv rfl rfl rfl rfl rfl _ (fun _ _ _ h => h) (fun β β' h => by rw [h 237 (by decide)]) fun ρ β W X cx => run_move' rfl (dTn (cx.an 7)).1
        · exact sv rfl rfl rfl rfl rfl _ (fun _ _ _ h => h) (fun β β' h => by rw [h 237 (by decide)]) fun ρ β W X cx => run_extract' rfl (dTn (cx.an 8)) rfl
        · exact xs4 rfl id fun cx => run_extract' rfl (dTn (cx.an 8)) rfl
        · refine sv_any rfl rfl fun ρ β W X cx => ?_
          exact dv_alloc (cs := #[vi 0, vi 0, vi 0, vi 0, .bool false, .slice none 0 0]) rfl (by kernel_rfl) rfl rfl (fun σ β' X' hs hb hv hx => ⟨hv, hx⟩)
        · refine sv_any rfl rfl fun ρ β W X cx => ?_
          exact dv_store (n := 6) rfl (dTn (cx.an 11)).1 (dTn (cx.an 9)) (by kernel_rfl) (by kernel_rfl) (by kernel_rfl) cx (dTn (cx.an 11)).2 rfl (nle rfl) (by kernel_rfl) rfl rfl rfl (fun σ β' X' hs hb hx => by rw [hb 22, hb 237]; exact hx)
      intro σ β X W56 hD hst56 fr hfr
      obtain ⟨A237_56, hu_A237_56⟩ : ∃ z, sA (tg (tg (β 237) 0) 5) = z := ⟨_, rfl⟩
      obtain ⟨c237_56, hu_c237_56⟩ : ∃ z, sC (tg (tg (β 237) 0) 5) = z := ⟨_, rfl⟩
      obtain ⟨B22_56, hu_B22_56⟩ : ∃ z, pb (β 22) = z := ⟨_, rfl⟩
      simp only [exq 10 ((dTn (hD 7 lq)).2), exq 12 ((dTn (hD 12 lq))), hu_A237_56, hu_c237_56, hu_B22_56] at hst56
      simp only [ed 237 ((dTn (hD 7 lq)).1), ed 229 ((dTn (hD 8 lq))), ed 238 ((dTn (hD 9 lq))), ed 22 ((dTn (hD 11 lq)).1), hu_A237_56, hu_c237_56, hu_B22_56] at hfr
      clear hD hu_A237_56 hu_c237_56 hu_B22_56; subst hfr; clear σ β X
      refine then_normal (wp_seq (wp_seq ?_))
      have hsl_ := snap_len 3 (rAt 3 mB) K2
      rcases Bool.eq_false_or_eq_true (visF (rAt 3 mB) (liveL K2 (ringL 3 (rAt 3 mB))) [(who2.getD a 0)] (stateF 3 (rAt 3 mB) K2) x y) with hs58 | hs58
      · skip
        refine wp_region_Y [0, 1, 3, 7, 7, 23, 7, 71, 199, 455, 7, 1031, 4095, 8191, 16383, 32767, 65535, 65535, 196607, 458751, 983039, 65535, 2162687, 8388607, 16777215, 33554431] [[], [], [], [11], [], [0], [], [], [2], [], [], [], [12, 13, 0], [], [], [], [11], [], [], [2], [], [], [], [14, 0]] [[], [], [], [], [], [12], [], [], [], [13], [], [], [], [], [], [], [], [], [], [], [14]] [] [.k 240 (.bool true), .k 241 (.bool false), .k 242 (.bool false), .c 243 (.agg #[vi x, vi y, vi (-1), vi 0, .bool false, .slice A237_56 rs.length c237_56]), .k 244 (vp B40_3), .a 245, .k 246 (vi ((a : Int))), .c 247 (.pointer (some ⟨B8_7, a, none⟩)), .c 248 (vi (who2.getD a 0)), .a 249, .k 250 (vp B40_3), .c 251 (.iface 53 (vp B40_3)), .c 252 (.bool true), .k 253 (.bool false), .k 254 (.bool false), .k 255 (.bool false), .c 256 (.agg #[vi x, vi y, vi (-1), vi 0, .bool false, .slice A237_56 rs.length c237_56]), .k 257 (vi ((a : Int))), .c 258 (.pointer (some ⟨B8_7, a, none⟩)), .c 259 (vi (who2.getD a 0)), .a 260, .k 261 (vp B40_3), .c 262 (.iface 53 (vp B40_3)), .c 263 (vi (busyF [(who2.getD a 0)] (stateF 3 (rAt 3 mB) K2) y)), .k 264 (.bool ((busyF [(who2.getD a 0)] (stateF 3 (rAt 3 mB) K2) y) != 0)), .k 265 (.bool ((busyF [(who2.getD a 0)] (stateF 3 (rAt 3 mB) K2) y) != 0))] (fun ix σ β X => match ix with | 0 => True | 1 => True | 2 => True | 3 => True | 4 => True | 5 => σ 245 = .agg #[vi ((rAt 3 mB)), .slice (sA (tg (β 245) 1)) ((liveL K2 (ringL 3 (rAt 3 mB))).length) (sC (tg (β 245) 1))] ∧ X 12 = eO 3 1 (.slice (sA (tg (β 245) 1)) ((liveL K2 (ringL 3 (rAt 3 mB))).length) (sC (tg (β 245) 1))) ((liveL K2 (ringL 3 (rAt 3 mB))).length) ((liveL K2 (ringL 3 (rAt 3 mB))).map (Value.int .i64)) | 6 => True | 7 => True | 8 => True | 9 => σ 249 = .slice (sA (β 249)) 1 1 ∧ X 13 = eO 3 1 (.slice (sA (β 249)) 1 1) 1 ([vi (who2.getD a 0)]) | 10 => True | 11 => True | 12 => True | 13 => True | 14 => True | 15 => True | 16 => True | 17 => True | 18 => True | 19 => True | 20 => σ 260 = .slice (sA (β 260)) 1 1 ∧ X 14 = eO 3 1 (.slice (sA (β 260)) 1 1) 1 ([vi (who2.getD a 0)]) | _ => True) [0, 1, 2, 3, 4, 5, 6, 7, 8, 9, 10, 11, 12, 13, 14] [3, 5, 7, 8, 9, 11, 12, 16, 18, 19, 20, 22, 23] [(240, 0, 26, 266)] hst56 ?_ ?_ ?_
        · exact fun ix _ _ _ _ _ _ hs hb hx h => match ix, h with
          | 5, h => by dsimp only at h ⊢; rw [← hs 245 rfl, ← hb 245 rfl, ← hx 12 rfl]; exact h
          | 9, h => by dsimp only at h ⊢; rw [← hs 249 rfl, ← hb 249 rfl, ← hx 13 rfl]; exact h
          | 20, h => by dsimp only at h ⊢; rw [← hs 260 rfl, ← hb 260 rfl, ← hx 14 rfl]; exact h
          | 0, _ | 1, _ | 2, _ | 3, _ | 4, _ | 6, _ | 7, _ | 8, _ | 10, _ | 11, _ | 12, _ | 13, _ | 14, _ | 15, _ | 16, _ | 17, _ | 18, _ | 19, _ | _ + 21, _ => trivial
        · refine ⟨?_, ?_, ?_, ?_, ?_, ?_, ?_, ?_, ?_, ?_, ?_, ?_, ?_, trivial⟩
          · exact xs5 rfl id (fun cx => (cx.an 2)) fun cx => run_loadB (n := 6) rfl (by kernel_rfl) (by kernel_rfl) (cx.ou 22) (cx.bi 11 rfl) (nle rfl) rfl
          · refine sv_any_on rfl rfl rfl (fun _ _ _ _ cx => (cx.an 2)) fun ρ β W X cx => ?_
            refine DoesU.call (run_callF (args := #[vp B40_3]) rfl cx.sees rfl (by kernel_rfl) (map1 (cx.an 4))) ?_
            refine (csnap_any _ 3 (rAt 3 mB) K2 _ (cx.bi 0 rfl) on3 (rAt_on 3 mB) hA2.kl).mono ?_
            rintro e W1 ⟨A4, c4, rfl, ho, hx⟩
            refine ⟨_, rfl, post_call [eO 3 1 (.slice A4 ((liveL K2 (ringL 3 (rAt 3 mB))).length) c4) ((liveL K2 (ringL 3 (rAt 3 mB))).length) ((liveL K2 (ringL 3 (rAt 3 mB))).map (Value.int .i64))] rfl rfl hx (one_new (eO_new ho)) (List.pairwise_singleton _ _) (fun σ β' X' hs hb hv hN => ?_)⟩
            have hv1 := (hv 245 rfl).1; have hv2 := (hv 245 rfl).2
            exact ⟨hv1.trans (by rw [hv2]; rfl), (by rw [hv2]; exact (List.cons.inj hN).1)⟩
          · exact xs5 rfl id (fun cx => (cx.an 2)) fun cx => run_indexArrB (n := 4) (sz := 1) (m := a) (q := a) rfl (by kernel_rfl) (cx.ou 8) (cx.an 6) (by omega) (by omega) (by omega)
          · exact xs5 rfl id (fun cx => (cx.an 2)) fun cx => run_load1 rfl (by kernel_rfl) (cx.an 7) (((cx.bi 2 rfl).cell a).trans ((List.getElem?_toArray ..).trans (getD_int (by omega))))
          · refine sv_any_on rfl rfl rfl (fun _ _ _ _ cx => (cx.an 2)) fun ρ β W X cx => ?_
            have fF248 : ρ (.tmp 248) = vi (who2.getD a 0) := (cx.an 8)
            exact dv_lit (e := 3) (xs := [vi (who2.getD a 0)]) rfl (by simp [go_sem, fF248]) rfl (by decide) rfl rfl (fun σ β' X' hs hb hv hx => ⟨hv, hx⟩)
          · exact sv0_on rfl rfl rfl rfl rfl rfl (fun _ _ _ h => h) (fun _ _ _ _ cx => (cx.an 2)) fun ρ β W X cx => by
              have fF250 : ρ (.tmp 250) = vp B40_3 := (cx.an 10)
              simp [go_sem, fF250]
          · exact sv_call_on rfl rfl rfl rfl rfl rfl (fun _ _ _ h => h.trans (congrArg Value.bool hs58)) (fun _ _ _ _ cx => (cx.an 2)) fun ρ β W X cx => ⟨_, _, run_callF (args := #[.agg #[vi x, vi y, vi (-1), vi 0, .bool false, .slice A237_56 rs.length c237_56], .agg #[vi ((rAt 3 mB)), .slice (sA (tg (β 245) 1)) ((liveL K2 (ringL 3 (rAt 3 mB))).length) (sC (tg (β 245) 1))], .slice (sA (β 249)) 1 1, .iface 53 (vp B40_3)]) rfl cx.sees rfl (by kernel_rfl) (map4 (cx.an 3) (dTn (cx.an 5)).1 (dTn (cx.an 9)).1 (cx.an 11)), visible_any _ _ _ _ _ _ _ _ _ _ _ (liveL K2 (ringL 3 (rAt 3 mB))) _ _ [(who2.getD a 0)] _ _ _ _ (At.of_own (cx.row (dTn (cx.an 5)).2 rfl)) (by first | omega | decide | (simp; done) | (simp; omega)) (At.of_own (cx.row (dTn (cx.an 9)).2 rfl)) (by first | omega | decide | (simp; done) | (simp; omega)) (clock_ok _ 3 (rAt 3 mB) K2 _ (cx.bi 0 rfl) on3 (rAt_on 3 mB) hA2.kl)⟩
          · exact xs5 rfl id (fun cx => (cx.an 15)) fun cx => run_loadB (n := 6) rfl (by kernel_rfl) (by kernel_rfl) (cx.ou 22) (cx.bi 11 rfl) (nle rfl) rfl
          · exact xs5 rfl id (fun cx => (cx.an 15)) fun cx => run_indexArrB (n := 4) (sz := 1) (m := a) (q := a) rfl (by kernel_rfl) (cx.ou 8) (cx.an 17) (by omega) (by omega) (by omega)
          · exact xs5 rfl id (fun cx => (cx.an 15)) fun cx => run_load1 rfl (by kernel_rfl) (cx.an 18) (((cx.bi 2 rfl).cell a).trans ((List.getElem?_toArray ..).trans (getD_int (by omega))))
          · refine sv_any_on rfl rfl rfl (fun _ _ _ _ cx => (cx.an 15)) fun ρ β W X cx => ?_
            have fF259 : ρ (.tmp 259) = vi (who2.getD a 0) := (cx.an 19)
            exact dv_lit (e := 3) (xs := [vi (who2.getD a 0)]) rfl (by simp [go_sem, fF259]) rfl (by decide) rfl rfl (fun σ β' X' hs hb hv hx => ⟨hv, hx⟩)
          · exact sv0_on rfl rfl rfl rfl rfl rfl (fun _ _ _ h => h) (fun _ _ _ _ cx => (cx.an 15)) fun ρ β W X cx => by
              have fF261 : ρ (.tmp 261) = vp B40_3 := (cx.an 21)
              simp [go_sem, fF261]
          · exact sv_call_on rfl rfl rfl rfl rfl rfl (fun _ _ _ h => h) (fun _ _ _ _ cx => (cx.an 15)) fun ρ β W X cx => ⟨_, _, run_callF (args := #[.agg #[vi x, vi y, vi (-1), vi 0, .bool false, .slice A237_56 rs.length c237_56], .slice (sA (β 260)) 1 1, .iface 53 (vp B40_3)]) rfl cx.sees rfl (by kernel_rfl) (map3 (cx.an 16) (dTn (cx.an 20)).1 (cx.an 22)), busy_any _ _ _ _ _ _ _ _ _ _ [(who2.getD a 0)] _ _ _ _ (At.of_own (cx.row (dTn (cx.an 20)).2 rfl)) (by first | omega | decide | (simp; done) | (simp; omega)) (clock_ok _ 3 (rAt 3 mB) K2 _ (cx.bi 0 rfl) on3 (rAt_on 3 mB) hA2.kl)⟩
        intro σ β X W59 hD hst59 fr hfr
        obtain ⟨A245_59, hu_A245_59⟩ : ∃ z, sA (tg (β 245) 1) = z := ⟨_, rfl⟩
        obtain ⟨c245_59, hu_c245_59⟩ : ∃ z, sC (tg (β 245) 1) = z := ⟨_, rfl⟩
        obtain ⟨A249_59, hu_A249_59⟩ : ∃ z, sA (β 249) = z := ⟨_, rfl⟩
        obtain ⟨A260_59, hu_A260_59⟩ : ∃ z, sA (β 260) = z := ⟨_, rfl⟩
        simp only [exq 12 ((dTn (hD 5 lq)).2), exq 13 ((dTn (hD 9 lq)).2), exq 14 ((dTn (hD 20 lq)).2), hu_A245_59, hu_c245_59, hu_A249_59, hu_A260_59] at hst59
        simp only [ed 245 ((dTn (hD 5 lq)).1), ed 249 ((dTn (hD 9 lq)).1), ed 260 ((dTn (hD 20 lq)).1), hu_A245_59, hu_c245_59, hu_A249_59, hu_A260_59] at hfr
        clear hD hu_A245_59 hu_c245_59 hu_A249_59 hu_A260_59; subst hfr; clear σ β X
        refine then_normal ?_
        rcases Bool.eq_false_or_eq_true ((busyF [(who2.getD a 0)] (stateF 3 (rAt 3 mB) K2) y) != 0) with hs60 | hs60
        · skip
          have hs60p : (busyF [(who2.getD a 0)] (stateF 3 (rAt 3 mB) K2) y) ≠ 0 := by simpa using hs60
          refine wp_cond_true (show Act.eval _ _ = .bool true from (congrArg Value.bool hs60)) (wp_exit (then_exit (blk_ne (by decide) (blk_eq (then_normal (wp_region_P [0, 1, 3] [.k 55 (vi ((ii : Int))), tI 56 ((ii : Int) + 1) (by omega), .k 11 (vi ((ii : Int) + 1))] [(11, 2, 1, 12), (43, 0, 2, 45)] hst59 fun W61 hst61 => ?_))))))
          refine then_normal ?_
          refine ⟨60 - ((ii + 1)), by omega, ?_⟩
          have hp62 := hst61.pick [0, 1, 2, 3, 4, 5, 6, 7, 8, 9] (by decide) rfl
          exact ⟨(ii + 1), mB, K2, who2, R, Ps, PA, PC, G, P, NA, NC, Rw, rn, RA, RC, ss, sn, SA, SC, ww, wn, WA, WC, by omega, by omega, hm2, hA2, hPg, hPs, hPL, ⟨hrn.1, by omega⟩, ⟨hsn.1, by omega⟩, ⟨hwn.1, by omega⟩, hsl, rfl, (by kernel_rfl), hp62⟩
        have hs60p : (busyF [(who2.getD a 0)] (stateF 3 (rAt 3 mB) K2) y) = 0 := by simpa using hs60
        refine wp_cond_false (show Act.eval _ _ = .bool false from (congrArg Value.bool hs60)) (wp_skip (then_normal (wp_seq ?_)))
        have hfr_ := ai_free hA2 (by omega) ha4 hw0 (List.mem_of_getElem? hrk) hs58 hs60
        obtain ⟨hRD, hdo, hG2, hde⟩ := ag_del (lsn := (ii : Int) + 1) (x := (who2.getD a 0)) hA2.ag hnG hs1 hag ⟨hx3, hx128⟩ (by omega)
        dsimp only at hRD hdo hG2 hde
        obtain ⟨G2, hG2e⟩ : ∃ z, G.set n ((ii : Int) + 1, (G.getD n ag0).2.set (s - 1) (x, (who2.getD a 0), -1, 0, false, rs)) = z := ⟨_, rfl⟩
        rw [hG2e] at hdo hG2
        obtain ⟨es, hes⟩ : ∃ z : List EdI, [((n : Int), (s : Int), agV (x, (who2.getD a 0), -1, 0, false, rs))] = z := ⟨_, rfl⟩
        obtain ⟨L1, hL1⟩ : ∃ z, es.map edD = z := ⟨_, rfl⟩
        rw [hes] at hdo
        have hed : ∀ e ∈ es, Desc e.2.2.1 e.2.2.2 := fun e he => by rw [← hes, List.mem_singleton] at he; subst he; exact hde
        have hL1e : [((n : Int), (s : Int), txD (x, (who2.getD a 0), -1, 0, false, rs))] = L1 := by rw [← hL1, ← hes]; rfl
        rw [hL1e] at hRD
        have hLl : L1.length ≤ 100000 := by rw [← hL1e]; show (1 : Nat) ≤ 100000; decide
        refine wp_region_Y [0, 1, 0, 0, 12, 28, 60, 0, 128, 384, 1023, 2047, 4095, 4095, 8191, 32767] [[1], [], [], [], [5], [], [5], [], [], [2], [3]] [[], [], [], [], [], [], [], [], [], [], [15]] [] [.c 267 (.agg #[.slice PA 8 PC]), .c 268 (.iface 30 (.agg #[.slice PA 8 PC])), .k 269 (.slice RA rn RC), .k 270 (vi ((kk : Int))), .c 271 (.pointer (some ((ad RA).add (kk * 4)))), .c 272 (.pointer (some ((ad RA).add (kk * 4 + 2)))), .c 273 (.agg #[vi ((n : Int)), vi ((s : Int))]), .k 274 (vi ((a : Int))), .c 275 (.pointer (some ⟨B8_7, a, none⟩)), .c 276 (vi (who2.getD a 0)), .a 277, .a 266, .a 278, .c 279 (vi 0), .a 24, .k 25 (vi 0)] (fun ix σ β X => match ix with | 0 => True | 1 => True | 2 => True | 3 => True | 4 => True | 5 => True | 6 => True | 7 => True | 8 => True | 9 => True | 10 => σ 277 = .tuple #[.slice (sA (tg (β 277) 0)) L1.length (sC (tg (β 277) 0)), vi 0] ∧ X 15 = eO 99 3 (.slice (sA (tg (β 277) 0)) L1.length (sC (tg (β 277) 0))) L1.length (L1.flatMap cellsE) | 11 => σ 266 = .tuple #[.slice (sA (tg (β 277) 0)) L1.length (sC (tg (β 277) 0)), vi 0] | 12 => σ 278 = .slice (sA (tg (β 277) 0)) L1.length (sC (tg (β 277) 0)) | 13 => True | 14 => σ 24 = .slice (sA (tg (β 277) 0)) L1.length (sC (tg (β 277) 0)) | _ => True) [0, 1, 2, 3, 4, 5, 6, 7, 8, 9, 10, 11, 12, 13, 14, 15] [0, 1, 4, 5, 6, 8, 9, 10, 11, 12, 13, 14] [(24, 14, 2, 26), (240, 11, 1, 241), (0, 0, 11, 11), (0, 12, 2, 2)] hst59 ?_ ?_ ?_
        · exact fun ix _ _ _ _ _ _ hs hb hx h => match ix, h with
          | 10, h => by dsimp only at h ⊢; rw [← hs 277 rfl, ← hb 277 rfl, ← hx 15 rfl]; exact h
          | 11, h => by dsimp only at h ⊢; rw [← hs 266 rfl, ← hb 277 rfl]; exact h
          | 12, h => by dsimp only at h ⊢; rw [← hs 278 rfl, ← hb 277 rfl]; exact h
          | 14, h => by dsimp only at h ⊢; rw [← hs 24 rfl, ← hb 277 rfl]; exact h
          | 0, _ | 1, _ | 2, _ | 3, _ | 4, _ | 5, _ | 6, _ | 7, _ | 8, _ | 9, _ | 13, _ | _ + 15, _ => trivial
        · refine ⟨?_, ?_, ?_, ?_, ?_, ?_, ?_, ?_, ?_, ?_, ?_, ?_, trivial⟩
          · exact xs4 rfl id fun cx => run_loadB (n := 1) rfl (by kernel_rfl) (by kernel_rfl) (cx.ou 5) (cx.bi 1 rfl) (nle rfl) rfl
          · exact sv0 rfl rfl rfl rfl rfl (fun _ _ _ h => h) fun ρ β W X cx => by
              have fF267 : ρ (.tmp 267) = .agg #[.slice PA 8 PC] := (cx.an 0)
              simp [go_sem, fF267]
          · exact xs4 rfl id fun cx => run_indexSlM (e := 66) (m := kk) (sz := 4) rfl (by kernel_rfl) (by kernel_rfl) (cx.an 2) (cx.an 3) (by omega) (by omega) (At.of_ownN (cx.ri 5 rfl)) (by have h_ := flatLen (f := cellsH) (sz := 4) cellsH_len Rw; show 0 < (List.flatMap cellsH Rw).length; omega)
          · exact xs4 rfl id fun cx => run_fieldAd rfl (by kernel_rfl) (cx.an 4)
          · exact xs4 rfl id fun cx => run_loadElt (f := cellsH) (m := kk) (sz := 4) (off := 2) (n := 2) rfl (by kernel_rfl) (by kernel_rfl) (cx.an 5) rfl cellsH_len (At.of_ownN (cx.ri 5 rfl)) hrk (fun k hk => match k, hk with | 0, _ => rfl | 1, _ => rfl | k + 2, hk => absurd hk (by omega))
          · exact xs4 rfl id fun cx => run_indexArrB (n := 4) (sz := 1) (m := a) (q := a) rfl (by kernel_rfl) (cx.ou 8) (cx.an 7) (by omega) (by omega) (by omega)
          · exact xs4 rfl id fun cx => run_load1 rfl (by kernel_rfl) (cx.an 8) (((cx.bi 2 rfl).cell a).trans ((List.getElem?_toArray ..).trans (getD_int (by omega))))
          · refine sv_any rfl rfl fun ρ β W X cx => ?_
            refine DoesU.call (run_callF (args := #[.iface 30 (.agg #[.slice PA 8 PC]), .agg #[vi ((n : Int)), vi ((s : Int))], vi (who2.getD a 0)]) rfl cx.sees rfl (by kernel_rfl) (map3 (cx.an 1) (cx.an 6) (cx.an 9))) ?_
            refine (del_eq hRD (hdelete_any _ _ (pvL (agH G)) (n : Int) (s : Int) (who2.getD a 0) _ (pgs_ok (hPg.at_ (CtxV.holdE cx (cx.init 3 _ rfl) rfl) hokP hlP) hlP8 hPs) (hN.ext cx.upd.to_ext))).mono ?_
            rintro e W1 ⟨A4, c4, rfl, ho_, hx⟩
            refine ⟨_, rfl, post_call [eO 99 3 (.slice A4 L1.length c4) L1.length (L1.flatMap cellsE)] rfl rfl hx (one_new (eO_new (n := L1.length) (xs := L1.flatMap cellsE) ho_)) (List.pairwise_singleton _ _) (fun σ β' X' hs hb hv hN => ?_)⟩
            have hv1 := (hv 277 rfl).1; have hv2 := (hv 277 rfl).2
            exact ⟨hv1.trans (by rw [hv2]; rfl), (by rw [hv2]; exact (List.cons.inj hN).1)⟩
          · exact sv rfl rfl rfl rfl rfl _ (fun _ _ _ h => h) (fun β β' h => by rw [h 277 (by decide)]) fun ρ β W X cx => run_move' rfl (dTn (cx.an 10)).1
          · exact sv rfl rfl rfl rfl rfl _ (fun _ _ _ h => h) (fun β β' h => by rw [h 277 (by decide)]) fun ρ β W X cx => run_extract' rfl (dTn (cx.an 11)) rfl
          · exact xs4 rfl id fun cx => run_extract' rfl (dTn (cx.an 11)) rfl
          · exact sv rfl rfl rfl rfl rfl _ (fun _ _ _ h => h) (fun β β' h => by rw [h 277 (by decide)]) fun ρ β W X cx => run_assign' rfl (dTn (cx.an 12))
        intro σ β X W63 hD hst63 fr hfr
        obtain ⟨A277_63, hu_A277_63⟩ : ∃ z, sA (tg (β 277) 0) = z := ⟨_, rfl⟩
        obtain ⟨c277_63, hu_c277_63⟩ : ∃ z, sC (tg (β 277) 0) = z := ⟨_, rfl⟩
        simp only [exq 15 ((dTn (hD 10 lq)).2), hu_A277_63, hu_c277_63] at hst63
        simp only [ed 277 ((dTn (hD 10 lq)).1), ed 266 ((dTn (hD 11 lq))), ed 278 ((dTn (hD 12 lq))), ed 24 ((dTn (hD 14 lq))), hu_A277_63, hu_c277_63] at hfr
        clear hD hu_A277_63 hu_c277_63; subst hfr; clear σ β X
        refine then_normal (wp_seq (wp_region_Y [0, 0, 0, 4, 15, 31, 63, 63, 0, 383, 1023] [[1], [], [], [], [15, 3], [], [], [], [], [17]] [[], [], [], [], [16], [], [], [], [17], [18]] [[], [], [], [], [], [], [], [], [], [17]] [.c 281 (.agg #[.slice PA 8 PC]), .k 282 (.slice A277_63 L1.length c277_63), .k 283 (vi ((ii : Int))), tI 284 ((ii : Int) + 1) (by omega), .a 285, .a 280, .a 286, .c 287 (.bool true), .a 26, .n, .k 27 (.bool true)] (fun ix σ β X => match ix with | 0 => True | 1 => True | 2 => True | 3 => True | 4 => σ 285 = .tuple #[.agg #[.slice (sA (tg (tg (β 285) 0) 0)) 8 (sC (tg (tg (β 285) 0) 0))], .bool true] ∧ X 16 = eDo Ps (agH G2) 8 (sA (tg (tg (β 285) 0) 0)) ((X 16).fp) | 5 => σ 280 = .tuple #[.agg #[.slice (sA (tg (tg (β 285) 0) 0)) 8 (sC (tg (tg (β 285) 0) 0))], .bool true] | 6 => σ 286 = .agg #[.slice (sA (tg (tg (β 285) 0) 0)) 8 (sC (tg (tg (β 285) 0) 0))] | 7 => True | 8 => σ 26 = vp (pb (β 26)) ∧ X 17 = eB (pb (β 26)) 30 #[.slice none 0 0] | 9 => X 18 = eB (pb (β 26)) 30 #[.slice (sA (tg (tg (β 285) 0) 0)) 8 (sC (tg (tg (β 285) 0) 0))] | _ => True) [0, 1, 2, 3, 4, 5, 6, 7, 8, 9, 10, 11, 12, 13, 14, 15, 16, 18] [0, 4, 5, 6, 7, 8, 9] [(26, 8, 3, 28), (252, 5, 1, 253), (0, 0, 5, 5), (0, 6, 2, 2)] hst63 ?_ ?_ ?_))
        · exact fun ix _ _ _ _ _ _ hs hb hx h => match ix, h with
          | 4, h => by dsimp only at h ⊢; rw [← hs 285 rfl, ← hb 285 rfl, ← hx 16 rfl]; exact h
          | 5, h => by dsimp only at h ⊢; rw [← hs 280 rfl, ← hb 285 rfl]; exact h
          | 6, h => by dsimp only at h ⊢; rw [← hs 286 rfl, ← hb 285 rfl]; exact h
          | 8, h => by dsimp only at h ⊢; rw [← hs 26 rfl, ← hb 26 rfl, ← hx 17 rfl]; exact h
          | 9, h => by dsimp only at h ⊢; rw [← hb 26 rfl, ← hb 285 rfl, ← hx 18 rfl]; exact h
          | 0, _ | 1, _ | 2, _ | 3, _ | 7, _ | _ + 10, _ => trivial
        · refine ⟨?_, ?_, ?_, ?_, ?_, ?_, ?_, trivial⟩
          · exact xs4 rfl id fun cx => run_loadB (n := 1) rfl (by kernel_rfl) (by kernel_rfl) (cx.ou 5) (cx.bi 1 rfl) (nle rfl) rfl
          · refine sv_any rfl rfl fun ρ β W X cx => ?_
            refine DoesU.call (run_callF (args := #[.agg #[.slice PA 8 PC], .slice A277_63 L1.length c277_63, vi ((ii : Int) + 1)]) rfl cx.sees rfl (by kernel_rfl) (map3 (cx.an 0) (cx.an 1) (cx.an 3))) ?_
            refine (rdo9_n (es := es) hlP8 (by have := congrArg List.length hL1; rw [List.length_map] at this; exact this) (by decide) (hPg.at_ (CtxV.holdE cx (cx.init 3 _ rfl) rfl) hokP hlP) (by rw [← edD_cells, hL1]; exact (At.of_ownN (cx.ri 15 rfl))) (by omega) hed (by omega) hokP (by rw [hPs]; exact hdo)).mono ?_
            rintro e W1 ⟨A4, c4, fp4, rfl, hc⟩
            refine ⟨_, rfl, post_st [eDo Ps (agH G2) 8 A4 fp4] rfl rfl hc (fun σ β' X' hs hb hv hN => ?_)⟩
            have hv1 := (hv 285 rfl).1; have hv2 := (hv 285 rfl).2
            exact ⟨hv1.trans (by rw [hv2]; rfl), (by rw [hv2]; exact eDo_self ((List.cons.inj hN).1))⟩
          · exact sv rfl rfl rfl rfl rfl _ (fun _ _ _ h => h) (fun β β' h => by rw [h 285 (by decide)]) fun ρ β W X cx => run_move' rfl (dTn (cx.an 4)).1
          · exact sv rfl rfl rfl rfl rfl _ (fun _ _ _ h => h) (fun β β' h => by rw [h 285 (by decide)]) fun ρ β W X cx => run_extract' rfl (dTn (cx.an 5)) rfl
          · exact xs4 rfl id fun cx => run_extract' rfl (dTn (cx.an 5)) rfl
          · refine sv_any rfl rfl fun ρ β W X cx => ?_
            exact dv_alloc (cs := #[.slice none 0 0]) rfl (by kernel_rfl) rfl rfl (fun σ β' X' hs hb hv hx => ⟨hv, hx⟩)
          · refine sv_any rfl rfl fun ρ β W X cx => ?_
            exact dv_store (n := 1) rfl (dTn (cx.an 8)).1 (dTn (cx.an 6)) (by kernel_rfl) (by kernel_rfl) (by kernel_rfl) cx (dTn (cx.an 8)).2 rfl (nle rfl) (by kernel_rfl) rfl rfl rfl (fun σ β' X' hs hb hx => by rw [hb 26, hb 285]; exact hx)
        intro σ β X W64 hD hst64 fr hfr
        obtain ⟨A285_64, hu_A285_64⟩ : ∃ z, sA (tg (tg (β 285) 0) 0) = z := ⟨_, rfl⟩
        obtain ⟨c285_64, hu_c285_64⟩ : ∃ z, sC (tg (tg (β 285) 0) 0) = z := ⟨_, rfl⟩
        obtain ⟨B26_64, hu_B26_64⟩ : ∃ z, pb (β 26) = z := ⟨_, rfl⟩
        have xX16 : X 16 = _ := (dTn (hD 4 lq)).2
        obtain ⟨r16_64, hu_r16_64⟩ : ∃ z, (X 16).fp = z := ⟨_, rfl⟩
        rw [hu_r16_64] at xX16
        clear hu_r16_64
        simp only [xX16, exq 18 ((dTn (hD 9 lq))), hu_A285_64, hu_c285_64, hu_B26_64] at hst64
        simp only [ed 285 ((dTn (hD 4 lq)).1), ed 280 ((dTn (hD 5 lq))), ed 286 ((dTn (hD 6 lq))), ed 26 ((dTn (hD 8 lq)).1), hu_A285_64, hu_c285_64, hu_B26_64] at hfr
        clear hD xX16 hu_A285_64 hu_c285_64 hu_B26_64; subst hfr; clear σ β X
        refine then_normal (wp_seq (wp_seq (wp_region_P [0, 1, 3, 7, 15, 31] [.k 288 (vi 0), .k 289 (.bool false), .k 290 (.bool false), .k 291 (.bool true), .k 292 (.bool false), .k 293 (.bool false)] [(288, 0, 6, 294)] hst64 fun W65 hst65 => ?_)))
        refine then_normal (wp_cond_false (show Act.eval _ _ = .bool false from rfl) (wp_skip (then_normal (wp_seq ?_))))
        obtain ⟨R2, Ps2, hPs2, hPg2, hmN_⟩ := St.domerge (L := [eB B40_3 114 (clockL 3 (rAt 3 mB) K2).toArray, eB B5_4 30 #[.slice PA 8 PC], eB B8_7 57 (who2.map (Value.int .i64)).toArray, eO 3 1 (.slice NA P NC) P ((rangeI P).map (Value.int .i64)), eO 66 4 (.slice RA rn RC) rn (Rw.flatMap cellsH), eO 69 2 (.slice SA sn SC) sn (ss.flatMap cellsS), eSS ss, eO 73 1 (.slice WA wn WC) wn (ww.map cellW), eWW ww, eO 82 3 (.slice A237_56 rs.length c237_56) rs.length (flatR rs), eB B22_56 41 #[vi x, vi y, vi (-1), vi 0, .bool false, .slice A237_56 rs.length c237_56], eO 3 1 (.slice A245_59 ((liveL K2 (ringL 3 (rAt 3 mB))).length) c245_59) ((liveL K2 (ringL 3 (rAt 3 mB))).length) ((liveL K2 (ringL 3 (rAt 3 mB))).map (Value.int .i64)), eO 3 1 (.slice A249_59 1 1) 1 ([vi (who2.getD a 0)]), eO 3 1 (.slice A260_59 1 1) 1 ([vi (who2.getD a 0)]), eO 99 3 (.slice A277_63 L1.length c277_63) L1.length (L1.flatMap cellsE), eB B26_64 30 #[.slice A285_64 8 c285_64]]) (hst65.pick [0, 1, 2, 4, 5, 6, 7, 8, 9, 10, 11, 12, 13, 14, 15, 17, 3, 16] (by decide) rfl) hPg
        simp only [List.cons_append, List.nil_append] at hmN_
        refine wp_region_Y [0, 1] [[15], [1]] [[], [17]] [[], [1]] [.c 294 (.agg #[.slice A285_64 8 c285_64]), .n] (fun ix σ β X => match ix with | 0 => True | 1 => X 17 = eB B5_4 30 #[.slice A285_64 8 c285_64] | _ => True) [0, 2, 3, 4, 5, 6, 7, 8, 9, 10, 11, 12, 13, 14, 15, 16, 17] [0, 1] [(294, 0, 1, 295)] hmN_ ?_ ?_ ?_
        · exact fun ix _ _ _ _ _ _ hs hb hx h => match ix, h with
          | 1, h => by dsimp only at h ⊢; rw [← hx 17 rfl]; exact h
          | 0, _ | _ + 2, _ => trivial
        · refine ⟨?_, ?_, trivial⟩
          · exact xs4 rfl id fun cx => run_loadB (n := 1) rfl (by kernel_rfl) (by kernel_rfl) (cx.ou 26) (cx.bi 15 rfl) (nle rfl) rfl
          · refine sv_any rfl rfl fun ρ β W X cx => ?_
            exact dv_store (n := 1) rfl (cx.ou 5) (cx.an 0) (by kernel_rfl) (by kernel_rfl) (by kernel_rfl) cx (cx.init 1 _ rfl) rfl (nle rfl) (by kernel_rfl) rfl rfl rfl (fun σ β' X' hs hb hx => hx)
        intro σ β X W66 hD hst66 fr hfr
        simp only [exq 17 ((dTn (hD 1 lq)))] at hst66
        clear hD; subst hfr; clear σ β X
        refine then_normal (wp_region_Y [0, 0, 0, 4, 12, 31, 63, 127] [[], [], [], [], [1], [3], [], [3]] [[], [], [], [], [], [], [], [17]] [[], [], [], [], [], [], [], [3]] [.k 295 (.slice RA rn RC), .k 296 (vi ((kk : Int))), .k 297 (vi ((a : Int))), .c 298 (.pointer (some ⟨B8_7, a, none⟩)), .c 299 (vi (who2.getD a 0)), .c 300 (.pointer (some ((ad RA).add (kk * 4)))), .c 301 (.pointer (some ((ad RA).add (kk * 4 + 1)))), .n] (fun ix σ β X => match ix with | 0 => True | 1 => True | 2 => True | 3 => True | 4 => True | 5 => True | 6 => True | 7 => X 17 = eO 66 4 (.slice RA rn RC) rn ((Rw.set kk (x, (who2.getD a 0), (n : Int), (s : Int))).flatMap cellsH) | _ => True) [0, 1, 2, 4, 5, 6, 7, 8, 9, 10, 11, 12, 13, 14, 15, 16, 17] [3, 4, 5, 6, 7] [(295, 0, 7, 302)] hst66 ?_ ?_ ?_)
        · exact fun ix _ _ _ _ _ _ hs hb hx h => match ix, h with
          | 7, h => by dsimp only at h ⊢; rw [← hx 17 rfl]; exact h
          | 0, _ | 1, _ | 2, _ | 3, _ | 4, _ | 5, _ | 6, _ | _ + 8, _ => trivial
        · refine ⟨?_, ?_, ?_, ?_, ?_, trivial⟩
          · exact xs4 rfl id fun cx => run_indexArrB (n := 4) (sz := 1) (m := a) (q := a) rfl (by kernel_rfl) (cx.ou 8) (cx.an 2) (by omega) (by omega) (by omega)
          · exact xs4 rfl id fun cx => run_load1 rfl (by kernel_rfl) (cx.an 3) (((cx.bi 1 rfl).cell a).trans ((List.getElem?_toArray ..).trans (getD_int (by omega))))
          · exact xs4 rfl id fun cx => run_indexSlM (e := 66) (m := kk) (sz := 4) rfl (by kernel_rfl) (by kernel_rfl) (cx.an 0) (cx.an 1) (by omega) (by omega) (At.of_ownN (cx.ri 3 rfl)) (by have h_ := flatLen (f := cellsH) (sz := 4) cellsH_len Rw; show 0 < (List.flatMap cellsH Rw).length; omega)
          · exact xs4 rfl id fun cx => run_fieldAd rfl (by kernel_rfl) (cx.an 5)
          · refine sv_any rfl rfl fun ρ β W X cx => ?_
            exact dv_storeRowN (m := kk * 4 + 1) (n := rn) (sz := 4) rfl (cx.an 6) (cx.an 4) (by kernel_rfl) rfl rfl cx (cx.init 3 _ rfl) rfl (by omega) rfl (hld_set hrk) rfl rfl (fun σ β' X' hs hb hx => hx)
        intro σ β X W67 hD hst67 fr hfr
        simp only [exq 17 ((dTn (hD 7 lq)))] at hst67
        clear hD; subst hfr; clear σ β X
        refine blk_normal (blk_normal (then_normal (wp_region_P [0, 1, 3] [.k 55 (vi ((ii : Int))), tI 56 ((ii : Int) + 1) (by omega), .k 11 (vi ((ii : Int) + 1))] [(11, 2, 1, 12), (43, 0, 2, 45)] hst67 fun W68 hst68 => ?_)))
        refine then_normal ?_
        have hA3 := ai_del (lsn := (ii : Int) + 1) hA2 (by omega) ha4 hw0 hrk hfr_ hnG hs1 hag (by rw [hG2e]; exact hG2)
        rw [hG2e] at hA3
        refine ⟨60 - ((ii + 1)), by omega, ?_⟩
        have hp69 := hst68.pick [0, 15, 1, 14, 2, 16, 3, 4, 5, 6] (by decide) rfl
        exact ⟨(ii + 1), mB, K2, who2, R2, Ps2, A285_64, c285_64, G2, P, NA, NC, (Rw.set kk (x, (who2.getD a 0), (n : Int), (s : Int))), rn, RA, RC, ss, sn, SA, SC, ww, wn, WA, WC, by omega, by omega, hm2, hA3, hPg2, hPs2, by rw [← hG2e, List.length_set]; exact hPL, ⟨by rw [List.length_set]; exact hrn.1, by omega⟩, ⟨hsn.1, by omega⟩, ⟨hwn.1, by omega⟩, hsl, rfl, (by kernel_rfl), hp69⟩
      refine wp_region_Y [0, 1, 3, 7, 7, 23, 7, 71, 199, 455, 7, 1031, 4095, 8191, 16383, 32767, 65535, 65535, 196607, 458751, 983039, 65535, 2162687, 8388607, 16777215, 33554431] [[], [], [], [11], [], [0], [], [], [2], [], [], [], [12, 13, 0]] [[], [], [], [], [], [12], [], [], [], [13]] [] [.k 240 (.bool true), .k 241 (.bool false), .k 242 (.bool false), .c 243 (.agg #[vi x, vi y, vi (-1), vi 0, .bool false, .slice A237_56 rs.length c237_56]), .k 244 (vp B40_3), .a 245, .k 246 (vi ((a : Int))), .c 247 (.pointer (some ⟨B8_7, a, none⟩)), .c 248 (vi (who2.getD a 0)), .a 249, .k 250 (vp B40_3), .c 251 (.iface 53 (vp B40_3)), .c 252 (.bool false), .k 253 (.bool true), .k 254 (.bool true), .k 255 (.bool true), .u 256, .u 257, .u 258, .u 259, .u 260, .u 261, .u 262, .u 263, .u 264, .k 265 (.bool true)] (fun ix σ β X => match ix with | 0 => True | 1 => True | 2 => True | 3 => True | 4 => True | 5 => σ 245 = .agg #[vi ((rAt 3 mB)), .slice (sA (tg (β 245) 1)) ((liveL K2 (ringL 3 (rAt 3 mB))).length) (sC (tg (β 245) 1))] ∧ X 12 = eO 3 1 (.slice (sA (tg (β 245) 1)) ((liveL K2 (ringL 3 (rAt 3 mB))).length) (sC (tg (β 245) 1))) ((liveL K2 (ringL 3 (rAt 3 mB))).length) ((liveL K2 (ringL 3 (rAt 3 mB))).map (Value.int .i64)) | 6 => True | 7 => True | 8 => True | 9 => σ 249 = .slice (sA (β 249)) 1 1 ∧ X 13 = eO 3 1 (.slice (sA (β 249)) 1 1) 1 ([vi (who2.getD a 0)]) | _ => True) [0, 1, 2, 3, 4, 5, 6, 7, 8, 9, 10, 11, 12, 13] [3, 5, 7, 8, 9, 11, 12] [(240, 0, 26, 266)] hst56 ?_ ?_ ?_
      · exact fun ix _ _ _ _ _ _ hs hb hx h => match ix, h with
        | 5, h => by dsimp only at h ⊢; rw [← hs 245 rfl, ← hb 245 rfl, ← hx 12 rfl]; exact h
        | 9, h => by dsimp only at h ⊢; rw [← hs 249 rfl, ← hb 249 rfl, ← hx 13 rfl]; exact h
        | 0, _ | 1, _ | 2, _ | 3, _ | 4, _ | 6, _ | 7, _ | 8, _ | _ + 10, _ => trivial
      · refine ⟨?_, ?_, ?_, ?_, ?_, ?_, ?_, trivial⟩
        · exact xs5 rfl id (fun cx => (cx.an 2)) fun cx => run_loadB (n := 6) rfl (by kernel_rfl) (by kernel_rfl) (cx.ou 22) (cx.bi 11 rfl) (nle rfl) rfl
        · refine sv_any_on rfl rfl rfl (fun _ _ _ _ cx => (cx.an 2)) fun ρ β W X cx => ?_
          refine DoesU.call (run_callF (args := #[vp B40_3]) rfl cx.sees rfl (by kernel_rfl) (map1 (cx.an 4))) ?_
          refine (csnap_any _ 3 (rAt 3 mB) K2 _ (cx.bi 0 rfl) on3 (rAt_on 3 mB) hA2.kl).mono ?_
          rintro e W1 ⟨A4, c4, rfl, ho, hx⟩
          refine ⟨_, rfl, post_call [eO 3 1 (.slice A4 ((liveL K2 (ringL 3 (rAt 3 mB))).length) c4) ((liveL K2 (ringL 3 (rAt 3 mB))).length) ((liveL K2 (ringL 3 (rAt 3 mB))).map (Value.int .i64))] rfl rfl hx (one_new (eO_new ho)) (List.pairwise_singleton _ _) (fun σ β' X' hs hb hv hN => ?_)⟩
          have hv1 := (hv 245 rfl).1; have hv2 := (hv 245 rfl).2
          exact ⟨hv1.trans (by rw [hv2]; rfl), (by rw [hv2]; exact (List.cons.inj hN).1)⟩
        · exact xs5 rfl id (fun cx => (cx.an 2)) fun cx => run_indexArrB (n := 4) (sz := 1) (m := a) (q := a) rfl (by kernel_rfl) (cx.ou 8) (cx.an 6) (by omega) (by omega) (by omega)
        · exact xs5 rfl id (fun cx => (cx.an 2)) fun cx => run_load1 rfl (by kernel_rfl) (cx.an 7) (((cx.bi 2 rfl).cell a).trans ((List.getElem?_toArray ..).trans (getD_int (by omega))))
        · refine sv_any_on rfl rfl rfl (fun _ _ _ _ cx => (cx.an 2)) fun ρ β W X cx => ?_
          have fF248 : ρ (.tmp 248) = vi (who2.getD a 0) := (cx.an 8)
          exact dv_lit (e := 3) (xs := [vi (who2.getD a 0)]) rfl (by simp [go_sem, fF248]) rfl (by decide) rfl rfl (fun σ β' X' hs hb hv hx => ⟨hv, hx⟩)
        · exact sv0_on rfl rfl rfl rfl rfl rfl (fun _ _ _ h => h) (fun _ _ _ _ cx => (cx.an 2)) fun ρ β W X cx => by
            have fF250 : ρ (.tmp 250) = vp B40_3 := (cx.an 10)
            simp [go_sem, fF250]
        · exact sv_call_on rfl rfl rfl rfl rfl rfl (fun _ _ _ h => h.trans (congrArg Value.bool hs58)) (fun _ _ _ _ cx => (cx.an 2)) fun ρ β W X cx => ⟨_, _, run_callF (args := #[.agg #[vi x, vi y, vi (-1), vi 0, .bool false, .slice A237_56 rs.length c237_56], .agg #[vi ((rAt 3 mB)), .slice (sA (tg (β 245) 1)) ((liveL K2 (ringL 3 (rAt 3 mB))).length) (sC (tg (β 245) 1))], .slice (sA (β 249)) 1 1, .iface 53 (vp B40_3)]) rfl cx.sees rfl (by kernel_rfl) (map4 (cx.an 3) (dTn (cx.an 5)).1 (dTn (cx.an 9)).1 (cx.an 11)), visible_any _ _ _ _ _ _ _ _ _ _ _ (liveL K2 (ringL 3 (rAt 3 mB))) _ _ [(who2.getD a 0)] _ _ _ _ (At.of_own (cx.row (dTn (cx.an 5)).2 rfl)) (by first | omega | decide | (simp; done) | (simp; omega)) (At.of_own (cx.row (dTn (cx.an 9)).2 rfl)) (by first | omega | decide | (simp; done) | (simp; omega)) (clock_ok _ 3 (rAt 3 mB) K2 _ (cx.bi 0 rfl) on3 (rAt_on 3 mB) hA2.kl)⟩
      intro σ β X W70 hD hst70 fr hfr
      obtain ⟨A245_70, hu_A245_70⟩ : ∃ z, sA (tg (β 245) 1) = z := ⟨_, rfl⟩
      obtain ⟨c245_70, hu_c245_70⟩ : ∃ z, sC (tg (β 245) 1) = z := ⟨_, rfl⟩
      obtain ⟨A249_70, hu_A249_70⟩ : ∃ z, sA (β 249) = z := ⟨_, rfl⟩
      simp only [exq 12 ((dTn (hD 5 lq)).2), exq 13 ((dTn (hD 9 lq)).2), hu_A245_70, hu_c245_70, hu_A249_70] at hst70
      simp only [ed 245 ((dTn (hD 5 lq)).1), ed 249 ((dTn (hD 9 lq)).1), hu_A245_70, hu_c245_70, hu_A249_70] at hfr
      clear hD hu_A245_70 hu_c245_70 hu_A249_70; subst hfr; clear σ β X
      refine then_normal (wp_cond_true (show Act.eval _ _ = .bool true from rfl) (wp_exit (then_exit (blk_ne (by decide) (blk_eq (then_normal (wp_region_P [0, 1, 3] [.k 55 (vi ((ii : Int))), tI 56 ((ii : Int) + 1) (by omega), .k 11 (vi ((ii : Int) + 1))] [(11, 2, 1, 12), (43, 0, 2, 45)] hst70 fun W71 hst71 => ?_)))))))
      refine then_normal ?_
      refine ⟨60 - ((ii + 1)), by omega, ?_⟩
      have hp72 := hst71.pick [0, 1, 2, 3, 4, 5, 6, 7, 8, 9] (by decide) rfl
      exact ⟨(ii + 1), mB, K2, who2, R, Ps, PA, PC, G, P, NA, NC, Rw, rn, RA, RC, ss, sn, SA, SC, ww, wn, WA, WC, by omega, by omega, hm2, hA2, hPg, hPs, hPL, ⟨hrn.1, by omega⟩, ⟨hsn.1, by omega⟩, ⟨hwn.1, by omega⟩, hsl, rfl, (by kernel_rfl), hp72⟩
    have hs50p : (q2 % 6) ≠ 3 := by simpa using hs50
    refine wp_cond_false (show Act.eval _ _ = .bool false from (congrArg Value.bool hs50)) (wp_seq (wp_region_P [0] [.k 28 (vi 2)] [(28, 0, 1, 29)] hst49 fun W73 hst73 => ?_))
    refine then_normal ?_
    refine wp_cut (fun az W => ∃ st9 : Int, (st9 = 2 ∨ st9 = 3) ∧ az = ⟨#[.slice LA ls.length lc, undef, u16_ 2, .bool true, vp B40_3, vp B5_4, .slice NA P NC, .slice RA rn RC, vp B8_7, .slice SA sn SC, .slice WA wn WC, vi ((ii : Int)), vi ((a : Int)), u16_ 13, u16_ 14, u11_ 15, u11_ 16, u11_ 17, u11_ 18, u11_ 19, u11_ 20, u11_ 21, u11_ 22, u11_ 23, u11_ 24, u11_ 25, u11_ 26, u11_ 27, vi st9, u11_ 29, u11_ 30, undef, undef, undef, undef, undef, undef, undef, undef, .bool true, vp B40_3, .agg #[.slice A41_4 8 8], .slice A42_5 0 0, .slice ((some ⟨B43_6, 0, none⟩)) 0 0, .agg #[vi 0, vi 0, vi 0, vi 0], .slice ((some ⟨B45_8, 0, none⟩)) 0 0, .slice A46_9 0 0, vi ((ii : Int)), .slice LA ls.length lc, vi ((ls.length : Int)), .bool (decide ((ii : Int) < (ls.length : Int))), .bool (decide ((ii : Int) < (ls.length : Int))), mb (decide ((ii : Int) < (ls.length : Int))) (vi ((ii : Int))), mb (decide ((ii : Int) < (ls.length : Int))) (.bool (decide ((ii : Int) < 60))), .bool ((decide ((ii : Int) < (ls.length : Int))) && (decide ((ii : Int) < 60))), u11_ 55, u11_ 56, .slice LA ls.length lc, vi ((ii : Int)), .pointer (some ((ad LA).add (ii * 3))), .pointer (some ((ad LA).add (ii * 3 + 0))), .int .u8 q1, vi q1, vi ((a : Int)), u16_ 64, u16_ 65, u16_ 66, u16_ 67, u16_ 68, u16_ 69, u16_ 70, u16_ 71, u16_ 72, u16_ 73, u16_ 74, u16_ 75, u16_ 76, u16_ 77, u16_ 78, .slice LA ls.length lc, vi ((ii : Int)), .pointer (some ((ad LA).add (ii * 3))), .pointer (some ((ad LA).add (ii * 3 + 1))), .int .u8 q2, .int .u8 (q2 % 6), jv az 85, jv az 86, jv az 87, jv az 88, jv az 89, jv az 90, jv az 91, jv az 92, jv az 93, jv az 94, jv az 95, jv az 96, jv az 97, jv az 98, jv az 99, jv az 100, u11_ 101, u11_ 102, u11_ 103, u11_ 104, u11_ 105, u11_ 106, u11_ 107, u11_ 108, u11_ 109, u11_ 110, u11_ 111, u11_ 112, u11_ 113, u11_ 114, u11_ 115, u11_ 116, u11_ 117, u11_ 118, u11_ 119, u11_ 120, u11_ 121, u11_ 122, u11_ 123, u11_ 124, u11_ 125, u11_ 126, u11_ 127, u11_ 128, u11_ 129, u11_ 130, u11_ 131, u11_ 132, u11_ 133, u11_ 134, u11_ 135, u11_ 136, u11_ 137, u11_ 138, u11_ 139, u11_ 140, u11_ 141, u11_ 142, u11_ 143, u11_ 144, u11_ 145, u11_ 146, u11_ 147, u11_ 148, u11_ 149, u11_ 150, u11_ 151, u11_ 152, u11_ 153, u11_ 154, u11_ 155, u11_ 156, u11_ 157, u11_ 158, u11_ 159, .bool q, u25_ 161, u25_ 162, u25_ 163, u11_ 164, u11_ 165, u11_ 166, u11_ 167, u11_ 168, u11_ 169, u11_ 170, u11_ 171, u11_ 172, u11_ 173, u11_ 174, u11_ 175, u11_ 176, u11_ 177, u11_ 178, u11_ 179, u11_ 180, u11_ 181, u11_ 182, u11_ 183, u11_ 184, u11_ 185, u11_ 186, u11_ 187, u11_ 188, u11_ 189, u11_ 190, u11_ 191, u11_ 192, u11_ 193, u11_ 194, u11_ 195, u11_ 196, u11_ 197, u11_ 198, u11_ 199, u11_ 200, u11_ 201, u11_ 202, u11_ 203, u11_ 204, u11_ 205, u11_ 206, u11_ 207, u11_ 208, u11_ 209, u11_ 210, u11_ 211, u11_ 212, .bool ((q2 % 6) == 3), .bool ((q2 % 6) == 3), u11_ 215, u11_ 216, u11_ 217, u11_ 218, u11_ 219, u11_ 220, u11_ 221, u11_ 222, u11_ 223, u11_ 224, u11_ 225, u11_ 226, u11_ 227, u11_ 228, u11_ 229, u11_ 230, u11_ 231, u11_ 232, u11_ 233, u11_ 234, u11_ 235, u11_ 236, u11_ 237, u11_ 238, u11_ 239, u11_ 240, u11_ 241, u11_ 242, u11_ 243, u11_ 244, u11_ 245, u11_ 246, u11_ 247, u11_ 248, u11_ 249, u11_ 250, u11_ 251, u11_ 252, u11_ 253, u11_ 254, u11_ 255, u11_ 256, u11_ 257, u11_ 258, u11_ 259, u11_ 260, u11_ 261, u11_ 262, u11_ 263, u11_ 264, u11_ 265, u11_ 266, u11_ 267, u11_ 268, u11_ 269, u11_ 270, u11_ 271, u11_ 272, u11_ 273, u11_ 274, u11_ 275, u11_ 276, u11_ 277, u11_ 278, u11_ 279, u11_ 280, u11_ 281, u11_ 282, u11_ 283, u11_ 284, u11_ 285, u11_ 286, u11_ 287, u11_ 288, u11_ 289, u11_ 290, u11_ 291, u11_ 292, u11_ 293, u11_ 294, u11_ 295, u11_ 296, u11_ 297, u11_ 298, u11_ 299, u11_ 300, u11_ 301, undef, undef, undef, undef, undef, undef, undef, undef, undef, undef, undef, undef, undef, undef, undef, undef, undef, undef, undef, undef, undef, undef, undef, undef, undef, undef, undef, undef, undef, undef, undef, undef, undef, undef, undef, undef, undef, undef, undef, undef, undef, undef, undef, undef, undef, undef, undef, undef, undef, undef, undef, undef, undef, undef, undef, undef, undef, undef, undef, undef, undef, undef, undef, undef, undef, undef, undef, undef, undef, undef, undef, undef, undef, undef, undef, undef, undef, undef, undef, undef, undef, undef], []⟩ ∧ St w [] [eB B40_3 114 (clockL 3 (rAt 3 mB) K2).toArray, eB B5_4 30 #[.slice PA 8 PC], eB B8_7 57 (who2.map (Value.int .i64)).toArray, eM R, eO 3 1 (.slice NA P NC) P ((rangeI P).map (Value.int .i64)), eO 66 4 (.slice RA rn RC) rn (Rw.flatMap cellsH), eO 69 2 (.slice SA sn SC) sn (ss.flatMap cellsS), eSS ss, eO 73 1 (.slice WA wn WC) wn (ww.map cellW), eWW ww] W) ?_ ?_
    · skip
      refine wp_seq (wp_region_Z [0, 0, 3, 7, 15, 31, 63, 127, 255, 255, 1023, 2047, 4095, 8191, 16383, 32767] [] [.k 85 (.slice LA ls.length lc), .k 86 (vi ((ii : Int))), .c 87 (.pointer (some ((ad LA).add (ii * 3)))), .c 88 (.pointer (some ((ad LA).add (ii * 3 + 1)))), .c 89 (.int .u8 q2), tRe 90 .u8 q2 6 (q2 % 6) (Int.tmod_eq_emod_of_nonneg (by omega)), .k 91 (.bool ((q2 % 6) == 5)), .k 92 (.bool ((q2 % 6) == 5)), .z 93 ((q2 % 6) == 5) (.slice LA ls.length lc), .z 94 ((q2 % 6) == 5) (vi ((ii : Int))), .y 95 ((q2 % 6) == 5) (.pointer (some ((ad LA).add (ii * 3)))), .y 96 ((q2 % 6) == 5) (.pointer (some ((ad LA).add (ii * 3 + 2)))), .y 97 ((q2 % 6) == 5) (.int .u8 q3), .y 98 ((q2 % 6) == 5) (.int .u8 (q3 % 3)), .z 99 ((q2 % 6) == 5) (.bool ((q3 % 3) == 0)), tA 100 ((q2 % 6) == 5) ((q3 % 3) == 0)] [0, 1, 2, 3, 4, 5, 6, 7, 8, 9] [2, 3, 4, 10, 11, 12, 13] [(85, 0, 16, 101)] hst73 ?_ fun W75 hst75 => ?_)
      · refine ⟨?_, ?_, ?_, ?_, ?_, ?_, ?_, trivial⟩
        · exact xs4 rfl id fun cx => run_indexSlM (e := 61) (m := ii) (sz := 3) rfl (by kernel_rfl) (by kernel_rfl) (cx.an 0) (cx.an 1) (by omega) (by omega) (hL.ext cx.upd.to_ext) (by have h_ := flatLen (f := cells3b) (sz := 3) cells3b_len ls; show 0 < (List.flatMap cells3b ls).length; omega)
        · exact xs4 rfl id fun cx => run_fieldAd rfl (by kernel_rfl) (cx.an 2)
        · exact xs4 rfl id fun cx => run_load1 rfl (by kernel_rfl) (cx.an 3) (At.eltc (f := cells3b) (k := 1) cells3b_len (hL.ext cx.upd.to_ext) hqi rfl)
        · exact m2 rfl (fun _ _ _ h => h) (fun cx => (cx.an 7)) fun cx hq => run_indexSlM (e := 61) (m := ii) (sz := 3) rfl (by kernel_rfl) (by kernel_rfl) (mbv (cx.an 8) hq) (mbv (cx.an 9) hq) (by have hq_ := hq; simp only [zB] at hq_; omega) (by have hq_ := hq; simp only [zB] at hq_; omega) (hL.ext cx.upd.to_ext) (by have h_ := flatLen (f := cells3b) (sz := 3) cells3b_len ls; show 0 < (List.flatMap cells3b ls).length; omega)
        · exact m2 rfl (fun _ _ _ h => h) (fun cx => (cx.an 7)) fun cx hq => run_fieldAd rfl (by kernel_rfl) (mbv (cx.an 10) hq)
        · exact m2 rfl (fun _ _ _ h => h) (fun cx => (cx.an 7)) fun cx hq => run_load1 rfl (by kernel_rfl) (mbv (cx.an 11) hq) (At.eltc (f := cells3b) (k := 2) cells3b_len (hL.ext cx.upd.to_ext) hqi rfl)
        · exact m2 rfl (fun _ _ _ h => h) (fun cx => (cx.an 7)) fun cx hq => run_rem rfl (mbv (cx.an 12) hq) (cx.co _) (by decide) (Int.tmod_eq_emod_of_nonneg (by have hq_ := hq; simp only [zB] at hq_; omega))
      refine then_normal ?_
      rcases Bool.eq_false_or_eq_true (((q2 % 6) == 5) && ((q3 % 3) == 0)) with hs76 | hs76
      · skip
        have hs76p := hs76
        simp only [zB] at hs76p
        obtain ⟨hs76p1, hs76p2⟩ := hs76p
        refine wp_cond_true (show Act.eval _ _ = .bool true from (congrArg Value.bool hs76)) (wp_region_P [0] [.k 28 (vi 3)] [(28, 0, 1, 29)] hst75 fun W77 hst77 => ?_)
        refine then_normal ?_
        have hp78 := hst77.pick [0, 1, 2, 3, 4, 5, 6, 7, 8, 9] (by decide) rfl
        exact ⟨3, .inr rfl, (by kernel_rfl), hp78⟩
      have hs76p := hs76
      simp only [zB] at hs76p
      refine wp_cond_false (show Act.eval _ _ = .bool false from (congrArg Value.bool hs76)) (wp_skip (then_normal ?_))
      have hp79 := hst75.pick [0, 1, 2, 3, 4, 5, 6, 7, 8, 9] (by decide) rfl
      exact ⟨2, .inl rfl, (by kernel_rfl), hp79⟩
    rintro a74 W74 ⟨st9, hst9, hj_, hst74⟩
    obtain ⟨u74_, hu_⟩ : ∃ z, jv a74 = z := ⟨_, rfl⟩
    rw [hu_] at hj_; clear hu_; subst hj_
    refine wp_seq (wp_seq (wp_region_Y [0, 0, 2, 6, 0, 31, 63] [[], [], [], [2], [], [0]] [[], [], [], [], [], [10]] [[], [], [], [], [], [0]] [.k 101 (vp B40_3), .k 102 (vi ((a : Int))), .c 103 (.pointer (some ⟨B8_7, a, none⟩)), .c 104 (vi (who2.getD a 0)), .k 105 (vi st9), .a 106, .c 107 (.bool false)] (fun ix σ β X => match ix with | 0 => True | 1 => True | 2 => True | 3 => True | 4 => True | 5 => σ 106 = vi 0 ∧ X 10 = eB B40_3 114 (clockL 3 (rAt 3 mB) (K2.set (who2.getD a 0).toNat st9)).toArray | _ => True) [1, 2, 3, 4, 5, 6, 7, 8, 9, 10] [2, 3, 5, 6] [(101, 0, 7, 108)] hst74 ?_ ?_ ?_))
    · exact fun ix _ _ _ _ _ _ hs hb hx h => match ix, h with
      | 5, h => by dsimp only at h ⊢; rw [← hs 106 rfl, ← hx 10 rfl]; exact h
      | 0, _ | 1, _ | 2, _ | 3, _ | 4, _ | _ + 6, _ => trivial
    · refine ⟨?_, ?_, ?_, ?_, trivial⟩
      · exact xs4 rfl id fun cx => run_indexArrB (n := 4) (sz := 1) (m := a) (q := a) rfl (by kernel_rfl) (cx.ou 8) (cx.an 1) (by omega) (by omega) (by omega)
      · exact xs4 rfl id fun cx => run_load1 rfl (by kernel_rfl) (cx.an 2) (((cx.bi 2 rfl).cell a).trans ((List.getElem?_toArray ..).trans (getD_int (by omega))))
      · refine sv_any rfl rfl fun ρ β W X cx => ?_
        refine DoesU.call (run_callF (args := #[vp B40_3, vi (who2.getD a 0), vi st9]) rfl cx.sees rfl (by kernel_rfl) (map3 (cx.an 0) (cx.an 3) (cx.an 4))) ?_
        refine (cend_live _ 3 (rAt 3 mB) K2 (who2.getD a 0) st9 _ (cx.bi 0 rfl) on3 (rAt_on 3 mB) hA2.kl hkn (by omega) hlk).mono ?_
        rintro e W1 ⟨rfl, hb1, hu⟩
        refine ⟨_, rfl, post_mut (cx.init 0 _ rfl) rfl rfl hu hb1 (fun σ β' X' hs hb hv hx => ?_)⟩
        exact ⟨(hv 106 rfl).1.trans rfl, hx⟩
      · exact xs4 rfl id fun cx => run_bin rfl (dTn (cx.an 5)).1 (cx.co _) rfl
    intro σ β X W80 hD hst80 fr hfr
    simp only [exq 10 ((dTn (hD 5 lq)).2)] at hst80
    simp only [ed 106 ((dTn (hD 5 lq)).1)] at hfr
    clear hD; subst hfr; clear σ β X
    refine then_normal (wp_cond_false (show Act.eval _ _ = .bool false from rfl) (wp_skip (then_normal (wp_seq ?_))))
    obtain ⟨K3, hN_K3⟩ : ∃ z, (K2.set (who2.getD a 0).toNat st9) = z := ⟨_, rfl⟩
    rw [hN_K3] at hst80
    have hA3 := ai_end hA2 (by omega) ha4 hw0 hst9
    rw [hN_K3] at hA3
    have hA4 := ai_snap hA3 (by omega)
    have hK3 := hA3.kl
    refine wp_region_Y [0, 1, 3] [[], [], [1]] [[], [], [10]] [[], [], [1]] [.k 108 (vi ((a : Int))), .c 109 (.pointer (some ⟨B8_7, a, none⟩)), .n] (fun ix σ β X => match ix with | 0 => True | 1 => True | 2 => X 10 = eB B8_7 57 ((who2.set a 0).map (Value.int .i64)).toArray | _ => True) [0, 2, 3, 4, 5, 6, 7, 8, 9, 10] [1, 2] [(108, 0, 2, 110)] hst80 ?_ ?_ ?_
    · exact fun ix _ _ _ _ _ _ hs hb hx h => match ix, h with
      | 2, h => by dsimp only at h ⊢; rw [← hx 10 rfl]; exact h
      | 0, _ | 1, _ | _ + 3, _ => trivial
    · refine ⟨?_, ?_, trivial⟩
      · exact xs4 rfl id fun cx => run_indexArrB (n := 4) (sz := 1) (m := a) (q := a) rfl (by kernel_rfl) (cx.ou 8) (cx.an 0) (by omega) (by omega) (by omega)
      · refine sv_any rfl rfl fun ρ β W X cx => ?_
        exact dv_storeAr (m := a) rfl (cx.an 1) (cx.co _) (by kernel_rfl) rfl rfl cx (cx.init 1 _ rfl) rfl (by simp only [List.length_map, List.length_set]; omega) rfl (by rw [List.map_set]) rfl rfl (fun σ β' X' hs hb hx => hx)
    intro σ β X W81 hD hst81 fr hfr
    simp only [exq 10 ((dTn (hD 2 lq)))] at hst81
    clear hD; subst hfr; clear σ β X
    refine then_normal (wp_seq (wp_region_Y [0, 0, 2, 6, 15, 31] [[], [], [8], [], [11, 4]] [[], [], [10], [11], [12]] [[], [], [], [], [4]] [.k 110 (.slice SA sn SC), .k 111 (vp B40_3), .a 112, .a 113, .a 114, .a 9] (fun ix σ β X => match ix with | 0 => True | 1 => True | 2 => σ 112 = .agg #[vi ((rAt 3 mB)), .slice (sA (tg (β 112) 1)) ((liveL K3 (ringL 3 (rAt 3 mB))).length) (sC (tg (β 112) 1))] ∧ X 10 = eO 3 1 (.slice (sA (tg (β 112) 1)) ((liveL K3 (ringL 3 (rAt 3 mB))).length) (sC (tg (β 112) 1))) ((liveL K3 (ringL 3 (rAt 3 mB))).length) ((liveL K3 (ringL 3 (rAt 3 mB))).map (Value.int .i64)) | 3 => σ 113 = .slice ((some ⟨(pb' (β 113)), 0, none⟩)) 1 1 ∧ X 11 = eO 69 2 (.slice ((some ⟨(pb' (β 113)), 0, none⟩)) 1 1) 1 (cellsS (((rAt 3 mB), (liveL K3 (ringL 3 (rAt 3 mB)))), (sA (tg (β 112) 1)), (sC (tg (β 112) 1)))) | 4 => σ 114 = .slice (sA (β 114)) (sn + 1) (sC (β 114)) ∧ X 12 = eO 69 2 (.slice (sA (β 114)) (sn + 1) (sC (β 114))) (sn + 1) ((ss ++ [(((rAt 3 mB), (liveL K3 (ringL 3 (rAt 3 mB)))), (sA (tg (β 112) 1)), (sC (tg (β 112) 1)))]).flatMap cellsS) | 5 => σ 9 = .slice (sA (β 114)) (sn + 1) (sC (β 114)) | _ => True) [0, 1, 2, 3, 5, 6, 7, 8, 9, 10, 11, 12] [2, 3, 4, 5] [(9, 5, 1, 10), (100, 0, 5, 105)] hst81 ?_ ?_ ?_))
    · exact fun ix _ _ _ _ _ _ hs hb hx h => match ix, h with
      | 2, h => by dsimp only at h ⊢; rw [← hs 112 rfl, ← hb 112 rfl, ← hx 10 rfl]; exact h
      | 3, h => by dsimp only at h ⊢; rw [← hs 113 rfl, ← hb 112 rfl, ← hb 113 rfl, ← hx 11 rfl]; exact h
      | 4, h => by dsimp only at h ⊢; rw [← hs 114 rfl, ← hb 112 rfl, ← hb 114 rfl, ← hx 12 rfl]; exact h
      | 5, h => by dsimp only at h ⊢; rw [← hs 9 rfl, ← hb 114 rfl]; exact h
      | 0, _ | 1, _ | _ + 6, _ => trivial
    · refine ⟨?_, ?_, ?_, ?_, trivial⟩
      · refine sv_any rfl rfl fun ρ β W X cx => ?_
        refine DoesU.call (run_callF (args := #[vp B40_3]) rfl cx.sees rfl (by kernel_rfl) (map1 (cx.an 1))) ?_
        refine (csnap_any _ 3 (rAt 3 mB) K3 _ (cx.bi 8 rfl) on3 (rAt_on 3 mB) hK3).mono ?_
        rintro e W1 ⟨A4, c4, rfl, ho, hx⟩
        refine ⟨_, rfl, post_call [eO 3 1 (.slice A4 ((liveL K3 (ringL 3 (rAt 3 mB))).length) c4) ((liveL K3 (ringL 3 (rAt 3 mB))).length) ((liveL K3 (ringL 3 (rAt 3 mB))).map (Value.int .i64))] rfl rfl hx (one_new (eO_new ho)) (List.pairwise_singleton _ _) (fun σ β' X' hs hb hv hN => ?_)⟩
        have hv1 := (hv 112 rfl).1; have hv2 := (hv 112 rfl).2
        exact ⟨hv1.trans (by rw [hv2]; rfl), (by rw [hv2]; exact (List.cons.inj hN).1)⟩
      · refine sv_any rfl rfl fun ρ β W X cx => ?_
        have fF112 : ρ (.tmp 112) = .agg #[vi ((rAt 3 mB)), .slice (sA (tg (β 112) 1)) ((liveL K3 (ringL 3 (rAt 3 mB))).length) (sC (tg (β 112) 1))] := (dTn (cx.an 2)).1
        exact dv_litN (e := 69) (sz := 2) (xs := [vi ((rAt 3 mB)), .slice (sA (tg (β 112) 1)) ((liveL K3 (ringL 3 (rAt 3 mB))).length) (sC (tg (β 112) 1))]) rfl (by simp [go_sem, fF112]) rfl (by decide) rfl rfl (fun σ β' X' hs hb hv hx => ⟨hv, by rw [hb 112 (by decide)]; exact hx⟩)
      · refine sv_any rfl rfl fun ρ β W X cx => ?_
        obtain ⟨i0, hi0, hz0, hz1, hz2⟩ := info_parts infoSnp
        refine dv_appendN (n := sn) (m := 1) (nm := sn + 1) (sz := 2) (xs := ss.flatMap cellsS) (news := cellsS (((rAt 3 mB), (liveL K3 (ringL 3 (rAt 3 mB)))), (sA (tg (β 112) 1)), (sC (tg (β 112) 1)))) (xs' := (ss ++ [(((rAt 3 mB), (liveL K3 (ringL 3 (rAt 3 mB)))), (sA (tg (β 112) 1)), (sC (tg (β 112) 1)))]).flatMap cellsS) rfl (ty := 58) rfl (by kernel_rfl) hi0 hz0 hz1 hz2 rfl (by decide) (cx.an 0) cx (cx.init 4 _ rfl) rfl (dTn (cx.an 3)).1 (by rfl) (At.of_ownN (cx.row (dTn (cx.an 3)).2 rfl)) (by simp [cellsH, cellsS, cellsT2, Value.oneCell']) (by simp only [maxLen]; omega) (by omega) rfl rfl rfl (by omega) (sk_snoc _ _) (fun σ β' X' hs hb hv hx => ?_)
        rw [← hb 112 (by decide)] at *; exact ⟨hv, hx⟩
      · exact sv rfl rfl rfl rfl rfl _ (fun _ _ _ h => h) (fun β β' h => by rw [h 114 (by decide)]) fun ρ β W X cx => run_assign' rfl (dTn (cx.an 4)).1
    intro σ β X W82 hD hst82 fr hfr
    obtain ⟨A112_82, hu_A112_82⟩ : ∃ z, sA (tg (β 112) 1) = z := ⟨_, rfl⟩
    obtain ⟨c112_82, hu_c112_82⟩ : ∃ z, sC (tg (β 112) 1) = z := ⟨_, rfl⟩
    obtain ⟨B113_82, hu_B113_82⟩ : ∃ z, pb' (β 113) = z := ⟨_, rfl⟩
    obtain ⟨A114_82, hu_A114_82⟩ : ∃ z, sA (β 114) = z := ⟨_, rfl⟩
    obtain ⟨c114_82, hu_c114_82⟩ : ∃ z, sC (β 114) = z := ⟨_, rfl⟩
    simp only [exq 10 ((dTn (hD 2 lq)).2), exq 11 ((dTn (hD 3 lq)).2), exq 12 ((dTn (hD 4 lq)).2), hu_A112_82, hu_c112_82, hu_B113_82, hu_A114_82, hu_c114_82] at hst82
    simp only [ed 112 ((dTn (hD 2 lq)).1), ed 113 ((dTn (hD 3 lq)).1), ed 114 ((dTn (hD 4 lq)).1), ed 9 ((dTn (hD 5 lq))), hu_A112_82, hu_c112_82, hu_B113_82, hu_A114_82, hu_c114_82] at hfr
    clear hD hu_A112_82 hu_c112_82 hu_B113_82 hu_A114_82 hu_c114_82; subst hfr; clear σ β X
    refine then_normal (wp_seq ?_)
    have hmS_ := St.mergeS (L := [eB B5_4 30 #[.slice PA 8 PC], eM R, eO 3 1 (.slice NA P NC) P ((rangeI P).map (Value.int .i64)), eO 66 4 (.slice RA rn RC) rn (Rw.flatMap cellsH), eO 73 1 (.slice WA wn WC) wn (ww.map cellW), eWW ww, eB B40_3 114 (clockL 3 (rAt 3 mB) K3).toArray, eB B8_7 57 ((who2.set a 0).map (Value.int .i64)).toArray, eO 69 2 (.slice ((some ⟨B113_82, 0, none⟩)) 1 1) 1 (cellsS (((rAt 3 mB), (liveL K3 (ringL 3 (rAt 3 mB)))), A112_82, c112_82)), eO 69 2 (.slice A114_82 (sn + 1) c114_82) (sn + 1) ((ss ++ [(((rAt 3 mB), (liveL K3 (ringL 3 (rAt 3 mB)))), A112_82, c112_82)]).flatMap cellsS)]) (hi := rAt 3 mB) (hst82.pick [0, 1, 2, 3, 5, 6, 7, 8, 10, 11, 4, 9] (by decide) rfl)
    simp only [List.cons_append, List.nil_append] at hmS_
    refine wp_region_Y [0, 1] [] [[11]] [] [.a 115, .a 29] (fun ix σ β X => match ix with | 0 => σ 115 = .slice ((some ⟨(pb' (β 115)), 0, none⟩)) 0 0 ∧ X 11 = eO 24 2 (.slice ((some ⟨(pb' (β 115)), 0, none⟩)) 0 0) 0 ([]) | 1 => σ 29 = .slice ((some ⟨(pb' (β 115)), 0, none⟩)) 0 0 | _ => True) [0, 1, 2, 3, 4, 5, 6, 7, 8, 9, 10, 11] [0, 1] [(29, 1, 1, 30), (85, 0, 1, 86)] hmS_ ?_ ?_ ?_
    · exact fun ix _ _ _ _ _ _ hs hb hx h => match ix, h with
      | 0, h => by dsimp only at h ⊢; rw [← hs 115 rfl, ← hb 115 rfl, ← hx 11 rfl]; exact h
      | 1, h => by dsimp only at h ⊢; rw [← hs 29 rfl, ← hb 115 rfl]; exact h
      | _ + 2, _ => trivial
    · refine ⟨?_, ?_, trivial⟩
      · refine sv_any rfl rfl fun ρ β W X cx => ?_
        exact dv_litN (e := 24) (sz := 2) (xs := []) rfl (by simp [go_sem]) rfl (by decide) rfl rfl (fun σ β' X' hs hb hv hx => ⟨hv, hx⟩)
      · exact sv rfl rfl rfl rfl rfl _ (fun _ _ _ h => h) (fun β β' h => by rw [h 115 (by decide)]) fun ρ β W X cx => run_assign' rfl (dTn (cx.an 0)).1
    intro σ β X W83 hD hst83 fr hfr
    obtain ⟨B115_83, hu_B115_83⟩ : ∃ z, pb' (β 115) = z := ⟨_, rfl⟩
    simp only [exq 11 ((dTn (hD 0 lq)).2), hu_B115_83] at hst83
    simp only [ed 115 ((dTn (hD 0 lq)).1), ed 29 ((dTn (hD 1 lq))), hu_B115_83] at hfr
    clear hD hu_B115_83; subst hfr; clear σ β X
    refine then_normal (wp_seq (wp_seq (wp_region_P [0] [.k 30 (vi 0)] [(30, 0, 1, 31)] hst83 fun W84 hst84 => ?_)))
    refine then_normal (wp_block ?_)
    refine wp_loopN (fun mz az W => ∃ qq : Nat, ∃ vl : List (Int × Int), ∃ vn : Nat, ∃ VA : Option Addr, ∃ VC : Nat, qq ≤ rn ∧ vl = wlL (gW mB K3) (Rw.take qq) ∧ (vn = vl.length ∧ vn ≤ qq) ∧ mz = rn - qq ∧ az = ⟨#[.slice LA ls.length lc, undef, u16_ 2, .bool true, vp B40_3, vp B5_4, .slice NA P NC, .slice RA rn RC, vp B8_7, .slice A114_82 (sn + 1) c114_82, .slice WA wn WC, vi ((ii : Int)), vi ((a : Int)), u16_ 13, u16_ 14, u11_ 15, u11_ 16, u11_ 17, u11_ 18, u11_ 19, u11_ 20, u11_ 21, u11_ 22, u11_ 23, u11_ 24, u11_ 25, u11_ 26, u11_ 27, vi st9, .slice VA vn VC, vi ((qq : Int)), undef, undef, undef, undef, undef, undef, undef, undef, .bool true, vp B40_3, .agg #[.slice A41_4 8 8], .slice A42_5 0 0, .slice ((some ⟨B43_6, 0, none⟩)) 0 0, .agg #[vi 0, vi 0, vi 0, vi 0], .slice ((some ⟨B45_8, 0, none⟩)) 0 0, .slice A46_9 0 0, vi ((ii : Int)), .slice LA ls.length lc, vi ((ls.length : Int)), .bool (decide ((ii : Int) < (ls.length : Int))), .bool (decide ((ii : Int) < (ls.length : Int))), mb (decide ((ii : Int) < (ls.length : Int))) (vi ((ii : Int))), mb (decide ((ii : Int) < (ls.length : Int))) (.bool (decide ((ii : Int) < 60))), .bool ((decide ((ii : Int) < (ls.length : Int))) && (decide ((ii : Int) < 60))), u11_ 55, u11_ 56, .slice LA ls.length lc, vi ((ii : Int)), .pointer (some ((ad LA).add (ii * 3))), .pointer (some ((ad LA).add (ii * 3 + 0))), .int .u8 q1, vi q1, vi ((a : Int)), u16_ 64, u16_ 65, u16_ 66, u16_ 67, u16_ 68, u16_ 69, u16_ 70, u16_ 71, u16_ 72, u16_ 73, u16_ 74, u16_ 75, u16_ 76, u16_ 77, u16_ 78, .slice LA ls.length lc, vi ((ii : Int)), .pointer (some ((ad LA).add (ii * 3))), .pointer (some ((ad LA).add (ii * 3 + 1))), .int .u8 q2, .int .u8 (q2 % 6), u74_ 85, u74_ 86, u74_ 87, u74_ 88, u74_ 89, u74_ 90, u74_ 91, u74_ 92, u74_ 93, u74_ 94, u74_ 95, u74_ 96, u74_ 97, u74_ 98, u74_ 99, u74_ 100, vp B40_3, vi ((a : Int)), .pointer (some ⟨B8_7, a, none⟩), vi (who2.getD a 0), vi st9, vi 0, .bool false, vi ((a : Int)), .pointer (some ⟨B8_7, a, none⟩), .slice SA sn SC, vp B40_3, .agg #[vi ((rAt 3 mB)), .slice A112_82 ((liveL K3 (ringL 3 (rAt 3 mB))).length) c112_82], .slice ((some ⟨B113_82, 0, none⟩)) 1 1, .slice A114_82 (sn + 1) c114_82, .slice ((some ⟨B115_83, 0, none⟩)) 0 0, jv az 116, jv az 117, jv az 118, jv az 119, jv az 120, jv az 121, jv az 122, jv az 123, jv az 124, jv az 125, jv az 126, jv az 127, jv az 128, jv az 129, jv az 130, jv az 131, jv az 132, jv az 133, jv az 134, jv az 135, jv az 136, jv az 137, jv az 138, jv az 139, jv az 140, jv az 141, jv az 142, jv az 143, jv az 144, jv az 145, jv az 146, jv az 147, jv az 148, jv az 149, jv az 150, jv az 151, jv az 152, jv az 153, jv az 154, jv az 155, u11_ 156, u11_ 157, u11_ 158, u11_ 159, .bool q, u25_ 161, u25_ 162, u25_ 163, u11_ 164, u11_ 165, u11_ 166, u11_ 167, u11_ 168, u11_ 169, u11_ 170, u11_ 171, u11_ 172, u11_ 173, u11_ 174, u11_ 175, u11_ 176, u11_ 177, u11_ 178, u11_ 179, u11_ 180, u11_ 181, u11_ 182, u11_ 183, u11_ 184, u11_ 185, u11_ 186, u11_ 187, u11_ 188, u11_ 189, u11_ 190, u11_ 191, u11_ 192, u11_ 193, u11_ 194, u11_ 195, u11_ 196, u11_ 197, u11_ 198, u11_ 199, u11_ 200, u11_ 201, u11_ 202, u11_ 203, u11_ 204, u11_ 205, u11_ 206, u11_ 207, u11_ 208, u11_ 209, u11_ 210, u11_ 211, u11_ 212, .bool ((q2 % 6) == 3), .bool ((q2 % 6) == 3), u11_ 215, u11_ 216, u11_ 217, u11_ 218, u11_ 219, u11_ 220, u11_ 221, u11_ 222, u11_ 223, u11_ 224, u11_ 225, u11_ 226, u11_ 227, u11_ 228, u11_ 229, u11_ 230, u11_ 231, u11_ 232, u11_ 233, u11_ 234, u11_ 235, u11_ 236, u11_ 237, u11_ 238, u11_ 239, u11_ 240, u11_ 241, u11_ 242, u11_ 243, u11_ 244, u11_ 245, u11_ 246, u11_ 247, u11_ 248, u11_ 249, u11_ 250, u11_ 251, u11_ 252, u11_ 253, u11_ 254, u11_ 255, u11_ 256, u11_ 257, u11_ 258, u11_ 259, u11_ 260, u11_ 261, u11_ 262, u11_ 263, u11_ 264, u11_ 265, u11_ 266, u11_ 267, u11_ 268, u11_ 269, u11_ 270, u11_ 271, u11_ 272, u11_ 273, u11_ 274, u11_ 275, u11_ 276, u11_ 277, u11_ 278, u11_ 279, u11_ 280, u11_ 281, u11_ 282, u11_ 283, u11_ 284, u11_ 285, u11_ 286, u11_ 287, u11_ 288, u11_ 289, u11_ 290, u11_ 291, u11_ 292, u11_ 293, u11_ 294, u11_ 295, u11_ 296, u11_ 297, u11_ 298, u11_ 299, u11_ 300, u11_ 301, undef, undef, undef, undef, undef, undef, undef, undef, undef, undef, undef, undef, undef, undef, undef, undef, undef, undef, undef, undef, undef, undef, undef, undef, undef, undef, undef, undef, undef, undef, undef, undef, undef, undef, undef, undef, undef, undef, undef, undef, undef, undef, undef, undef, undef, undef, undef, undef, undef, undef, undef, undef, undef, undef, undef, undef, undef, undef, undef, undef, undef, undef, undef, undef, undef, undef, undef, undef, undef, undef, undef, undef, undef, undef, undef, undef, undef, undef, undef, undef, undef, undef], []⟩ ∧ St w [] [eB B5_4 30 #[.slice PA 8 PC], eM R, eO 3 1 (.slice NA P NC) P ((rangeI P).map (Value.int .i64)), eO 66 4 (.slice RA rn RC) rn (Rw.flatMap cellsH), eO 73 1 (.slice WA wn WC) wn (ww.map cellW), eWW ww, eB B40_3 114 (clockL 3 (rAt 3 mB) K3).toArray, eB B8_7 57 ((who2.set a 0).map (Value.int .i64)).toArray, eO 69 2 (.slice ((some ⟨B113_82, 0, none⟩)) 1 1) 1 (cellsS (((rAt 3 mB), (liveL K3 (ringL 3 (rAt 3 mB)))), A112_82, c112_82)), eO 69 2 (.slice A114_82 (sn + 1) c114_82) (sn + 1) ((ss ++ [(((rAt 3 mB), (liveL K3 (ringL 3 (rAt 3 mB)))), A112_82, c112_82)]).flatMap cellsS), eSS (ss ++ [((rAt 3 mB, (liveL K3 (ringL 3 (rAt 3 mB)))), A112_82, c112_82)]), eO 24 2 (.slice VA vn VC) vn (vl.flatMap cellsT2)] W) (rn - 0) ?_ ?_
    · -- the loop begins
      have hp86 := hst84.pick [0, 1, 2, 3, 4, 5, 6, 7, 8, 9, 10, 11] (by decide) rfl
      exact ⟨0, [], 0, (some ⟨B115_83, 0, none⟩), 0, Nat.zero_le _, rfl, ⟨rfl, Nat.le_refl _⟩, rfl, (by kernel_rfl), hp86⟩
    rintro n85 a85 W85 ⟨qq, vl, vn, VA, VC, hqq, hvl, hvn, rfl, hj_, hst85⟩
    obtain ⟨u85_, hu_⟩ : ∃ z, jv a85 = z := ⟨_, rfl⟩
    rw [hu_] at hj_; clear hu_; subst hj_
    refine wp_seq (wp_seq (wp_region_P [0, 0, 2, 7] [.k 116 (vi ((qq : Int))), .k 117 (.slice RA rn RC), .k 118 (vi ((rn : Int))), .k 119 (.bool (decide ((qq : Int) < (rn : Int))))] [(116, 0, 4, 120)] hst85 fun W87 hst87 => ?_))
    refine then_normal ?_
    rcases Bool.eq_false_or_eq_true (decide ((qq : Int) < (rn : Int))) with hs88 | hs88
    · skip
      have hs88p : (qq : Int) < (rn : Int) := by simpa using hs88
      refine wp_cond_true (show Act.eval _ _ = .bool true from (congrArg Value.bool hs88)) (wp_skip (then_normal (wp_seq (wp_block (wp_seq ?_)))))
      obtain ⟨⟨x, y, p, s⟩, hrk⟩ := some_of (l := Rw) (k := qq) (by omega)
      refine wp_region_Z [0, 0, 0, 6, 14, 30, 63, 127, 255, 511, 511, 2047, 4095, 8191, 16383, 32767, 65535, 65535, 65535, 458751, 983039, 2031615, 4194303, 8388607, 16777215, 33554431] [[], [], [], [3], [], [3], [6], [], [], [], [], [3], [], [3], [], [], [], [], [], [3], [], [3], [6]] [.k 122 (vp B40_3), .k 123 (.slice RA rn RC), .k 124 (vi ((qq : Int))), .c 125 (.pointer (some ((ad RA).add (qq * 4)))), .c 126 (.pointer (some ((ad RA).add (qq * 4 + 0)))), .c 127 (vi x), .c 128 (vi (stateF 3 (rAt 3 mB) K3 x)), .k 129 (.bool ((stateF 3 (rAt 3 mB) K3 x) == 2)), .k 130 (.bool ((stateF 3 (rAt 3 mB) K3 x) == 2)), .z 131 ((stateF 3 (rAt 3 mB) K3 x) == 2) (.slice RA rn RC), .z 132 ((stateF 3 (rAt 3 mB) K3 x) == 2) (vi ((qq : Int))), .y 133 ((stateF 3 (rAt 3 mB) K3 x) == 2) (.pointer (some ((ad RA).add (qq * 4)))), .y 134 ((stateF 3 (rAt 3 mB) K3 x) == 2) (.pointer (some ((ad RA).add (qq * 4 + 1)))), .y 135 ((stateF 3 (rAt 3 mB) K3 x) == 2) (vi y), .z 136 ((stateF 3 (rAt 3 mB) K3 x) == 2) (.bool (y == 0)), .z 137 ((stateF 3 (rAt 3 mB) K3 x) == 2) (.bool (y == 0)), .z 138 (((stateF 3 (rAt 3 mB) K3 x) == 2) && (!(y == 0))) (vp B40_3), .z 139 (((stateF 3 (rAt 3 mB) K3 x) == 2) && (!(y == 0))) (.slice RA rn RC), .z 140 (((stateF 3 (rAt 3 mB) K3 x) == 2) && (!(y == 0))) (vi ((qq : Int))), .y 141 (((stateF 3 (rAt 3 mB) K3 x) == 2) && (!(y == 0))) (.pointer (some ((ad RA).add (qq * 4)))), .y 142 (((stateF 3 (rAt 3 mB) K3 x) == 2) && (!(y == 0))) (.pointer (some ((ad RA).add (qq * 4 + 1)))), .y 143 (((stateF 3 (rAt 3 mB) K3 x) == 2) && (!(y == 0))) (vi y), .y 144 (((stateF 3 (rAt 3 mB) K3 x) == 2) && (!(y == 0))) (vi (stateF 3 (rAt 3 mB) K3 y)), .z 145 (((stateF 3 (rAt 3 mB) K3 x) == 2) && (!(y == 0))) (.bool ((stateF 3 (rAt 3 mB) K3 y) != 2)), .y 146 ((stateF 3 (rAt 3 mB) K3 x) == 2) (.bool ((y == 0) || ((stateF 3 (rAt 3 mB) K3 y) != 2))), tA 147 ((stateF 3 (rAt 3 mB) K3 x) == 2) ((y == 0) || ((stateF 3 (rAt 3 mB) K3 y) != 2))] [0, 1, 2, 3, 4, 5, 6, 7, 8, 9, 10, 11] [3, 4, 5, 6, 11, 12, 13, 19, 20, 21, 22, 24] [(122, 0, 26, 148)] hst87 ?_ fun W89 hst89 => ?_
      · refine ⟨?_, ?_, ?_, ?_, ?_, ?_, ?_, ?_, ?_, ?_, ?_, ?_, trivial⟩
        · exact xs4 rfl id fun cx => run_indexSlM (e := 66) (m := qq) (sz := 4) rfl (by kernel_rfl) (by kernel_rfl) (cx.an 1) (cx.an 2) (by omega) (by omega) (At.of_ownN (cx.ri 3 rfl)) (by have h_ := flatLen (f := cellsH) (sz := 4) cellsH_len Rw; show 0 < (List.flatMap cellsH Rw).length; omega)
        · exact xs4 rfl id fun cx => run_fieldAd rfl (by kernel_rfl) (cx.an 3)
        · exact xs4 rfl id fun cx => run_load1 rfl (by kernel_rfl) (cx.an 4) (At.eltc (f := cellsH) (k := 0) cellsH_len (At.of_ownN (cx.ri 3 rfl)) hrk rfl)
        · exact xsc rfl id rfl rfl fun cx => ⟨_, cstate_any _ 3 (rAt 3 mB) K3 x _ (cx.bi 6 rfl) on3 (rAt_on 3 mB) hK3, (map2 (cx.an 0) (cx.an 5))⟩
        · exact m2 rfl (fun _ _ _ h => h) (fun cx => (cx.an 8)) fun cx hq => run_indexSlM (e := 66) (m := qq) (sz := 4) rfl (by kernel_rfl) (by kernel_rfl) (mbv (cx.an 9) hq) (mbv (cx.an 10) hq) (by have hq_ := hq; simp only [zB] at hq_; omega) (by have hq_ := hq; simp only [zB] at hq_; omega) (At.of_ownN (cx.ri 3 rfl)) (by have h_ := flatLen (f := cellsH) (sz := 4) cellsH_len Rw; show 0 < (List.flatMap cellsH Rw).length; omega)
        · exact m2 rfl (fun _ _ _ h => h) (fun cx => (cx.an 8)) fun cx hq => run_fieldAd rfl (by kernel_rfl) (mbv (cx.an 11) hq)
        · exact m2 rfl (fun _ _ _ h => h) (fun cx => (cx.an 8)) fun cx hq => run_load1 rfl (by kernel_rfl) (mbv (cx.an 12) hq) (At.eltc (f := cellsH) (k := 1) cellsH_len (At.of_ownN (cx.ri 3 rfl)) hrk rfl)
        · exact m0 rfl (fun _ _ _ h => h) (fun cx => (cx.an 15)) fun cx hq => run_indexSlM (e := 66) (m := qq) (sz := 4) rfl (by kernel_rfl) (by kernel_rfl) (mbv (cx.an 17) hq) (mbv (cx.an 18) hq) (by have hq_ := hq; simp only [zB] at hq_; omega) (by have hq_ := hq; simp only [zB] at hq_; omega) (At.of_ownN (cx.ri 3 rfl)) (by have h_ := flatLen (f := cellsH) (sz := 4) cellsH_len Rw; show 0 < (List.flatMap cellsH Rw).length; omega)
        · exact m0 rfl (fun _ _ _ h => h) (fun cx => (cx.an 15)) fun cx hq => run_fieldAd rfl (by kernel_rfl) (mbv (cx.an 19) hq)
        · exact m0 rfl (fun _ _ _ h => h) (fun cx => (cx.an 15)) fun cx hq => run_load1 rfl (by kernel_rfl) (mbv (cx.an 20) hq) (At.eltc (f := cellsH) (k := 1) cellsH_len (At.of_ownN (cx.ri 3 rfl)) hrk rfl)
        · exact m1 rfl (fun _ _ _ h => h) (fun cx => (cx.an 15)) fun cx hq => ⟨_, _, run_callF (args := #[vp B40_3, vi y]) rfl cx.sees rfl (by kernel_rfl) (map2 (mbv (cx.an 16) hq) (mbv (cx.an 21) hq)), cstate_any _ 3 (rAt 3 mB) K3 y _ (cx.bi 6 rfl) on3 (rAt_on 3 mB) hK3⟩
        · exact m2 rfl (fun _ _ _ h => h) (fun cx => (cx.an 8)) fun cx hq => run_pick_or rfl (mbv (cx.an 15) hq) (cx.co _) (cx.an 23) (fun e_ => by rw [hq, e_]; rfl)
      refine then_normal ?_
      rcases Bool.eq_false_or_eq_true (((stateF 3 (rAt 3 mB) K3 x) == 2) && ((y == 0) || ((stateF 3 (rAt 3 mB) K3 y) != 2))) with hs90 | hs90
      · skip
        have hs90p := hs90
        simp only [zB] at hs90p
        obtain ⟨hs90p1, hs90p2⟩ := hs90p
        refine wp_cond_true (show Act.eval _ _ = .bool true from (congrArg Value.bool hs90)) (wp_region_Y [0, 0, 0, 6, 14, 30, 62, 127, 255] [[], [], [], [3], [], [3], [], [12, 11]] [[], [], [], [], [], [], [12], [13]] [[], [], [], [], [], [], [], [11]] [.k 148 (.slice VA vn VC), .k 149 (.slice RA rn RC), .k 150 (vi ((qq : Int))), .c 151 (.pointer (some ((ad RA).add (qq * 4)))), .c 152 (.pointer (some ((ad RA).add (qq * 4 + 2)))), .c 153 (.agg #[vi p, vi s]), .a 154, .a 155, .a 29] (fun ix σ β X => match ix with | 0 => True | 1 => True | 2 => True | 3 => True | 4 => True | 5 => True | 6 => σ 154 = .slice ((some ⟨(pb' (β 154)), 0, none⟩)) 1 1 ∧ X 12 = eO 24 2 (.slice ((some ⟨(pb' (β 154)), 0, none⟩)) 1 1) 1 (cellsT2 (p, s)) | 7 => σ 155 = .slice (sA (β 155)) (vn + 1) (sC (β 155)) ∧ X 13 = eO 24 2 (.slice (sA (β 155)) (vn + 1) (sC (β 155))) (vn + 1) ((vl ++ [(p, s)]).flatMap cellsT2) | 8 => σ 29 = .slice (sA (β 155)) (vn + 1) (sC (β 155)) | _ => True) [0, 1, 2, 3, 4, 5, 6, 7, 8, 9, 10, 12, 13] [3, 4, 5, 6, 7, 8] [(29, 8, 1, 30), (118, 0, 8, 126)] hst89 ?_ ?_ ?_)
        · exact fun ix _ _ _ _ _ _ hs hb hx h => match ix, h with
          | 6, h => by dsimp only at h ⊢; rw [← hs 154 rfl, ← hb 154 rfl, ← hx 12 rfl]; exact h
          | 7, h => by dsimp only at h ⊢; rw [← hs 155 rfl, ← hb 155 rfl, ← hx 13 rfl]; exact h
          | 8, h => by dsimp only at h ⊢; rw [← hs 29 rfl, ← hb 155 rfl]; exact h
          | 0, _ | 1, _ | 2, _ | 3, _ | 4, _ | 5, _ | _ + 9, _ => trivial
        · refine ⟨?_, ?_, ?_, ?_, ?_, ?_, trivial⟩
          · exact xs4 rfl id fun cx => run_indexSlM (e := 66) (m := qq) (sz := 4) rfl (by kernel_rfl) (by kernel_rfl) (cx.an 1) (cx.an 2) (by omega) (by omega) (At.of_ownN (cx.ri 3 rfl)) (by have h_ := flatLen (f := cellsH) (sz := 4) cellsH_len Rw; show 0 < (List.flatMap cellsH Rw).length; omega)
          · exact xs4 rfl id fun cx => run_fieldAd rfl (by kernel_rfl) (cx.an 3)
          · exact xs4 rfl id fun cx => run_loadElt (f := cellsH) (m := qq) (sz := 4) (off := 2) (n := 2) rfl (by kernel_rfl) (by kernel_rfl) (cx.an 4) rfl cellsH_len (At.of_ownN (cx.ri 3 rfl)) hrk (fun k hk => match k, hk with | 0, _ => rfl | 1, _ => rfl | k + 2, hk => absurd hk (by omega))
          · refine sv_any rfl rfl fun ρ β W X cx => ?_
            have fF153 : ρ (.tmp 153) = .agg #[vi p, vi s] := (cx.an 5)
            exact dv_litN (e := 24) (sz := 2) (xs := [vi p, vi s]) rfl (by simp [go_sem, fF153]) rfl (by decide) rfl rfl (fun σ β' X' hs hb hv hx => ⟨hv, hx⟩)
          · refine sv_any rfl rfl fun ρ β W X cx => ?_
            obtain ⟨i0, hi0, hz0, hz1, hz2⟩ := info_parts infoTIDp
            refine dv_appendN (n := vn) (m := 1) (nm := vn + 1) (sz := 2) (xs := vl.flatMap cellsT2) (news := cellsT2 (p, s)) (xs' := (vl ++ [(p, s)]).flatMap cellsT2) rfl (ty := 73) rfl (by kernel_rfl) hi0 hz0 hz1 hz2 rfl (by decide) (cx.an 0) cx (cx.init 11 _ rfl) rfl (dTn (cx.an 6)).1 (by rfl) (At.of_ownN (cx.row (dTn (cx.an 6)).2 rfl)) (by simp [cellsH, cellsS, cellsT2, Value.oneCell']) (by simp only [maxLen]; omega) (by omega) rfl rfl rfl (by omega) (tid_snoc _ _) (fun σ β' X' hs hb hv hx => ?_)
            exact ⟨hv, hx⟩
          · exact sv rfl rfl rfl rfl rfl _ (fun _ _ _ h => h) (fun β β' h => by rw [h 155 (by decide)]) fun ρ β W X cx => run_assign' rfl (dTn (cx.an 7)).1
        intro σ β X W91 hD hst91 fr hfr
        obtain ⟨B154_91, hu_B154_91⟩ : ∃ z, pb' (β 154) = z := ⟨_, rfl⟩
        obtain ⟨A155_91, hu_A155_91⟩ : ∃ z, sA (β 155) = z := ⟨_, rfl⟩
        obtain ⟨c155_91, hu_c155_91⟩ : ∃ z, sC (β 155) = z := ⟨_, rfl⟩
        simp only [exq 12 ((dTn (hD 6 lq)).2), exq 13 ((dTn (hD 7 lq)).2), hu_B154_91, hu_A155_91, hu_c155_91] at hst91
        simp only [ed 154 ((dTn (hD 6 lq)).1), ed 155 ((dTn (hD 7 lq)).1), ed 29 ((dTn (hD 8 lq))), hu_B154_91, hu_A155_91, hu_c155_91] at hfr
        clear hD hu_B154_91 hu_A155_91 hu_c155_91; subst hfr; clear σ β X
        refine blk_normal (then_normal (wp_region_P [0, 1, 3] [.k 120 (vi ((qq : Int))), tI 121 ((qq : Int) + 1) (by omega), .k 30 (vi ((qq : Int) + 1))] [(30, 2, 1, 31), (89, 0, 2, 91)] hst91 fun W92 hst92 => ?_))
        refine then_normal ?_
        refine ⟨rn - ((qq + 1)), by omega, ?_⟩
        have hp93 := hst92.pick [0, 1, 2, 3, 4, 5, 6, 7, 8, 9, 10, 12] (by decide) rfl
        exact ⟨(qq + 1), (vl ++ [(p, s)]), (vn + 1), A155_91, c155_91, by omega, wl_hit hvl hrk hs90, ⟨by rw [List.length_append, hvn.1]; rfl, by omega⟩, rfl, (by kernel_rfl), hp93⟩
      have hs90p := hs90
      simp only [zB] at hs90p
      refine wp_cond_false (show Act.eval _ _ = .bool false from (congrArg Value.bool hs90)) (wp_skip (blk_normal (then_normal (wp_region_P [0, 1, 3] [.k 120 (vi ((qq : Int))), tI 121 ((qq : Int) + 1) (by omega), .k 30 (vi ((qq : Int) + 1))] [(30, 2, 1, 31), (89, 0, 2, 91)] hst89 fun W94 hst94 => ?_))))
      refine then_normal ?_
      refine ⟨rn - ((qq + 1)), by omega, ?_⟩
      have hp95 := hst94.pick [0, 1, 2, 3, 4, 5, 6, 7, 8, 9, 10, 11] (by decide) rfl
      exact ⟨(qq + 1), vl, vn, VA, VC, by omega, wl_miss hvl hrk hs90, ⟨hvn.1, by omega⟩, rfl, (by kernel_rfl), hp95⟩
    have hs88p : ¬ ((qq : Int) < (rn : Int)) := by simpa using hs88
    refine wp_cond_false (show Act.eval _ _ = .bool false from (congrArg Value.bool hs88)) (wp_exit (then_exit (then_exit (blk_eq (then_normal ?_)))))
    have hvl2 : vl = wlL (gW mB K3) Rw := by rw [hvl, List.take_of_length_le (by omega)]
    refine wp_region_Y [0, 0, 2, 7, 15] [[], [], [], [12, 4]] [[], [], [12], [13]] [[], [], [], [4]] [.k 156 (.slice WA wn WC), .k 157 (.slice VA vn VC), .a 158, .a 159, .a 10] (fun ix σ β X => match ix with | 0 => True | 1 => True | 2 => σ 158 = .slice (sA (β 158)) 1 1 ∧ X 12 = eO 73 1 (.slice (sA (β 158)) 1 1) 1 ([.slice VA vn VC]) | 3 => σ 159 = .slice (sA (β 159)) (wn + 1) (sC (β 159)) ∧ X 13 = eO 73 1 (.slice (sA (β 159)) (wn + 1) (sC (β 159))) (wn + 1) ((ww ++ [(vl, VA, VC)]).map cellW) | 4 => σ 10 = .slice (sA (β 159)) (wn + 1) (sC (β 159)) | _ => True) [0, 1, 2, 3, 5, 6, 7, 8, 9, 10, 11, 12, 13] [2, 3, 4] [(10, 4, 1, 11), (145, 0, 4, 149)] hst87 ?_ ?_ ?_
    · exact fun ix _ _ _ _ _ _ hs hb hx h => match ix, h with
      | 2, h => by dsimp only at h ⊢; rw [← hs 158 rfl, ← hb 158 rfl, ← hx 12 rfl]; exact h
      | 3, h => by dsimp only at h ⊢; rw [← hs 159 rfl, ← hb 159 rfl, ← hx 13 rfl]; exact h
      | 4, h => by dsimp only at h ⊢; rw [← hs 10 rfl, ← hb 159 rfl]; exact h
      | 0, _ | 1, _ | _ + 5, _ => trivial
    · refine ⟨?_, ?_, ?_, trivial⟩
      · refine sv_any rfl rfl fun ρ β W X cx => ?_
        have fF157 : ρ (.tmp 157) = .slice VA vn VC := (cx.an 1)
        exact dv_lit (e := 73) (xs := [.slice VA vn VC]) rfl (by simp [go_sem, fF157]) rfl (by decide) rfl rfl (fun σ β' X' hs hb hv hx => ⟨hv, hx⟩)
      · refine sv_any rfl rfl fun ρ β W X cx => ?_
        obtain ⟨i0, hi0, hz0, hz1, hz2⟩ := info_parts infoTIDs
        refine dv_append (n := wn) (m := 1) (nm := wn + 1) (xs := ww.map cellW) (news := [.slice VA vn VC]) (xs' := (ww ++ [(vl, VA, VC)]).map cellW) rfl (ty := 59) rfl (by kernel_rfl) hi0 hz0 hz1 hz2 rfl (cx.an 0) cx (cx.init 4 _ rfl) rfl (dTn (cx.an 2)).1 (by first | (simp; done) | (simp; omega)) (At.of_own (cx.row (dTn (cx.an 2)).2 rfl)) (by simp [cellsH, cellsS, cellsT2, Value.oneCell']) (by simp only [maxLen]; omega) (by omega) rfl rfl rfl (by omega) (by rw [hvn.1]; exact wk_snoc ww (vl, VA, VC)) (fun σ β' X' hs hb hv hx => ?_)
        exact ⟨hv, hx⟩
      · exact sv rfl rfl rfl rfl rfl _ (fun _ _ _ h => h) (fun β β' h => by rw [h 159 (by decide)]) fun ρ β W X cx => run_assign' rfl (dTn (cx.an 3)).1
    intro σ β X W96 hD hst96 fr hfr
    obtain ⟨A158_96, hu_A158_96⟩ : ∃ z, sA (β 158) = z := ⟨_, rfl⟩
    obtain ⟨A159_96, hu_A159_96⟩ : ∃ z, sA (β 159) = z := ⟨_, rfl⟩
    obtain ⟨c159_96, hu_c159_96⟩ : ∃ z, sC (β 159) = z := ⟨_, rfl⟩
    simp only [exq 12 ((dTn (hD 2 lq)).2), exq 13 ((dTn (hD 3 lq)).2), hu_A158_96, hu_A159_96, hu_c159_96] at hst96
    simp only [ed 158 ((dTn (hD 2 lq)).1), ed 159 ((dTn (hD 3 lq)).1), ed 10 ((dTn (hD 4 lq))), hu_A158_96, hu_A159_96, hu_c159_96] at hfr
    clear hD hu_A158_96 hu_A159_96 hu_c159_96; subst hfr; clear σ β X
    refine blk_normal (blk_normal (then_normal (wp_region_P [0, 1, 3] [.k 55 (vi ((ii : Int))), tI 56 ((ii : Int) + 1) (by omega), .k 11 (vi ((ii : Int) + 1))] [(11, 2, 1, 12), (43, 0, 2, 45)] hst96 fun W97 hst97 => ?_)))
    refine then_normal ?_
    have hmW_ := St.mergeW (L := [eB B5_4 30 #[.slice PA 8 PC], eM R, eO 3 1 (.slice NA P NC) P ((rangeI P).map (Value.int .i64)), eO 66 4 (.slice RA rn RC) rn (Rw.flatMap cellsH), eB B40_3 114 (clockL 3 (rAt 3 mB) K3).toArray, eB B8_7 57 ((who2.set a 0).map (Value.int .i64)).toArray, eO 69 2 (.slice ((some ⟨B113_82, 0, none⟩)) 1 1) 1 (cellsS (((rAt 3 mB), (liveL K3 (ringL 3 (rAt 3 mB)))), A112_82, c112_82)), eO 69 2 (.slice A114_82 (sn + 1) c114_82) (sn + 1) ((ss ++ [(((rAt 3 mB), (liveL K3 (ringL 3 (rAt 3 mB)))), A112_82, c112_82)]).flatMap cellsS), eSS (ss ++ [((rAt 3 mB, (liveL K3 (ringL 3 (rAt 3 mB)))), A112_82, c112_82)]), eO 73 1 (.slice A158_96 1 1) 1 ([.slice VA vn VC]), eO 73 1 (.slice A159_96 (wn + 1) c159_96) (wn + 1) ((ww ++ [(vl, VA, VC)]).map cellW)]) hvn.1 (hst97.pick [0, 1, 2, 3, 5, 6, 7, 8, 9, 11, 12, 4, 10] (by decide) rfl)
    simp only [List.cons_append, List.nil_append] at hmW_
    have hA5 : AInv mB K3 (who2.set a 0) G Rw ((ss ++ [((rAt 3 mB, (liveL K3 (ringL 3 (rAt 3 mB)))), A112_82, c112_82)]).map Prod.fst) ((ww ++ [(vl, VA, VC)]).map Prod.fst) := by rw [List.map_append, List.map_append, List.map_singleton, List.map_singleton, hvl2]; exact hA4
    refine ⟨60 - ((ii + 1)), by omega, ?_⟩
    have hp98 := hmW_.pick [4, 0, 5, 1, 2, 3, 7, 8, 10, 11] (by decide) rfl
    exact ⟨(ii + 1), mB, K3, (who2.set a 0), R, Ps, PA, PC, G, P, NA, NC, Rw, rn, RA, RC, (ss ++ [((rAt 3 mB, (liveL K3 (ringL 3 (rAt 3 mB)))), A112_82, c112_82)]), (sn + 1), A114_82, c114_82, (ww ++ [(vl, VA, VC)]), (wn + 1), A159_96, c159_96, by omega, by omega, hm2, hA5, hPg, hPs, hPL, ⟨hrn.1, by omega⟩, ⟨by rw [List.length_append, hsn.1]; rfl, by omega⟩, ⟨by rw [List.length_append, hwn.1]; rfl, by omega⟩, sl_snoc hsl (snap_len 3 (rAt 3 mB) K3), rfl, (by kernel_rfl), hp98⟩
  have hs14p := hs14
  simp only [zB] at hs14p
  refine wp_cond_false (show Act.eval _ _ = .bool false from (congrArg Value.bool hs14)) (wp_exit (then_exit (then_exit (blk_eq (then_normal (wp_seq (wp_seq (wp_region_P [0] [.k 31 (vi 0)] [(31, 0, 1, 32)] hst13 fun W99 hst99 => ?_))))))))
  refine then_normal (wp_block ?_)
  have hokP : okH (Ps.map absP) := by rw [hPs]; exact hA.ag.ok
  have hlP8 : Ps.length = 8 := by have h_ := congrArg List.length hPs; rw [List.length_map, agH_len hA.ag.len] at h_; exact h_
  have hlP : Ps.length ≤ 1000 := by omega
  have hsw : ss.length = ww.length := by have h_ := hA.sl; rw [List.length_map, List.length_map] at h_; exact h_
  refine wp_loopN (fun mz az W => ∃ jj : Nat, jj ≤ sn ∧ mz = sn - jj ∧ az = ⟨#[.slice LA ls.length lc, undef, jv az 2, .bool true, vp B40_3, vp B5_4, .slice NA P NC, .slice RA rn RC, vp B8_7, .slice SA sn SC, .slice WA wn WC, vi ((ii : Int)), u11_ 12, u11_ 13, u11_ 14, u11_ 15, u11_ 16, u11_ 17, u11_ 18, u11_ 19, u11_ 20, u11_ 21, u11_ 22, u11_ 23, u11_ 24, u11_ 25, u11_ 26, u11_ 27, u11_ 28, u11_ 29, u11_ 30, vi ((jj : Int)), jv az 32, jv az 33, jv az 34, jv az 35, jv az 36, jv az 37, jv az 38, .bool true, vp B40_3, .agg #[.slice A41_4 8 8], .slice A42_5 0 0, .slice ((some ⟨B43_6, 0, none⟩)) 0 0, .agg #[vi 0, vi 0, vi 0, vi 0], .slice ((some ⟨B45_8, 0, none⟩)) 0 0, .slice A46_9 0 0, vi ((ii : Int)), .slice LA ls.length lc, vi ((ls.length : Int)), .bool (decide ((ii : Int) < (ls.length : Int))), .bool (decide ((ii : Int) < (ls.length : Int))), mb (decide ((ii : Int) < (ls.length : Int))) (vi ((ii : Int))), mb (decide ((ii : Int) < (ls.length : Int))) (.bool (decide ((ii : Int) < 60))), .bool ((decide ((ii : Int) < (ls.length : Int))) && (decide ((ii : Int) < 60))), u11_ 55, u11_ 56, u11_ 57, u11_ 58, u11_ 59, u11_ 60, u11_ 61, u11_ 62, u11_ 63, u11_ 64, u11_ 65, u11_ 66, u11_ 67, u11_ 68, u11_ 69, u11_ 70, u11_ 71, u11_ 72, u11_ 73, u11_ 74, u11_ 75, u11_ 76, u11_ 77, u11_ 78, u11_ 79, u11_ 80, u11_ 81, u11_ 82, u11_ 83, u11_ 84, u11_ 85, u11_ 86, u11_ 87, u11_ 88, u11_ 89, u11_ 90, u11_ 91, u11_ 92, u11_ 93, u11_ 94, u11_ 95, u11_ 96, u11_ 97, u11_ 98, u11_ 99, u11_ 100, u11_ 101, u11_ 102, u11_ 103, u11_ 104, u11_ 105, u11_ 106, u11_ 107, u11_ 108, u11_ 109, u11_ 110, u11_ 111, u11_ 112, u11_ 113, u11_ 114, u11_ 115, u11_ 116, u11_ 117, u11_ 118, u11_ 119, u11_ 120, u11_ 121, u11_ 122, u11_ 123, u11_ 124, u11_ 125, u11_ 126, u11_ 127, u11_ 128, u11_ 129, u11_ 130, u11_ 131, u11_ 132, u11_ 133, u11_ 134, u11_ 135, u11_ 136, u11_ 137, u11_ 138, u11_ 139, u11_ 140, u11_ 141, u11_ 142, u11_ 143, u11_ 144, u11_ 145, u11_ 146, u11_ 147, u11_ 148, u11_ 149, u11_ 150, u11_ 151, u11_ 152, u11_ 153, u11_ 154, u11_ 155, u11_ 156, u11_ 157, u11_ 158, u11_ 159, u11_ 160, u11_ 161, u11_ 162, u11_ 163, u11_ 164, u11_ 165, u11_ 166, u11_ 167, u11_ 168, u11_ 169, u11_ 170, u11_ 171, u11_ 172, u11_ 173, u11_ 174, u11_ 175, u11_ 176, u11_ 177, u11_ 178, u11_ 179, u11_ 180, u11_ 181, u11_ 182, u11_ 183, u11_ 184, u11_ 185, u11_ 186, u11_ 187, u11_ 188, u11_ 189, u11_ 190, u11_ 191, u11_ 192, u11_ 193, u11_ 194, u11_ 195, u11_ 196, u11_ 197, u11_ 198, u11_ 199, u11_ 200, u11_ 201, u11_ 202, u11_ 203, u11_ 204, u11_ 205, u11_ 206, u11_ 207, u11_ 208, u11_ 209, u11_ 210, u11_ 211, u11_ 212, u11_ 213, u11_ 214, u11_ 215, u11_ 216, u11_ 217, u11_ 218, u11_ 219, u11_ 220, u11_ 221, u11_ 222, u11_ 223, u11_ 224, u11_ 225, u11_ 226, u11_ 227, u11_ 228, u11_ 229, u11_ 230, u11_ 231, u11_ 232, u11_ 233, u11_ 234, u11_ 235, u11_ 236, u11_ 237, u11_ 238, u11_ 239, u11_ 240, u11_ 241, u11_ 242, u11_ 243, u11_ 244, u11_ 245, u11_ 246, u11_ 247, u11_ 248, u11_ 249, u11_ 250, u11_ 251, u11_ 252, u11_ 253, u11_ 254, u11_ 255, u11_ 256, u11_ 257, u11_ 258, u11_ 259, u11_ 260, u11_ 261, u11_ 262, u11_ 263, u11_ 264, u11_ 265, u11_ 266, u11_ 267, u11_ 268, u11_ 269, u11_ 270, u11_ 271, u11_ 272, u11_ 273, u11_ 274, u11_ 275, u11_ 276, u11_ 277, u11_ 278, u11_ 279, u11_ 280, u11_ 281, u11_ 282, u11_ 283, u11_ 284, u11_ 285, u11_ 286, u11_ 287, u11_ 288, u11_ 289, u11_ 290, u11_ 291, u11_ 292, u11_ 293, u11_ 294, u11_ 295, u11_ 296, u11_ 297, u11_ 298, u11_ 299, u11_ 300, u11_ 301, jv az 302, jv az 303, jv az 304, jv az 305, jv az 306, jv az 307, jv az 308, jv az 309, jv az 310, jv az 311, jv az 312, jv az 313, jv az 314, jv az 315, jv az 316, jv az 317, jv az 318, jv az 319, jv az 320, jv az 321, jv az 322, jv az 323, jv az 324, jv az 325, jv az 326, jv az 327, jv az 328, jv az 329, jv az 330, jv az 331, jv az 332, jv az 333, jv az 334, jv az 335, jv az 336, jv az 337, jv az 338, jv az 339, jv az 340, jv az 341, jv az 342, jv az 343, jv az 344, jv az 345, jv az 346, jv az 347, jv az 348, jv az 349, jv az 350, jv az 351, jv az 352, jv az 353, jv az 354, jv az 355, jv az 356, jv az 357, jv az 358, jv az 359, jv az 360, jv az 361, jv az 362, jv az 363, jv az 364, jv az 365, jv az 366, jv az 367, jv az 368, jv az 369, jv az 370, jv az 371, jv az 372, jv az 373, jv az 374, jv az 375, jv az 376, jv az 377, jv az 378, jv az 379, jv az 380, jv az 381, jv az 382, undef], []⟩ ∧ St w [] [eB B40_3 114 (clockL 3 (rAt 3 m) K).toArray, eB B5_4 30 #[.slice PA 8 PC], eB B8_7 57 (who.map (Value.int .i64)).toArray, eM R, eO 3 1 (.slice NA P NC) P ((rangeI P).map (Value.int .i64)), eO 66 4 (.slice RA rn RC) rn (Rw.flatMap cellsH), eO 69 2 (.slice SA sn SC) sn (ss.flatMap cellsS), eSS ss, eO 73 1 (.slice WA wn WC) wn (ww.map cellW), eWW ww] W) (sn - 0) ?_ ?_
  · -- the loop begins
    have hp101 := hst99.pick [0, 1, 2, 3, 4, 5, 6, 7, 8, 9] (by decide) rfl
    exact ⟨0, Nat.zero_le _, rfl, (by kernel_rfl), hp101⟩
  rintro n100 a100 W100 ⟨jj, hjj, rfl, hj_, hst100⟩
  obtain ⟨u100_, hu_⟩ : ∃ z, jv a100 = z := ⟨_, rfl⟩
  rw [hu_] at hj_; clear hu_; subst hj_
  refine wp_seq (wp_seq (wp_region_P [0, 0, 2, 7] [.k 302 (vi ((jj : Int))), .k 303 (.slice SA sn SC), .k 304 (vi ((sn : Int))), .k 305 (.bool (decide ((jj : Int) < (sn : Int))))] [(302, 0, 4, 306)] hst100 fun W102 hst102 => ?_))
  refine then_normal ?_
  rcases Bool.eq_false_or_eq_true (decide ((jj : Int) < (sn : Int))) with hs103 | hs103
  · skip
    have hs103p : (jj : Int) < (sn : Int) := by simpa using hs103
    refine wp_cond_true (show Act.eval _ _ = .bool true from (congrArg Value.bool hs103)) (wp_skip (then_normal (wp_seq (wp_block (wp_seq ?_)))))
    obtain ⟨⟨⟨shi, slv⟩, sA9, sC9⟩, hsk⟩ := some_of (l := ss) (k := jj) (by omega)
    obtain ⟨⟨wl, wA9, wC9⟩, hwk⟩ := some_of (l := ww) (k := jj) (by omega)
    have hjs : jj < (ss.map Prod.fst).length := by rw [List.length_map]; omega
    have hwa := ai_want hA hjs
    have hcn := ai_count hA hjs
    have hw1 : (ww.map Prod.fst).getD jj [] = wl := getD_of (by rw [List.getElem?_map, hwk]; rfl)
    have hs1_ : (ss.map Prod.fst).getD jj snd0 = (shi, slv) := getD_of (by rw [List.getElem?_map, hsk]; rfl)
    rw [hw1, hs1_] at hwa hcn
    dsimp only at hwa hcn
    have hwb : wl.length ≤ 60 := by rw [← hcn, hA.cnt]; exact Nat.le_trans List.countP_le_length (by omega)
    have hslv : slv.length ≤ 124 := hsl _ (List.mem_of_getElem? hsk)
    refine wp_region_P [0] [.k 32 (vi 0)] [(32, 0, 1, 33)] hst102 fun W104 hst104 => ?_
    refine then_normal (wp_seq (wp_seq (wp_region_P [0] [.k 33 (vi 0)] [(33, 0, 1, 34)] hst104 fun W105 hst105 => ?_)))
    refine then_normal (wp_block ?_)
    refine wp_loopN (fun mz az W => ∃ kw : Nat, kw ≤ wl.length ∧ mz = wl.length - kw ∧ az = ⟨#[.slice LA ls.length lc, undef, jv az 2, .bool true, vp B40_3, vp B5_4, .slice NA P NC, .slice RA rn RC, vp B8_7, .slice SA sn SC, .slice WA wn WC, vi ((ii : Int)), u11_ 12, u11_ 13, u11_ 14, u11_ 15, u11_ 16, u11_ 17, u11_ 18, u11_ 19, u11_ 20, u11_ 21, u11_ 22, u11_ 23, u11_ 24, u11_ 25, u11_ 26, u11_ 27, u11_ 28, u11_ 29, u11_ 30, vi ((jj : Int)), vi 0, vi ((kw : Int)), jv az 34, jv az 35, u100_ 36, u100_ 37, u100_ 38, .bool true, vp B40_3, .agg #[.slice A41_4 8 8], .slice A42_5 0 0, .slice ((some ⟨B43_6, 0, none⟩)) 0 0, .agg #[vi 0, vi 0, vi 0, vi 0], .slice ((some ⟨B45_8, 0, none⟩)) 0 0, .slice A46_9 0 0, vi ((ii : Int)), .slice LA ls.length lc, vi ((ls.length : Int)), .bool (decide ((ii : Int) < (ls.length : Int))), .bool (decide ((ii : Int) < (ls.length : Int))), mb (decide ((ii : Int) < (ls.length : Int))) (vi ((ii : Int))), mb (decide ((ii : Int) < (ls.length : Int))) (.bool (decide ((ii : Int) < 60))), .bool ((decide ((ii : Int) < (ls.length : Int))) && (decide ((ii : Int) < 60))), u11_ 55, u11_ 56, u11_ 57, u11_ 58, u11_ 59, u11_ 60, u11_ 61, u11_ 62, u11_ 63, u11_ 64, u11_ 65, u11_ 66, u11_ 67, u11_ 68, u11_ 69, u11_ 70, u11_ 71, u11_ 72, u11_ 73, u11_ 74, u11_ 75, u11_ 76, u11_ 77, u11_ 78, u11_ 79, u11_ 80, u11_ 81, u11_ 82, u11_ 83, u11_ 84, u11_ 85, u11_ 86, u11_ 87, u11_ 88, u11_ 89, u11_ 90, u11_ 91, u11_ 92, u11_ 93, u11_ 94, u11_ 95, u11_ 96, u11_ 97, u11_ 98, u11_ 99, u11_ 100, u11_ 101, u11_ 102, u11_ 103, u11_ 104, u11_ 105, u11_ 106, u11_ 107, u11_ 108, u11_ 109, u11_ 110, u11_ 111, u11_ 112, u11_ 113, u11_ 114, u11_ 115, u11_ 116, u11_ 117, u11_ 118, u11_ 119, u11_ 120, u11_ 121, u11_ 122, u11_ 123, u11_ 124, u11_ 125, u11_ 126, u11_ 127, u11_ 128, u11_ 129, u11_ 130, u11_ 131, u11_ 132, u11_ 133, u11_ 134, u11_ 135, u11_ 136, u11_ 137, u11_ 138, u11_ 139, u11_ 140, u11_ 141, u11_ 142, u11_ 143, u11_ 144, u11_ 145, u11_ 146, u11_ 147, u11_ 148, u11_ 149, u11_ 150, u11_ 151, u11_ 152, u11_ 153, u11_ 154, u11_ 155, u11_ 156, u11_ 157, u11_ 158, u11_ 159, u11_ 160, u11_ 161, u11_ 162, u11_ 163, u11_ 164, u11_ 165, u11_ 166, u11_ 167, u11_ 168, u11_ 169, u11_ 170, u11_ 171, u11_ 172, u11_ 173, u11_ 174, u11_ 175, u11_ 176, u11_ 177, u11_ 178, u11_ 179, u11_ 180, u11_ 181, u11_ 182, u11_ 183, u11_ 184, u11_ 185, u11_ 186, u11_ 187, u11_ 188, u11_ 189, u11_ 190, u11_ 191, u11_ 192, u11_ 193, u11_ 194, u11_ 195, u11_ 196, u11_ 197, u11_ 198, u11_ 199, u11_ 200, u11_ 201, u11_ 202, u11_ 203, u11_ 204, u11_ 205, u11_ 206, u11_ 207, u11_ 208, u11_ 209, u11_ 210, u11_ 211, u11_ 212, u11_ 213, u11_ 214, u11_ 215, u11_ 216, u11_ 217, u11_ 218, u11_ 219, u11_ 220, u11_ 221, u11_ 222, u11_ 223, u11_ 224, u11_ 225, u11_ 226, u11_ 227, u11_ 228, u11_ 229, u11_ 230, u11_ 231, u11_ 232, u11_ 233, u11_ 234, u11_ 235, u11_ 236, u11_ 237, u11_ 238, u11_ 239, u11_ 240, u11_ 241, u11_ 242, u11_ 243, u11_ 244, u11_ 245, u11_ 246, u11_ 247, u11_ 248, u11_ 249, u11_ 250, u11_ 251, u11_ 252, u11_ 253, u11_ 254, u11_ 255, u11_ 256, u11_ 257, u11_ 258, u11_ 259, u11_ 260, u11_ 261, u11_ 262, u11_ 263, u11_ 264, u11_ 265, u11_ 266, u11_ 267, u11_ 268, u11_ 269, u11_ 270, u11_ 271, u11_ 272, u11_ 273, u11_ 274, u11_ 275, u11_ 276, u11_ 277, u11_ 278, u11_ 279, u11_ 280, u11_ 281, u11_ 282, u11_ 283, u11_ 284, u11_ 285, u11_ 286, u11_ 287, u11_ 288, u11_ 289, u11_ 290, u11_ 291, u11_ 292, u11_ 293, u11_ 294, u11_ 295, u11_ 296, u11_ 297, u11_ 298, u11_ 299, u11_ 300, u11_ 301, vi ((jj : Int)), .slice SA sn SC, vi ((sn : Int)), .bool (decide ((jj : Int) < (sn : Int))), u100_ 306, u100_ 307, jv az 308, jv az 309, jv az 310, jv az 311, jv az 312, jv az 313, jv az 314, jv az 315, jv az 316, jv az 317, jv az 318, jv az 319, jv az 320, jv az 321, jv az 322, jv az 323, jv az 324, jv az 325, jv az 326, jv az 327, jv az 328, jv az 329, jv az 330, jv az 331, jv az 332, jv az 333, jv az 334, jv az 335, jv az 336, jv az 337, jv az 338, jv az 339, jv az 340, jv az 341, jv az 342, u100_ 343, u100_ 344, u100_ 345, u100_ 346, u100_ 347, u100_ 348, u100_ 349, u100_ 350, u100_ 351, u100_ 352, u100_ 353, u100_ 354, u100_ 355, u100_ 356, u100_ 357, u100_ 358, u100_ 359, u100_ 360, u100_ 361, u100_ 362, u100_ 363, u100_ 364, u100_ 365, u100_ 366, u100_ 367, u100_ 368, u100_ 369, u100_ 370, u100_ 371, u100_ 372, u100_ 373, u100_ 374, u100_ 375, u100_ 376, u100_ 377, u100_ 378, u100_ 379, u100_ 380, u100_ 381, u100_ 382, undef], []⟩ ∧ St w [] [eB B40_3 114 (clockL 3 (rAt 3 m) K).toArray, eB B5_4 30 #[.slice PA 8 PC], eB B8_7 57 (who.map (Value.int .i64)).toArray, eM R, eO 3 1 (.slice NA P NC) P ((rangeI P).map (Value.int .i64)), eO 66 4 (.slice RA rn RC) rn (Rw.flatMap cellsH), eO 69 2 (.slice SA sn SC) sn (ss.flatMap cellsS), eSS ss, eO 73 1 (.slice WA wn WC) wn (ww.map cellW), eWW ww] W) (wl.length - 0) ?_ ?_
    · -- the loop begins
      have hp107 := hst105.pick [0, 1, 2, 3, 4, 5, 6, 7, 8, 9] (by decide) rfl
      exact ⟨0, Nat.zero_le _, rfl, (by kernel_rfl), hp107⟩
    rintro n106 a106 W106 ⟨kw, hkw, rfl, hj_, hst106⟩
    obtain ⟨u106_, hu_⟩ : ∃ z, jv a106 = z := ⟨_, rfl⟩
    rw [hu_] at hj_; clear hu_; subst hj_
    refine wp_seq (wp_seq (wp_region_Z [0, 0, 0, 6, 14, 30, 63] [[], [], [], [8], [8]] [.k 308 (vi ((kw : Int))), .k 309 (.slice WA wn WC), .k 310 (vi ((jj : Int))), .c 311 (.pointer (some ((ad WA).add jj))), .c 312 (.slice wA9 wl.length wC9), .k 313 (vi ((wl.length : Int))), .k 314 (.bool (decide ((kw : Int) < (wl.length : Int))))] [0, 1, 2, 3, 4, 5, 6, 7, 8, 9] [3, 4] [(308, 0, 7, 315)] hst106 ?_ fun W108 hst108 => ?_))
    · refine ⟨?_, ?_, trivial⟩
      · exact xs4 rfl id fun cx => run_indexSl (e := 73) (m := jj) rfl (by kernel_rfl) (by kernel_rfl) (cx.an 1) (cx.an 2) (by omega) (by omega) (At.of_own (cx.ri 8 rfl)) (by first | (simp [rng_len]; done) | (simp [rng_len]; omega))
      · exact xs4 rfl id fun cx => run_load1 rfl (by kernel_rfl) (cx.an 3) (At.cellAd (At.of_own (cx.ri 8 rfl)) (wk_at hwk))
    refine then_normal ?_
    rcases Bool.eq_false_or_eq_true (decide ((kw : Int) < (wl.length : Int))) with hs109 | hs109
    · skip
      have hs109p : (kw : Int) < (wl.length : Int) := by simpa using hs109
      refine wp_cond_true (show Act.eval _ _ = .bool true from (congrArg Value.bool hs109)) (wp_skip (then_normal (wp_seq (wp_block (wp_seq ?_)))))
      obtain ⟨⟨tp, ts⟩, htk⟩ := some_of (l := wl) (k := kw) (by omega)
      obtain ⟨n, s, x, y, rs, hte, hnG, hs1, hag, hvs⟩ := hwa _ (List.mem_of_getElem? htk)
      obtain ⟨rfl, rfl⟩ : tp = (n : Int) ∧ ts = (s : Int) := by simpa using hte
      have hatk := ag_at' hA.ag hnG hs1 hag
      refine wp_region_Y [0, 1, 0, 0, 12, 28, 0, 124, 252, 511, 1023, 2047, 2047, 0, 12287, 32767] [[1], [], [], [], [8], [8], [], [9], [9], [3], [], [], [], [], [11]] [[], [], [], [], [], [], [], [], [], [10], [], [], [], [11], [12]] [[], [], [], [], [], [], [], [], [], [], [], [], [], [], [11]] [.c 318 (.agg #[.slice PA 8 PC]), .c 319 (.iface 30 (.agg #[.slice PA 8 PC])), .k 320 (.slice WA wn WC), .k 321 (vi ((jj : Int))), .c 322 (.pointer (some ((ad WA).add jj))), .c 323 (.slice wA9 wl.length wC9), .k 324 (vi ((kw : Int))), .c 325 (.pointer (some ((ad wA9).add (kw * 2)))), .c 326 (.agg #[vi ((n : Int)), vi ((s : Int))]), .a 327, .a 317, .a 328, .c 329 (.bool true), .a 34, .n, .k 35 (.bool true)] (fun ix σ β X => match ix with | 0 => True | 1 => True | 2 => True | 3 => True | 4 => True | 5 => True | 6 => True | 7 => True | 8 => True | 9 => σ 327 = .tuple #[.agg #[vi x, vi y, vi (-1), vi 0, .bool false, .slice (sA (tg (tg (β 327) 0) 5)) rs.length (sC (tg (tg (β 327) 0) 5))], .bool true] ∧ X 10 = eO 82 3 (.slice (sA (tg (tg (β 327) 0) 5)) rs.length (sC (tg (tg (β 327) 0) 5))) rs.length (flatR rs) | 10 => σ 317 = .tuple #[.agg #[vi x, vi y, vi (-1), vi 0, .bool false, .slice (sA (tg (tg (β 327) 0) 5)) rs.length (sC (tg (tg (β 327) 0) 5))], .bool true] | 11 => σ 328 = .agg #[vi x, vi y, vi (-1), vi 0, .bool false, .slice (sA (tg (tg (β 327) 0) 5)) rs.length (sC (tg (tg (β 327) 0) 5))] | 12 => True | 13 => σ 34 = vp (pb (β 34)) ∧ X 11 = eB (pb (β 34)) 41 #[vi 0, vi 0, vi 0, vi 0, .bool false, .slice none 0 0] | 14 => X 12 = eB (pb (β 34)) 41 #[vi x, vi y, vi (-1), vi 0, .bool false, .slice (sA (tg (tg (β 327) 0) 5)) rs.length (sC (tg (tg (β 327) 0) 5))] | _ => True) [0, 1, 2, 3, 4, 5, 6, 7, 8, 9, 10, 12] [0, 1, 4, 5, 7, 8, 9, 10, 11, 12, 13, 14] [(34, 13, 3, 36), (281, 10, 1, 282), (0, 0, 10, 10), (0, 11, 2, 2)] hst108 ?_ ?_ ?_
      · exact fun ix _ _ _ _ _ _ hs hb hx h => match ix, h with
        | 9, h => by dsimp only at h ⊢; rw [← hs 327 rfl, ← hb 327 rfl, ← hx 10 rfl]; exact h
        | 10, h => by dsimp only at h ⊢; rw [← hs 317 rfl, ← hb 327 rfl]; exact h
        | 11, h => by dsimp only at h ⊢; rw [← hs 328 rfl, ← hb 327 rfl]; exact h
        | 13, h => by dsimp only at h ⊢; rw [← hs 34 rfl, ← hb 34 rfl, ← hx 11 rfl]; exact h
        | 14, h => by dsimp only at h ⊢; rw [← hb 34 rfl, ← hb 327 rfl, ← hx 12 rfl]; exact h
        | 0, _ | 1, _ | 2, _ | 3, _ | 4, _ | 5, _ | 6, _ | 7, _ | 8, _ | 12, _ | _ + 15, _ => trivial
      · refine ⟨?_, ?_, ?_, ?_, ?_, ?_, ?_, ?_, ?_, ?_, ?_, ?_, trivial⟩
        · exact xs4 rfl id fun cx => run_loadB (n := 1) rfl (by kernel_rfl) (by kernel_rfl) (cx.ou 5) (cx.bi 1 rfl) (nle rfl) rfl
        · exact sv0 rfl rfl rfl rfl rfl (fun _ _ _ h => h) fun ρ β W X cx => by
            have fF318 : ρ (.tmp 318) = .agg #[.slice PA 8 PC] := (cx.an 0)
            simp [go_sem, fF318]
        · exact xs4 rfl id fun cx => run_indexSl (e := 73) (m := jj) rfl (by kernel_rfl) (by kernel_rfl) (cx.an 2) (cx.an 3) (by omega) (by omega) (At.of_own (cx.ri 8 rfl)) (by first | (simp [rng_len]; done) | (simp [rng_len]; omega))
        · exact xs4 rfl id fun cx => run_load1 rfl (by kernel_rfl) (cx.an 4) (At.cellAd (At.of_own (cx.ri 8 rfl)) (wk_at hwk))
        · exact xs4 rfl id fun cx => run_indexSlM (e := 24) (m := kw) (sz := 2) rfl (by kernel_rfl) (by kernel_rfl) (cx.an 5) (cx.an 6) (by omega) (by omega) (eWW_at (CtxV.holdE cx (cx.init 9 _ rfl) rfl) hwk) (by have h_ := flatLen (f := cellsT2) (sz := 2) cellsT2_len wl; show 0 < (List.flatMap cellsT2 wl).length; omega)
        · exact xs4 rfl id fun cx => run_loadElt (f := cellsT2) (m := kw) (sz := 2) (off := 0) (n := 2) rfl (by kernel_rfl) (by kernel_rfl) (cx.an 7) rfl cellsT2_len (eWW_at (CtxV.holdE cx (cx.init 9 _ rfl) rfl) hwk) htk (fun k hk => match k, hk with | 0, _ => rfl | 1, _ => rfl | k + 2, hk => absurd hk (by omega))
        · refine sv_any rfl rfl fun ρ β W X cx => ?_
          refine DoesU.call (run_callF (args := #[.iface 30 (.agg #[.slice PA 8 PC]), .agg #[vi ((n : Int)), vi ((s : Int))]]) rfl cx.sees rfl (by kernel_rfl) (map2 (cx.an 1) (cx.an 8))) ?_
          refine (get_eq hatk (hget_any _ _ (pvL (agH G)) (n : Int) (s : Int) _ (pgs_ok (hPg.at_ (CtxV.holdE cx (cx.init 3 _ rfl) rfl) hokP hlP) hlP8 hPs) (hN.ext cx.upd.to_ext))).mono ?_
          rintro e W1 ⟨A4, c4, rfl, ho_, hx⟩
          refine ⟨_, rfl, post_call [eO 82 3 (.slice A4 rs.length c4) rs.length (flatR rs)] rfl rfl hx (one_new (eO_new (n := rs.length) (xs := flatR rs) ho_)) (List.pairwise_singleton _ _) (fun σ β' X' hs hb hv hN => ?_)⟩
          have hv1 := (hv 327 rfl).1; have hv2 := (hv 327 rfl).2
          exact ⟨hv1.trans (by rw [hv2]; rfl), (by rw [hv2]; exact (List.cons.inj hN).1)⟩
        · exact sv rfl rfl rfl rfl rfl _ (fun _ _ _ h => h) (fun β β' h => by rw [h 327 (by decide)]) fun ρ β W X cx => run_move' rfl (dTn (cx.an 9)).1
        · exact sv rfl rfl rfl rfl rfl _ (fun _ _ _ h => h) (fun β β' h => by rw [h 327 (by decide)]) fun ρ β W X cx => run_extract' rfl (dTn (cx.an 10)) rfl
        · exact xs4 rfl id fun cx => run_extract' rfl (dTn (cx.an 10)) rfl
        · refine sv_any rfl rfl fun ρ β W X cx => ?_
          exact dv_alloc (cs := #[vi 0, vi 0, vi 0, vi 0, .bool false, .slice none 0 0]) rfl (by kernel_rfl) rfl rfl (fun σ β' X' hs hb hv hx => ⟨hv, hx⟩)
        · refine sv_any rfl rfl fun ρ β W X cx => ?_
          exact dv_store (n := 6) rfl (dTn (cx.an 13)).1 (dTn (cx.an 11)) (by kernel_rfl) (by kernel_rfl) (by kernel_rfl) cx (dTn (cx.an 13)).2 rfl (nle rfl) (by kernel_rfl) rfl rfl rfl (fun σ β' X' hs hb hx => by rw [hb 34, hb 327]; exact hx)
      intro σ β X W110 hD hst110 fr hfr
      obtain ⟨A327_110, hu_A327_110⟩ : ∃ z, sA (tg (tg (β 327) 0) 5) = z := ⟨_, rfl⟩
      obtain ⟨c327_110, hu_c327_110⟩ : ∃ z, sC (tg (tg (β 327) 0) 5) = z := ⟨_, rfl⟩
      obtain ⟨B34_110, hu_B34_110⟩ : ∃ z, pb (β 34) = z := ⟨_, rfl⟩
      simp only [exq 10 ((dTn (hD 9 lq)).2), exq 12 ((dTn (hD 14 lq))), hu_A327_110, hu_c327_110, hu_B34_110] at hst110
      simp only [ed 327 ((dTn (hD 9 lq)).1), ed 317 ((dTn (hD 10 lq))), ed 328 ((dTn (hD 11 lq))), ed 34 ((dTn (hD 13 lq)).1), hu_A327_110, hu_c327_110, hu_B34_110] at hfr
      clear hD hu_A327_110 hu_c327_110 hu_B34_110; subst hfr; clear σ β X
      refine then_normal (wp_seq ?_)
      have hd112 : (visF shi slv ([] : List Int) (stateF 3 (rAt 3 m) K) x y) = true := hvs
      refine wp_region_Z [0, 1, 3, 7, 7, 7, 55, 119, 7, 263, 1023, 2047, 4095] [[], [], [], [11], [], [], [6], [6], [], [], [7, 0]] [.k 330 (.bool true), .k 331 (.bool false), .k 332 (.bool false), .c 333 (.agg #[vi x, vi y, vi (-1), vi 0, .bool false, .slice A327_110 rs.length c327_110]), .k 334 (.slice SA sn SC), .k 335 (vi ((jj : Int))), .c 336 (.pointer (some ((ad SA).add (jj * 2)))), .c 337 (.agg #[vi shi, .slice sA9 slv.length sC9]), .k 338 (vp B40_3), .c 339 (.iface 53 (vp B40_3)), .c 340 (.bool true), .k 341 (.bool false), .k 342 (.bool false)] [0, 1, 2, 3, 4, 5, 6, 7, 8, 9, 10, 11] [3, 6, 7, 9, 10] [(330, 0, 13, 343)] hst110 ?_ fun W111 hst111 => ?_
      · refine ⟨?_, ?_, ?_, ?_, ?_, trivial⟩
        · exact xs5 rfl id (fun cx => (cx.an 2)) fun cx => run_loadB (n := 6) rfl (by kernel_rfl) (by kernel_rfl) (cx.ou 34) (cx.bi 11 rfl) (nle rfl) rfl
        · exact xs5 rfl id (fun cx => (cx.an 2)) fun cx => run_indexSlM (e := 69) (m := jj) (sz := 2) rfl (by kernel_rfl) (by kernel_rfl) (cx.an 4) (cx.an 5) (by omega) (by omega) (At.of_ownN (cx.ri 6 rfl)) (by have h_ := flatLen (f := cellsS) (sz := 2) cellsS_len ss; show 0 < (List.flatMap cellsS ss).length; omega)
        · exact xs5 rfl id (fun cx => (cx.an 2)) fun cx => run_loadElt (f := cellsS) (m := jj) (sz := 2) (off := 0) (n := 2) rfl (by kernel_rfl) (by kernel_rfl) (cx.an 6) rfl cellsS_len (At.of_ownN (cx.ri 6 rfl)) hsk (fun k hk => match k, hk with | 0, _ => rfl | 1, _ => rfl | k + 2, hk => absurd hk (by omega))
        · exact sv0_on rfl rfl rfl rfl rfl rfl (fun _ _ _ h => h) (fun _ _ _ _ cx => (cx.an 2)) fun ρ β W X cx => by
            have fF338 : ρ (.tmp 338) = vp B40_3 := (cx.an 8)
            simp [go_sem, fF338]
        · exact sv_call_on rfl rfl rfl rfl rfl rfl (fun _ _ _ h => h.trans (congrArg Value.bool hd112)) (fun _ _ _ _ cx => (cx.an 2)) fun ρ β W X cx => ⟨_, _, run_callF (args := #[.agg #[vi x, vi y, vi (-1), vi 0, .bool false, .slice A327_110 rs.length c327_110], .agg #[vi shi, .slice sA9 slv.length sC9], .slice none 0 0, .iface 53 (vp B40_3)]) rfl cx.sees rfl (by kernel_rfl) (map4 (cx.an 3) (cx.an 7) (cx.co _) (cx.an 9)), visible_any _ _ _ _ _ _ _ _ _ _ _ slv _ _ ([] : List Int) _ _ _ _ (eSS_at (CtxV.holdE cx (cx.init 7 _ rfl) rfl) hsk) (by first | omega | decide | (simp; done) | (simp; omega)) (At.nil _ _) (by first | omega | decide | (simp; done) | (simp; omega)) (clock_ok _ 3 (rAt 3 m) K _ (cx.bi 0 rfl) on3 (rAt_on 3 m) hA.kl)⟩
      refine then_normal (wp_cond_false (show Act.eval _ _ = .bool false from rfl) (wp_skip (blk_normal (then_normal (wp_region_P [0, 1, 3] [.k 315 (vi ((kw : Int))), tI 316 ((kw : Int) + 1) (by omega), .k 33 (vi ((kw : Int) + 1))] [(33, 2, 1, 34), (281, 0, 2, 283)] hst111 fun W113 hst113 => ?_)))))
      refine then_normal ?_
      refine ⟨wl.length - ((kw + 1)), by omega, ?_⟩
      have hp114 := hst113.pick [0, 1, 2, 3, 4, 5, 6, 7, 8, 9] (by decide) rfl
      exact ⟨(kw + 1), by omega, rfl, (by kernel_rfl), hp114⟩
    have hs109p : ¬ ((kw : Int) < (wl.length : Int)) := by simpa using hs109
    refine wp_cond_false (show Act.eval _ _ = .bool false from (congrArg Value.bool hs109)) (wp_exit (then_exit (then_exit (blk_eq (then_normal (wp_seq (wp_seq (wp_region_P [0] [.k 36 (vi 0)] [(36, 0, 1, 37)] hst108 fun W115 hst115 => ?_))))))))
    refine then_normal (wp_block ?_)
    refine wp_loopN (fun mz az W => ∃ cn : Nat, ∃ kp : Nat, kp ≤ P ∧ cn = cntG (visF shi slv [] (gW m K)) (G.take kp) ∧ cn ≤ kp * 24 ∧ mz = P - kp ∧ az = ⟨#[.slice LA ls.length lc, undef, u106_ 2, .bool true, vp B40_3, vp B5_4, .slice NA P NC, .slice RA rn RC, vp B8_7, .slice SA sn SC, .slice WA wn WC, vi ((ii : Int)), u11_ 12, u11_ 13, u11_ 14, u11_ 15, u11_ 16, u11_ 17, u11_ 18, u11_ 19, u11_ 20, u11_ 21, u11_ 22, u11_ 23, u11_ 24, u11_ 25, u11_ 26, u11_ 27, u11_ 28, u11_ 29, u11_ 30, vi ((jj : Int)), vi ((cn : Int)), vi ((kw : Int)), u106_ 34, u106_ 35, vi ((kp : Int)), jv az 37, jv az 38, .bool true, vp B40_3, .agg #[.slice A41_4 8 8], .slice A42_5 0 0, .slice ((some ⟨B43_6, 0, none⟩)) 0 0, .agg #[vi 0, vi 0, vi 0, vi 0], .slice ((some ⟨B45_8, 0, none⟩)) 0 0, .slice A46_9 0 0, vi ((ii : Int)), .slice LA ls.length lc, vi ((ls.length : Int)), .bool (decide ((ii : Int) < (ls.length : Int))), .bool (decide ((ii : Int) < (ls.length : Int))), mb (decide ((ii : Int) < (ls.length : Int))) (vi ((ii : Int))), mb (decide ((ii : Int) < (ls.length : Int))) (.bool (decide ((ii : Int) < 60))), .bool ((decide ((ii : Int) < (ls.length : Int))) && (decide ((ii : Int) < 60))), u11_ 55, u11_ 56, u11_ 57, u11_ 58, u11_ 59, u11_ 60, u11_ 61, u11_ 62, u11_ 63, u11_ 64, u11_ 65, u11_ 66, u11_ 67, u11_ 68, u11_ 69, u11_ 70, u11_ 71, u11_ 72, u11_ 73, u11_ 74, u11_ 75, u11_ 76, u11_ 77, u11_ 78, u11_ 79, u11_ 80, u11_ 81, u11_ 82, u11_ 83, u11_ 84, u11_ 85, u11_ 86, u11_ 87, u11_ 88, u11_ 89, u11_ 90, u11_ 91, u11_ 92, u11_ 93, u11_ 94, u11_ 95, u11_ 96, u11_ 97, u11_ 98, u11_ 99, u11_ 100, u11_ 101, u11_ 102, u11_ 103, u11_ 104, u11_ 105, u11_ 106, u11_ 107, u11_ 108, u11_ 109, u11_ 110, u11_ 111, u11_ 112, u11_ 113, u11_ 114, u11_ 115, u11_ 116, u11_ 117, u11_ 118, u11_ 119, u11_ 120, u11_ 121, u11_ 122, u11_ 123, u11_ 124, u11_ 125, u11_ 126, u11_ 127, u11_ 128, u11_ 129, u11_ 130, u11_ 131, u11_ 132, u11_ 133, u11_ 134, u11_ 135, u11_ 136, u11_ 137, u11_ 138, u11_ 139, u11_ 140, u11_ 141, u11_ 142, u11_ 143, u11_ 144, u11_ 145, u11_ 146, u11_ 147, u11_ 148, u11_ 149, u11_ 150, u11_ 151, u11_ 152, u11_ 153, u11_ 154, u11_ 155, u11_ 156, u11_ 157, u11_ 158, u11_ 159, u11_ 160, u11_ 161, u11_ 162, u11_ 163, u11_ 164, u11_ 165, u11_ 166, u11_ 167, u11_ 168, u11_ 169, u11_ 170, u11_ 171, u11_ 172, u11_ 173, u11_ 174, u11_ 175, u11_ 176, u11_ 177, u11_ 178, u11_ 179, u11_ 180, u11_ 181, u11_ 182, u11_ 183, u11_ 184, u11_ 185, u11_ 186, u11_ 187, u11_ 188, u11_ 189, u11_ 190, u11_ 191, u11_ 192, u11_ 193, u11_ 194, u11_ 195, u11_ 196, u11_ 197, u11_ 198, u11_ 199, u11_ 200, u11_ 201, u11_ 202, u11_ 203, u11_ 204, u11_ 205, u11_ 206, u11_ 207, u11_ 208, u11_ 209, u11_ 210, u11_ 211, u11_ 212, u11_ 213, u11_ 214, u11_ 215, u11_ 216, u11_ 217, u11_ 218, u11_ 219, u11_ 220, u11_ 221, u11_ 222, u11_ 223, u11_ 224, u11_ 225, u11_ 226, u11_ 227, u11_ 228, u11_ 229, u11_ 230, u11_ 231, u11_ 232, u11_ 233, u11_ 234, u11_ 235, u11_ 236, u11_ 237, u11_ 238, u11_ 239, u11_ 240, u11_ 241, u11_ 242, u11_ 243, u11_ 244, u11_ 245, u11_ 246, u11_ 247, u11_ 248, u11_ 249, u11_ 250, u11_ 251, u11_ 252, u11_ 253, u11_ 254, u11_ 255, u11_ 256, u11_ 257, u11_ 258, u11_ 259, u11_ 260, u11_ 261, u11_ 262, u11_ 263, u11_ 264, u11_ 265, u11_ 266, u11_ 267, u11_ 268, u11_ 269, u11_ 270, u11_ 271, u11_ 272, u11_ 273, u11_ 274, u11_ 275, u11_ 276, u11_ 277, u11_ 278, u11_ 279, u11_ 280, u11_ 281, u11_ 282, u11_ 283, u11_ 284, u11_ 285, u11_ 286, u11_ 287, u11_ 288, u11_ 289, u11_ 290, u11_ 291, u11_ 292, u11_ 293, u11_ 294, u11_ 295, u11_ 296, u11_ 297, u11_ 298, u11_ 299, u11_ 300, u11_ 301, vi ((jj : Int)), .slice SA sn SC, vi ((sn : Int)), .bool (decide ((jj : Int) < (sn : Int))), u100_ 306, u100_ 307, vi ((kw : Int)), .slice WA wn WC, vi ((jj : Int)), .pointer (some ((ad WA).add jj)), .slice wA9 wl.length wC9, vi ((wl.length : Int)), .bool (decide ((kw : Int) < (wl.length : Int))), u106_ 315, u106_ 316, u106_ 317, u106_ 318, u106_ 319, u106_ 320, u106_ 321, u106_ 322, u106_ 323, u106_ 324, u106_ 325, u106_ 326, u106_ 327, u106_ 328, u106_ 329, u106_ 330, u106_ 331, u106_ 332, u106_ 333, u106_ 334, u106_ 335, u106_ 336, u106_ 337, u106_ 338, u106_ 339, u106_ 340, u106_ 341, u106_ 342, jv az 343, jv az 344, jv az 345, jv az 346, jv az 347, jv az 348, jv az 349, jv az 350, jv az 351, jv az 352, jv az 353, jv az 354, jv az 355, jv az 356, jv az 357, jv az 358, jv az 359, jv az 360, jv az 361, jv az 362, jv az 363, jv az 364, jv az 365, jv az 366, jv az 367, jv az 368, jv az 369, jv az 370, jv az 371, jv az 372, jv az 373, jv az 374, jv az 375, u100_ 376, u100_ 377, u100_ 378, u100_ 379, u100_ 380, u100_ 381, u100_ 382, undef], []⟩ ∧ St w [] [eB B40_3 114 (clockL 3 (rAt 3 m) K).toArray, eB B5_4 30 #[.slice PA 8 PC], eB B8_7 57 (who.map (Value.int .i64)).toArray, eM R, eO 3 1 (.slice NA P NC) P ((rangeI P).map (Value.int .i64)), eO 66 4 (.slice RA rn RC) rn (Rw.flatMap cellsH), eO 69 2 (.slice SA sn SC) sn (ss.flatMap cellsS), eSS ss, eO 73 1 (.slice WA wn WC) wn (ww.map cellW), eWW ww] W) (P - 0) ?_ ?_
    · -- the loop begins
      have hp117 := hst115.pick [0, 1, 2, 3, 4, 5, 6, 7, 8, 9] (by decide) rfl
      exact ⟨0, 0, Nat.zero_le _, rfl, by omega, rfl, (by kernel_rfl), hp117⟩
    rintro n116 a116 W116 ⟨cn, kp, hkp, hcn2, hcb, rfl, hj_, hst116⟩
    obtain ⟨u116_, hu_⟩ : ∃ z, jv a116 = z := ⟨_, rfl⟩
    rw [hu_] at hj_; clear hu_; subst hj_
    refine wp_seq (wp_seq (wp_region_P [0, 0, 2, 7] [.k 343 (vi ((kp : Int))), .k 344 (.slice NA P NC), .k 345 (vi ((P : Int))), .k 346 (.bool (decide ((kp : Int) < (P : Int))))] [(343, 0, 4, 347)] hst116 fun W118 hst118 => ?_))
    refine then_normal ?_
    rcases Bool.eq_false_or_eq_true (decide ((kp : Int) < (P : Int))) with hs119 | hs119
    · skip
      have hs119p : (kp : Int) < (P : Int) := by simpa using hs119
      refine wp_cond_true (show Act.eval _ _ = .bool true from (congrArg Value.bool hs119)) (wp_skip (then_normal (wp_seq (wp_block (wp_seq (wp_region_Y [0, 1, 0, 0, 12, 28, 63, 127] [[1], [], [], [], [4], [4], [3]] [[], [], [], [], [], [], [10]] [] [.c 349 (.agg #[.slice PA 8 PC]), .c 350 (.iface 30 (.agg #[.slice PA 8 PC])), .k 351 (.slice NA P NC), .k 352 (vi ((kp : Int))), .c 353 (.pointer (some ((ad NA).add kp))), .c 354 (vi ((kp : Int))), .a 355, .a 37] (fun ix σ β X => match ix with | 0 => True | 1 => True | 2 => True | 3 => True | 4 => True | 5 => True | 6 => σ 355 = .slice (sA (β 355)) ((allF' (pvL (agH G) (kp : Int))).length) (sC (β 355)) ∧ X 10 = eFnd 78 (.slice (sA (β 355)) ((allF' (pvL (agH G) (kp : Int))).length) (sC (β 355))) (allF' (pvL (agH G) (kp : Int))) (kp : Int) | 7 => σ 37 = .slice (sA (β 355)) ((allF' (pvL (agH G) (kp : Int))).length) (sC (β 355)) | _ => True) [0, 1, 2, 3, 4, 5, 6, 7, 8, 9, 10] [0, 1, 4, 5, 6, 7] [(37, 7, 1, 38), (311, 0, 7, 318)] hst118 ?_ ?_ ?_))))))
      · exact fun ix _ _ _ _ _ _ hs hb hx h => match ix, h with
        | 6, h => by dsimp only at h ⊢; rw [← hs 355 rfl, ← hb 355 rfl, ← hx 10 rfl]; exact h
        | 7, h => by dsimp only at h ⊢; rw [← hs 37 rfl, ← hb 355 rfl]; exact h
        | 0, _ | 1, _ | 2, _ | 3, _ | 4, _ | 5, _ | _ + 8, _ => trivial
      · refine ⟨?_, ?_, ?_, ?_, ?_, ?_, trivial⟩
        · exact xs4 rfl id fun cx => run_loadB (n := 1) rfl (by kernel_rfl) (by kernel_rfl) (cx.ou 5) (cx.bi 1 rfl) (nle rfl) rfl
        · exact sv0 rfl rfl rfl rfl rfl (fun _ _ _ h => h) fun ρ β W X cx => by
            have fF349 : ρ (.tmp 349) = .agg #[.slice PA 8 PC] := (cx.an 0)
            simp [go_sem, fF349]
        · exact xs4 rfl id fun cx => run_indexSl (e := 3) (m := kp) rfl (by kernel_rfl) (by kernel_rfl) (cx.an 2) (cx.an 3) (by omega) (by omega) (At.of_own (cx.ri 4 rfl)) (by first | (simp [rng_len]; done) | (simp [rng_len]; omega))
        · exact xs4 rfl id fun cx => run_load1 rfl (by kernel_rfl) (cx.an 4) (At.cellAd (At.of_own (cx.ri 4 rfl)) (rng_at (by omega)))
        · refine sv_any rfl rfl fun ρ β W X cx => ?_
          refine DoesU.call (run_callF (args := #[.iface 30 (.agg #[.slice PA 8 PC]), vi ((kp : Int))]) rfl cx.sees rfl (by kernel_rfl) (map2 (cx.an 1) (cx.an 5))) ?_
          refine (hall_any _ _ (pvL (agH G)) (kp : Int) _ (pgs_ok (hPg.at_ (CtxV.holdE cx (cx.init 3 _ rfl) rfl) hokP hlP) hlP8 hPs) (hN.ext cx.upd.to_ext)).mono ?_
          rintro e W1 ⟨A4, c4, ks4, hks4, rfl, ho_, hx⟩
          refine ⟨_, rfl, post_call [eFnd 78 (.slice A4 (allF' (pvL (agH G) (kp : Int))).length c4) (allF' (pvL (agH G) (kp : Int))) (kp : Int)] rfl rfl hx (one_new (eFnd_new hks4 ho_)) (List.pairwise_singleton _ _) (fun σ β' X' hs hb hv hN => ?_)⟩
          have hv1 := (hv 355 rfl).1; have hv2 := (hv 355 rfl).2
          exact ⟨hv1.trans (by rw [hv2]; rfl), (by rw [hv2]; exact (List.cons.inj hN).1)⟩
        · exact sv rfl rfl rfl rfl rfl _ (fun _ _ _ h => h) (fun β β' h => by rw [h 355 (by decide)]) fun ρ β W X cx => run_assign' rfl (dTn (cx.an 6)).1
      intro σ β X W120 hD hst120 fr hfr
      obtain ⟨A355_120, hu_A355_120⟩ : ∃ z, sA (β 355) = z := ⟨_, rfl⟩
      obtain ⟨c355_120, hu_c355_120⟩ : ∃ z, sC (β 355) = z := ⟨_, rfl⟩
      simp only [exq 10 ((dTn (hD 6 lq)).2), hu_A355_120, hu_c355_120] at hst120
      simp only [ed 355 ((dTn (hD 6 lq)).1), ed 37 ((dTn (hD 7 lq))), hu_A355_120, hu_c355_120] at hfr
      clear hD hu_A355_120 hu_c355_120; subst hfr; clear σ β X
      refine then_normal (wp_seq (wp_region_P [0] [.k 38 (vi 0)] [(38, 0, 1, 39)] hst120 fun W121 hst121 => ?_))
      refine then_normal (wp_block ?_)
      have hal := all_le hA.ag (show kp < G.length by omega)
      obtain ⟨al, hN_al⟩ : ∃ z, (allF' (pvL (agH G) (kp : Int))) = z := ⟨_, rfl⟩
      rw [hN_al] at hst121 ⊢
      rw [hN_al] at hal
      obtain ⟨ks, hks, hmF_⟩ := St.openFnd (L1 := [eB B40_3 114 (clockL 3 (rAt 3 m) K).toArray, eB B5_4 30 #[.slice PA 8 PC], eB B8_7 57 (who.map (Value.int .i64)).toArray, eM R, eO 3 1 (.slice NA P NC) P ((rangeI P).map (Value.int .i64)), eO 66 4 (.slice RA rn RC) rn (Rw.flatMap cellsH), eO 69 2 (.slice SA sn SC) sn (ss.flatMap cellsS), eSS ss, eO 73 1 (.slice WA wn WC) wn (ww.map cellW), eWW ww]) (L2 := []) hst121
      simp only [List.cons_append, List.nil_append] at hmF_
      have hkl_ : ks.length = al.length := by have h_ := congrArg List.length hks; rw [List.length_map] at h_; exact h_
      refine wp_loopN (fun mz az W => ∃ jq : Nat, ∃ c2 : Nat, jq ≤ al.length ∧ c2 = cn + cntV (visF shi slv [] (gW m K)) (al.take jq) ∧ c2 ≤ kp * 24 + jq ∧ mz = al.length - jq ∧ az = ⟨#[.slice LA ls.length lc, undef, u106_ 2, .bool true, vp B40_3, vp B5_4, .slice NA P NC, .slice RA rn RC, vp B8_7, .slice SA sn SC, .slice WA wn WC, vi ((ii : Int)), u11_ 12, u11_ 13, u11_ 14, u11_ 15, u11_ 16, u11_ 17, u11_ 18, u11_ 19, u11_ 20, u11_ 21, u11_ 22, u11_ 23, u11_ 24, u11_ 25, u11_ 26, u11_ 27, u11_ 28, u11_ 29, u11_ 30, vi ((jj : Int)), vi ((c2 : Int)), vi ((kw : Int)), u106_ 34, u106_ 35, vi ((kp : Int)), .slice A355_120 (al.length) c355_120, vi ((jq : Int)), .bool true, vp B40_3, .agg #[.slice A41_4 8 8], .slice A42_5 0 0, .slice ((some ⟨B43_6, 0, none⟩)) 0 0, .agg #[vi 0, vi 0, vi 0, vi 0], .slice ((some ⟨B45_8, 0, none⟩)) 0 0, .slice A46_9 0 0, vi ((ii : Int)), .slice LA ls.length lc, vi ((ls.length : Int)), .bool (decide ((ii : Int) < (ls.length : Int))), .bool (decide ((ii : Int) < (ls.length : Int))), mb (decide ((ii : Int) < (ls.length : Int))) (vi ((ii : Int))), mb (decide ((ii : Int) < (ls.length : Int))) (.bool (decide ((ii : Int) < 60))), .bool ((decide ((ii : Int) < (ls.length : Int))) && (decide ((ii : Int) < 60))), u11_ 55, u11_ 56, u11_ 57, u11_ 58, u11_ 59, u11_ 60, u11_ 61, u11_ 62, u11_ 63, u11_ 64, u11_ 65, u11_ 66, u11_ 67, u11_ 68, u11_ 69, u11_ 70, u11_ 71, u11_ 72, u11_ 73, u11_ 74, u11_ 75, u11_ 76, u11_ 77, u11_ 78, u11_ 79, u11_ 80, u11_ 81, u11_ 82, u11_ 83, u11_ 84, u11_ 85, u11_ 86, u11_ 87, u11_ 88, u11_ 89, u11_ 90, u11_ 91, u11_ 92, u11_ 93, u11_ 94, u11_ 95, u11_ 96, u11_ 97, u11_ 98, u11_ 99, u11_ 100, u11_ 101, u11_ 102, u11_ 103, u11_ 104, u11_ 105, u11_ 106, u11_ 107, u11_ 108, u11_ 109, u11_ 110, u11_ 111, u11_ 112, u11_ 113, u11_ 114, u11_ 115, u11_ 116, u11_ 117, u11_ 118, u11_ 119, u11_ 120, u11_ 121, u11_ 122, u11_ 123, u11_ 124, u11_ 125, u11_ 126, u11_ 127, u11_ 128, u11_ 129, u11_ 130, u11_ 131, u11_ 132, u11_ 133, u11_ 134, u11_ 135, u11_ 136, u11_ 137, u11_ 138, u11_ 139, u11_ 140, u11_ 141, u11_ 142, u11_ 143, u11_ 144, u11_ 145, u11_ 146, u11_ 147, u11_ 148, u11_ 149, u11_ 150, u11_ 151, u11_ 152, u11_ 153, u11_ 154, u11_ 155, u11_ 156, u11_ 157, u11_ 158, u11_ 159, u11_ 160, u11_ 161, u11_ 162, u11_ 163, u11_ 164, u11_ 165, u11_ 166, u11_ 167, u11_ 168, u11_ 169, u11_ 170, u11_ 171, u11_ 172, u11_ 173, u11_ 174, u11_ 175, u11_ 176, u11_ 177, u11_ 178, u11_ 179, u11_ 180, u11_ 181, u11_ 182, u11_ 183, u11_ 184, u11_ 185, u11_ 186, u11_ 187, u11_ 188, u11_ 189, u11_ 190, u11_ 191, u11_ 192, u11_ 193, u11_ 194, u11_ 195, u11_ 196, u11_ 197, u11_ 198, u11_ 199, u11_ 200, u11_ 201, u11_ 202, u11_ 203, u11_ 204, u11_ 205, u11_ 206, u11_ 207, u11_ 208, u11_ 209, u11_ 210, u11_ 211, u11_ 212, u11_ 213, u11_ 214, u11_ 215, u11_ 216, u11_ 217, u11_ 218, u11_ 219, u11_ 220, u11_ 221, u11_ 222, u11_ 223, u11_ 224, u11_ 225, u11_ 226, u11_ 227, u11_ 228, u11_ 229, u11_ 230, u11_ 231, u11_ 232, u11_ 233, u11_ 234, u11_ 235, u11_ 236, u11_ 237, u11_ 238, u11_ 239, u11_ 240, u11_ 241, u11_ 242, u11_ 243, u11_ 244, u11_ 245, u11_ 246, u11_ 247, u11_ 248, u11_ 249, u11_ 250, u11_ 251, u11_ 252, u11_ 253, u11_ 254, u11_ 255, u11_ 256, u11_ 257, u11_ 258, u11_ 259, u11_ 260, u11_ 261, u11_ 262, u11_ 263, u11_ 264, u11_ 265, u11_ 266, u11_ 267, u11_ 268, u11_ 269, u11_ 270, u11_ 271, u11_ 272, u11_ 273, u11_ 274, u11_ 275, u11_ 276, u11_ 277, u11_ 278, u11_ 279, u11_ 280, u11_ 281, u11_ 282, u11_ 283, u11_ 284, u11_ 285, u11_ 286, u11_ 287, u11_ 288, u11_ 289, u11_ 290, u11_ 291, u11_ 292, u11_ 293, u11_ 294, u11_ 295, u11_ 296, u11_ 297, u11_ 298, u11_ 299, u11_ 300, u11_ 301, vi ((jj : Int)), .slice SA sn SC, vi ((sn : Int)), .bool (decide ((jj : Int) < (sn : Int))), u100_ 306, u100_ 307, vi ((kw : Int)), .slice WA wn WC, vi ((jj : Int)), .pointer (some ((ad WA).add jj)), .slice wA9 wl.length wC9, vi ((wl.length : Int)), .bool (decide ((kw : Int) < (wl.length : Int))), u106_ 315, u106_ 316, u106_ 317, u106_ 318, u106_ 319, u106_ 320, u106_ 321, u106_ 322, u106_ 323, u106_ 324, u106_ 325, u106_ 326, u106_ 327, u106_ 328, u106_ 329, u106_ 330, u106_ 331, u106_ 332, u106_ 333, u106_ 334, u106_ 335, u106_ 336, u106_ 337, u106_ 338, u106_ 339, u106_ 340, u106_ 341, u106_ 342, vi ((kp : Int)), .slice NA P NC, vi ((P : Int)), .bool (decide ((kp : Int) < (P : Int))), u116_ 347, u116_ 348, .agg #[.slice PA 8 PC], .iface 30 (.agg #[.slice PA 8 PC]), .slice NA P NC, vi ((kp : Int)), .pointer (some ((ad NA).add kp)), vi ((kp : Int)), .slice A355_120 (al.length) c355_120, jv az 356, jv az 357, jv az 358, jv az 359, jv az 360, jv az 361, jv az 362, jv az 363, jv az 364, jv az 365, jv az 366, jv az 367, jv az 368, jv az 369, jv az 370, jv az 371, jv az 372, jv az 373, jv az 374, jv az 375, u100_ 376, u100_ 377, u100_ 378, u100_ 379, u100_ 380, u100_ 381, u100_ 382, undef], []⟩ ∧ St w [] [eB B40_3 114 (clockL 3 (rAt 3 m) K).toArray, eB B5_4 30 #[.slice PA 8 PC], eB B8_7 57 (who.map (Value.int .i64)).toArray, eM R, eO 3 1 (.slice NA P NC) P ((rangeI P).map (Value.int .i64)), eO 66 4 (.slice RA rn RC) rn (Rw.flatMap cellsH), eO 69 2 (.slice SA sn SC) sn (ss.flatMap cellsS), eSS ss, eO 73 1 (.slice WA wn WC) wn (ww.map cellW), eWW ww, eO 78 8 (.slice A355_120 (al.length) c355_120) al.length (ks.flatMap (cellsF (kp : Int)))] W) (al.length - 0) ?_ ?_
      · -- the loop begins
        have hp123 := hmF_.pick [0, 1, 2, 3, 4, 5, 6, 7, 8, 9, 10] (by decide) rfl
        exact ⟨0, cn, Nat.zero_le _, rfl, by omega, rfl, (by kernel_rfl), hp123⟩
      rintro n122 a122 W122 ⟨jq, c2, hjq, hc2, hcb2, rfl, hj_, hst122⟩
      obtain ⟨u122_, hu_⟩ : ∃ z, jv a122 = z := ⟨_, rfl⟩
      rw [hu_] at hj_; clear hu_; subst hj_
      refine wp_seq (wp_seq (wp_region_P [0, 0, 2, 7] [.k 356 (vi ((jq : Int))), .k 357 (.slice A355_120 (al.length) c355_120), .k 358 (vi ((al.length : Int))), .k 359 (.bool (decide ((jq : Int) < (al.length : Int))))] [(356, 0, 4, 360)] hst122 fun W124 hst124 => ?_))
      refine then_normal ?_
      rcases Bool.eq_false_or_eq_true (decide ((jq : Int) < (al.length : Int))) with hs125 | hs125
      · skip
        have hs125p : (jq : Int) < (al.length : Int) := by simpa using hs125
        refine wp_cond_true (show Act.eval _ _ = .bool true from (congrArg Value.bool hs125)) (wp_skip (then_normal (wp_seq (wp_block (wp_seq ?_)))))
        obtain ⟨fx, fA, fC, hkj, haj⟩ := ks_at1 (j := jq) hks (by omega)
        refine wp_region_Z [0, 0, 3, 7, 15, 0, 0, 96, 224, 0, 512, 2047] [[], [], [10], [], [10], [], [], [6], [6], [], [], [7, 0]] [.k 362 (.slice A355_120 (al.length) c355_120), .k 363 (vi ((jq : Int))), .c 364 (.pointer (some ((ad A355_120).add (jq * 8)))), .c 365 (.pointer (some ((ad A355_120).add (jq * 8 + 2)))), .c 366 (.agg #[vi fx.2.1, vi fx.2.2.1, vi fx.2.2.2.1, vi fx.2.2.2.2.1, .bool fx.2.2.2.2.2.1, .slice fA fx.2.2.2.2.2.2.length fC]), .k 367 (.slice SA sn SC), .k 368 (vi ((jj : Int))), .c 369 (.pointer (some ((ad SA).add (jj * 2)))), .c 370 (.agg #[vi shi, .slice sA9 slv.length sC9]), .k 371 (vp B40_3), .c 372 (.iface 53 (vp B40_3)), .c 373 (.bool (visF shi slv ([] : List Int) (stateF 3 (rAt 3 m) K) fx.2.1 fx.2.2.1))] [0, 1, 2, 3, 4, 5, 6, 7, 8, 9, 10] [2, 3, 4, 7, 8, 10, 11] [(362, 0, 12, 374)] hst124 ?_ fun W126 hst126 => ?_
        · refine ⟨?_, ?_, ?_, ?_, ?_, ?_, ?_, trivial⟩
          · exact xs4 rfl id fun cx => run_indexSlM (e := 78) (m := jq) (sz := 8) rfl (by kernel_rfl) (by kernel_rfl) (cx.an 0) (cx.an 1) (by omega) (by omega) (At.of_ownN (cx.ri 10 rfl)) (by have h_ := flatLen (f := (cellsF (kp : Int))) (sz := 8) (cellsF_len (kp : Int)) ks; show 0 < (List.flatMap (cellsF (kp : Int)) ks).length; omega)
          · exact xs4 rfl id fun cx => run_fieldAd rfl (by kernel_rfl) (cx.an 2)
          · exact xs4 rfl id fun cx => run_loadElt (f := (cellsF (kp : Int))) (m := jq) (sz := 8) (off := 2) (n := 6) rfl (by kernel_rfl) (by kernel_rfl) (cx.an 3) rfl (cellsF_len (kp : Int)) (At.of_ownN (cx.ri 10 rfl)) hkj (fun k hk => match k, hk with | 0, _ => rfl | 1, _ => rfl | 2, _ => rfl | 3, _ => rfl | 4, _ => rfl | 5, _ => rfl | k + 6, hk => absurd hk (by omega))
          · exact xs4 rfl id fun cx => run_indexSlM (e := 69) (m := jj) (sz := 2) rfl (by kernel_rfl) (by kernel_rfl) (cx.an 5) (cx.an 6) (by omega) (by omega) (At.of_ownN (cx.ri 6 rfl)) (by have h_ := flatLen (f := cellsS) (sz := 2) cellsS_len ss; show 0 < (List.flatMap cellsS ss).length; omega)
          · exact xs4 rfl id fun cx => run_loadElt (f := cellsS) (m := jj) (sz := 2) (off := 0) (n := 2) rfl (by kernel_rfl) (by kernel_rfl) (cx.an 7) rfl cellsS_len (At.of_ownN (cx.ri 6 rfl)) hsk (fun k hk => match k, hk with | 0, _ => rfl | 1, _ => rfl | k + 2, hk => absurd hk (by omega))
          · exact sv0 rfl rfl rfl rfl rfl (fun _ _ _ h => h) fun ρ β W X cx => by
              have fF371 : ρ (.tmp 371) = vp B40_3 := (cx.an 9)
              simp [go_sem, fF371]
          · exact xsc rfl id rfl rfl fun cx => ⟨_, visible_any _ _ _ _ _ _ _ _ _ _ _ slv _ _ ([] : List Int) _ _ _ _ (eSS_at (CtxV.holdE cx (cx.init 7 _ rfl) rfl) hsk) (by first | omega | decide | (simp; done) | (simp; omega)) (At.nil _ _) (by first | omega | decide | (simp; done) | (simp; omega)) (clock_ok _ 3 (rAt 3 m) K _ (cx.bi 0 rfl) on3 (rAt_on 3 m) hA.kl), (map4 (cx.an 4) (cx.an 8) (cx.co _) (cx.an 10))⟩
        refine then_normal ?_
        rcases Bool.eq_false_or_eq_true (visF shi slv ([] : List Int) (stateF 3 (rAt 3 m) K) fx.2.1 fx.2.2.1) with hs127 | hs127
        · skip
          refine wp_cond_true (show Act.eval _ _ = .bool true from (congrArg Value.bool hs127)) (wp_region_P [0, 1, 3] [.k 374 (vi ((c2 : Int))), tI 375 ((c2 : Int) + 1) (by omega), .k 32 (vi ((c2 : Int) + 1))] [(32, 2, 1, 33), (341, 0, 2, 343)] hst126 fun W128 hst128 => ?_)
          refine blk_normal (then_normal (wp_region_P [0, 1, 3] [.k 360 (vi ((jq : Int))), tI 361 ((jq : Int) + 1) (by omega), .k 38 (vi ((jq : Int) + 1))] [(38, 2, 1, 39), (321, 0, 2, 323)] hst128 fun W129 hst129 => ?_))
          refine then_normal ?_
          refine ⟨al.length - ((jq + 1)), by omega, ?_⟩
          have hp130 := hst129.pick [0, 1, 2, 3, 4, 5, 6, 7, 8, 9, 10] (by decide) rfl
          exact ⟨(jq + 1), (c2 + 1), by omega, by rw [cntV_snoc haj, if_pos hs127]; omega, by omega, rfl, (by kernel_rfl), hp130⟩
        refine wp_cond_false (show Act.eval _ _ = .bool false from (congrArg Value.bool hs127)) (wp_skip (blk_normal (then_normal (wp_region_P [0, 1, 3] [.k 360 (vi ((jq : Int))), tI 361 ((jq : Int) + 1) (by omega), .k 38 (vi ((jq : Int) + 1))] [(38, 2, 1, 39), (321, 0, 2, 323)] hst126 fun W131 hst131 => ?_))))
        refine then_normal ?_
        refine ⟨al.length - ((jq + 1)), by omega, ?_⟩
        have hp132 := hst131.pick [0, 1, 2, 3, 4, 5, 6, 7, 8, 9, 10] (by decide) rfl
        exact ⟨(jq + 1), c2, by omega, by rw [cntV_snoc haj, if_neg (by rw [hs127]; decide)]; omega, by omega, rfl, (by kernel_rfl), hp132⟩
      have hs125p : ¬ ((jq : Int) < (al.length : Int)) := by simpa using hs125
      refine wp_cond_false (show Act.eval _ _ = .bool false from (congrArg Value.bool hs125)) (wp_exit (then_exit (then_exit (blk_eq (blk_normal (then_normal (wp_region_P [0, 1, 3] [.k 347 (vi ((kp : Int))), tI 348 ((kp : Int) + 1) (by omega), .k 36 (vi ((kp : Int) + 1))] [(36, 2, 1, 37), (310, 0, 2, 312)] hst124 fun W133 hst133 => ?_)))))))
      refine then_normal ?_
      refine ⟨P - ((kp + 1)), by omega, ?_⟩
      have hp134 := hst133.pick [0, 1, 2, 3, 4, 5, 6, 7, 8, 9] (by decide) rfl
      exact ⟨c2, (kp + 1), by omega, by rw [← cntG_take hA.ag.len (by omega), ← hcn2, hN_al, hc2, List.take_of_length_le (by omega)], by omega, rfl, (by kernel_rfl), hp134⟩
    have hs119p : ¬ ((kp : Int) < (P : Int)) := by simpa using hs119
    refine wp_cond_false (show Act.eval _ _ = .bool false from (congrArg Value.bool hs119)) (wp_exit (then_exit (then_exit (blk_eq (then_normal (wp_seq ?_))))))
    have hce : cn = wl.length := by rw [hcn2, show kp = P by omega, hPL, List.take_length]; exact hcn
    have hd136 : ((cn : Int) != (wl.length : Int)) = false := (by rw [hce]; exact bne_self_eq_false _)
    refine wp_region_Z [0, 0, 0, 6, 14, 30, 63] [[], [], [], [8], [8]] [.k 376 (vi ((cn : Int))), .k 377 (.slice WA wn WC), .k 378 (vi ((jj : Int))), .c 379 (.pointer (some ((ad WA).add jj))), .c 380 (.slice wA9 wl.length wC9), .k 381 (vi ((wl.length : Int))), .e 382 (.bool ((cn : Int) != (wl.length : Int))) (.bool false) (congrArg Value.bool hd136)] [0, 1, 2, 3, 4, 5, 6, 7, 8, 9] [3, 4] [(376, 0, 7, 383)] hst118 ?_ fun W135 hst135 => ?_
    · refine ⟨?_, ?_, trivial⟩
      · exact xs4 rfl id fun cx => run_indexSl (e := 73) (m := jj) rfl (by kernel_rfl) (by kernel_rfl) (cx.an 1) (cx.an 2) (by omega) (by omega) (At.of_own (cx.ri 8 rfl)) (by first | (simp [rng_len]; done) | (simp [rng_len]; omega))
      · exact xs4 rfl id fun cx => run_load1 rfl (by kernel_rfl) (cx.an 3) (At.cellAd (At.of_own (cx.ri 8 rfl)) (wk_at hwk))
    refine then_normal (wp_cond_false (show Act.eval _ _ = .bool false from rfl) (wp_skip (blk_normal (then_normal (wp_region_P [0, 1, 3] [.k 306 (vi ((jj : Int))), tI 307 ((jj : Int) + 1) (by omega), .k 31 (vi ((jj : Int) + 1))] [(31, 2, 1, 32), (274, 0, 2, 276)] hst135 fun W137 hst137 => ?_)))))
    refine then_normal ?_
    refine ⟨sn - ((jj + 1)), by omega, ?_⟩
    have hp138 := hst137.pick [0, 1, 2, 3, 4, 5, 6, 7, 8, 9] (by decide) rfl
    exact ⟨(jj + 1), by omega, rfl, (by kernel_rfl), hp138⟩
  have hs103p : ¬ ((jj : Int) < (sn : Int)) := by simpa using hs103
  refine wp_cond_false (show Act.eval _ _ = .bool false from (congrArg Value.bool hs103)) (wp_exit (then_exit (then_exit (blk_eq (then_normal (wp_seq (wp_region_P [0, 1] [.k 383 (.bool true), .k 2 (.bool true)] [(2, 1, 1, 3), (380, 0, 1, 381)] hst102 fun W139 hst139 => ?_)))))))
  refine then_normal (wp_ret ?_)
  refine bodyPost_ret (v := .bool true) (results_tmp Tryd.results4 rfl) rfl ?_
  exact Ret.of rfl hst139.ext
end
end Go.Proofs.YtjnplglnnamfdaaDoor
namespace Go.Proofs.YtjnplglnnamfdaaDoor
section
open Go.ChangeShapes Go.WideShapes Go.ChangeAt Go.RowKit Go.Deep Go.Joins
set_option linter.unusedVariables false
set_option linter.unusedSimpArgs false
theorem ownKnob_none : ownKnob Tryd.prog.godebug = none := by kernel_rfl
theorem laidOut : laidOutB Tryd.prog = true := by kernel_rfl
section
variable {H : Type} {enc : TypeId × Value → H} {P : Program}
theorem trodAll_stays (hl : laidOutB P = true) {W W' : World} {sp : Nat → Bool} : ∀ {ts : List TypeId} {vs : List Value} {ds : List (DataW H)} {ps : List MemPlace}, (∀ t ∈ ts, P.readableRec t = true ∧ t < P.types.size) →
    DataW.TrodAll enc P W 0 (fun _ => true) true ts vs ds ps → (∀ p ∈ ps, W.sameAt W' p) → (∀ p ∈ ps, sp p.block = true) → DataW.TrodAll enc P W' 0 sp true ts vs ds ps
  | [], [], [], _, _, h, _, _ => h
  | t :: _, _ :: _, _ :: _, _, hT, ⟨p, q, h1, h2, e⟩, hsm, hs =>
    ⟨p, q, WideElems.Trod_stays hl (hT t (by simp)).1 (hT t (by simp)).2 h1 (fun x hx => hsm x (by rw [e]; exact List.mem_append_left _ hx)) (fun x hx => hs x (by rw [e]; exact List.mem_append_left _ hx)),
      trodAll_stays hl (fun t ht => hT t (by simp [ht])) h2 (fun x hx => hsm x (by rw [e]; exact List.mem_append_right _ hx)) (fun x hx => hs x (by rw [e]; exact List.mem_append_right _ hx)), e⟩
/-- THE POST OF A LAW: true, and the input reads as it did, where the call wrote nothing that was there. -/
theorem law_post {f : Func} {s : ChangeSpec} {fresh handsOn again : Bool} {W W' : World} {args : Array Value} {ds gs : List (DataW H)} {before : List MemPlace} {tb : TypeId}
    (hl : laidOutB P = true) (hT : ∀ t ∈ f.params.toList, P.readableRec t = true ∧ t < P.types.size) (hr : f.resultTypes = #[tb]) (hb : P.underlying tb = some .bool)
    (hW : DataW.Whole enc P f.params.toList s.vars false W args.toList ds gs before) (hvs : s.vars = [])
    (hres : (s.fn H (ds ++ gs)).results = [.lit (.bool true)]) (hargs : (s.fn H (ds ++ gs)).args = ds) (hvars : (s.fn H (ds ++ gs)).vars = []) (hx : Ext W W') :
    s.post enc P f false fresh handsOn again W args (.bool true) W' := by
  have hlt : ∀ p ∈ before, p.block < W.heap.size := fun p hp => hW.lt p hp
  have hold : ∀ p ∈ before, (fun b => decide (b < W.heap.size)) p.block = true := fun p hp => by simpa using hlt p hp
  have hW0 := hW
  obtain ⟨p, q, hA, hV, rfl, hz, hn⟩ := hW
  rw [hvs] at hV
  obtain ⟨rfl, rfl⟩ := trodVars_none hV
  rw [List.append_nil] at hlt hold hz
  have HA : ∀ sp : Nat → Bool, (∀ x ∈ p, sp x.block = true) → DataW.TrodAll enc P W' 0 sp true f.params.toList args.toList (s.fn H (ds ++ [])).args p := fun sp hs => by
    rw [hargs]
    exact trodAll_stays hl hT hA (fun x hx' => hx.out.same (hlt x hx')) hs
  have HR : ∀ (b : Nat) (sp : Nat → Bool) (hd : Bool), DataW.TrodAll enc P W' b sp hd f.resultTypes.toList ((Value.bool true).resultList f.resultTypes.size) (s.fn H (ds ++ [])).results [] := fun b sp hd => by
    rw [hres, hr]
    exact trodAll_cons_mk (shut_bool hb _) trodAll_mk0
  have HV : ∀ sp : Nat → Bool, DataW.TrodVars enc P W' sp s.vars (s.fn H (ds ++ [])).vars [] := fun sp => by
    rw [hvs, hvars]
    rfl
  refine ⟨ds, [], p ++ [], [], p, [], hW0, HR _ _ _, HA _ hold, HV _, World.keptBut_mono (fun x hx' => ⟨hx', ?_⟩) (hx.out.frame (· ∈ p ++ [])), fun _ => ?_⟩
  · rw [List.append_nil] at hx'
    exact Or.inr (Or.inl hx')
  · refine ⟨?_, _, _, ([] ++ p) ++ [], ⟨[] ++ p, [], trodAll_append (HA _ (fun _ _ => rfl)) (HR _ _ _), HV _, rfl, ?_, fun ha => by cases ha⟩, ?_⟩
    · exact ok_one hr rfl (okWide_bool_mk hb _)
    · intro b off hp
      have hin : MemPlace.cell b off ∈ p := by simpa using hp
      rw [hx.out.frozen (hlt _ hin)]
      exact hz b off hin
    · intro x hx' _
      simpa using hx'
end
end
end Go.Proofs.YtjnplglnnamfdaaDoor
namespace Go.Proofs.YtjnplglnnamfdaaDoor
section
open Go.ChangeShapes Go.WideShapes Go.ChangeAt Go.RowKit Go.Deep Go.Joins
set_option linter.unusedVariables false
set_option linter.unusedSimpArgs false
/-- the shape of a type; 'sl e by': a slice, an element takes 'by' bytes; 'st': a struct or an array -/
inductive Sh where
  | int (k : IntKind)
  | bool
  | str
  | sl (e : Sh) (bs : Nat)
  | st (fs : List Sh)
mutual
def Sh.n : Sh → Nat
  | .st fs => Sh.ns fs
  | .int _ => 1
  | .bool => 1
  | .str => 1
  | .sl _ _ => 1
def Sh.ns : List Sh → Nat
  | [] => 0
  | f :: fs => f.n + Sh.ns fs
end
mutual
def Shows (w : World) : Sh → List Value → Prop
  | .int k, cs => ∃ z, cs = [.int k z] ∧ (Lit.int k z).wf = true
  | .bool, cs => ∃ b, cs = [.bool b]
  | .str, cs => ∃ s : ByteArray, cs = [.string s] ∧ s.size ≤ 140737488351232
  | .sl e bs, cs => ∃ (A : Option Addr) (n c : Nat) (xs : List Value), cs = [.slice A n c] ∧ At w A xs ∧ xs.length = n * e.n ∧ n ≤ c ∧ c * bs ≤ 140737488351232 ∧ ∀ i, i < n → Shows w e ((xs.drop (i * e.n)).take e.n)
  | .st fs, cs => ShowsL w fs cs
def ShowsL (w : World) : List Sh → List Value → Prop
  | [], cs => cs = []
  | f :: fs, cs => ∃ a b, cs = a ++ b ∧ Shows w f a ∧ ShowsL w fs b
end
mutual
def Sh.fits (P : Program) : Sh → TypeId → Bool
  | .int k, t => match P.underlying t with | some (.int k') => decide (k' = k) | _ => false
  | .bool, t => match P.underlying t with | some .bool => true | _ => false
  | .str, t => match P.underlying t with | some .string => true | _ => false
  | .sl e bs, t => match P.underlying t with | some (.slice u) => e.fits P u && decide (P.cellsOf u = e.n) && decide (P.bytesOf u = bs) && decide (0 < e.n) | _ => false
  | .st fs, t => match P.underlying t with
    | some (.struct gs) => decide (P.cellsOf t = Sh.ns fs) && Sh.fitsF P fs gs.toList 0
    | some (.array n u) => decide (P.cellsOf t = Sh.ns fs) && decide (fs.length = n) && Sh.fitsA P fs u
    | _ => false
def Sh.fitsF (P : Program) : List Sh → List Field → Nat → Bool
  | [], [], _ => true
  | f :: fs, g :: gs, off => decide (g.offset = off) && decide (P.cellsOf g.type = f.n) && f.fits P g.type && Sh.fitsF P fs gs (off + f.n)
  | _, _, _ => false
def Sh.fitsA (P : Program) : List Sh → TypeId → Bool
  | [], _ => true
  | f :: fs, u => decide (P.cellsOf u = f.n) && f.fits P u && Sh.fitsA P fs u
end
theorem mapM_at {α β : Type} {f : α → Option β} : ∀ {l : List α} {ys : List β}, l.mapM f = some ys → ys.length = l.length ∧ ∀ (i : Nat) (a : α), l[i]? = some a → f a = ys[i]?
  | [], ys, h => by simp at h; subst h; simp
  | a :: l, ys, h => by
    simp only [List.mapM_cons, Option.bind_eq_bind, Option.pure_def, Option.bind_eq_some_iff] at h
    obtain ⟨b, hb, bs, hbs, he⟩ := h
    obtain rfl : b :: bs = ys := by simpa using he
    obtain ⟨h1, h2⟩ := mapM_at hbs
    refine ⟨by simp [h1], fun i x hx => ?_⟩
    cases i with
    | zero => simp at hx; subst hx; simpa using hb
    | succ i => simpa using h2 i x (by simpa using hx)
section
variable {H : Type} {enc : TypeId × Value → H} {P : Program}
theorem weightsAll_at {e : TypeId} : ∀ {ds : List (DataW H)} (i : Nat) (d : DataW H), ds[i]? = some d → ∀ x ∈ d.weights P e, x ∈ DataW.weightsAll P e ds
  | [], i, d, h, x, hx => by simp at h
  | d0 :: ds, 0, d, h, x, hx => by
    simp at h; subst h
    simp only [DataW.weightsAll, List.mem_append]; exact .inl hx
  | d0 :: ds, i + 1, d, h, x, hx => by
    simp only [DataW.weightsAll, List.mem_append]
    exact .inr (weightsAll_at i d (by simpa using h) x hx)
/-- the cells of a slice's elements -/
theorem cells_row {w : World} {a : Addr} {m len : Nat} (hm : 0 < m) (h : ∀ i, i < len → ∃ csi, w.cells? 0 (a.add (i * m)) m = some csi) :
    ∃ xs : List Value, xs.length = len * m ∧ At w (some a) xs ∧ ∀ i, i < len → ∀ csi, w.cells? 0 (a.add (i * m)) m = some csi → (xs.drop (i * m)).take m = csi := by
  have key : ∀ i, i < len → ∀ csi, w.cells? 0 (a.add (i * m)) m = some csi → csi.length = m ∧ ∀ r, r < m → w.cell? (a.add (i * m + r)) = csi[r]? := by
    intro i hi csi hc
    unfold World.cells? at hc
    rw [if_pos (Nat.zero_le _)] at hc
    obtain ⟨h1, h2⟩ := mapM_at hc
    refine ⟨by simpa using h1, fun r hr => ?_⟩
    have := h2 r r (by simp [hr])
    rw [add_add'] at this
    exact this
  have each : ∀ j, j < len * m → ∃ u, w.cell? (a.add j) = some u := by
    intro j hj
    have hi : j / m < len := by rw [Nat.div_lt_iff_lt_mul hm]; exact hj
    obtain ⟨csi, hc⟩ := h _ hi
    obtain ⟨h1, h2⟩ := key _ hi _ hc
    have hr := Nat.mod_lt j hm
    have := h2 _ hr
    rw [show j / m * m + j % m = j by rw [Nat.mul_comm]; exact Nat.div_add_mod j m] at this
    rw [List.getElem?_eq_getElem (by omega)] at this
    exact ⟨_, this⟩
  refine ⟨(List.range (len * m)).map fun j => (w.cell? (a.add j)).getD undef, by simp, fun j u hu => ?_, fun i hi csi hc => ?_⟩
  · rw [List.getElem?_map] at hu
    rcases Nat.lt_or_ge j (len * m) with hj | hj
    · obtain ⟨v, hv⟩ := each j hj
      rw [List.getElem?_range hj] at hu
      simp only [Option.map_some, hv, Option.getD_some, Option.some.injEq] at hu
      subst hu
      have := World.block_lt_of_cell? _ _ hv
      rw [add_block] at this
      exact ⟨a, rfl, this, hv⟩
    · rw [List.getElem?_eq_none (by simpa using hj)] at hu; cases hu
  · obtain ⟨h1, h2⟩ := key i hi csi hc
    have hb : i * m + m ≤ len * m := by
      have : (i + 1) * m ≤ len * m := Nat.mul_le_mul_right m hi
      rw [Nat.add_mul, Nat.one_mul] at this
      exact this
    apply List.ext_getElem?
    intro r
    rw [List.getElem?_take]
    by_cases hr : r < m
    · rw [if_pos hr, List.getElem?_drop, List.getElem?_map, List.getElem?_range (by omega), Option.map_some, h2 r hr, List.getElem?_eq_getElem (by omega)]
      rfl
    · rw [if_neg hr, List.getElem?_eq_none (by omega)]
mutual
theorem sees_of {w : World} : ∀ (s : Sh) (t : TypeId) (fuel : Nat) (cs : List Value) (x : DataW H × List MemPlace), s.fits P t = true → DataW.trod enc P w 0 (fun _ => true) true fuel t cs = some x →
    (∀ n ∈ x.1.weights P t, n ≤ reachBytes) → Shows w s cs
  | .int k, t, fuel, cs, x, hf, h, hw => by
    simp only [Sh.fits] at hf
    split at hf
    · rename_i k' hu
      obtain rfl := of_decide_eq_true hf
      obtain ⟨z, hc, _, hz⟩ := DataW.trod_int hu h
      exact ⟨z, hc, hz⟩
    · cases hf
  | .bool, t, fuel, cs, x, hf, h, hw => by
    simp only [Sh.fits] at hf
    split at hf
    · rename_i hu
      obtain ⟨b, hc, _⟩ := DataW.trod_bool hu h
      exact ⟨b, hc⟩
    · cases hf
  | .str, t, fuel, cs, x, hf, h, hw => by
    simp only [Sh.fits] at hf
    split at hf
    · rename_i hu
      obtain ⟨s, hc, rfl, _⟩ := DataW.trod_string hu h
      refine ⟨s, hc, ?_⟩
      have := hw s.data.toList.length (by simp [DataW.weights])
      exact this
    · cases hf
  | .sl e bs, t, fuel, cs, x, hf, h, hw => by
    simp only [Sh.fits] at hf
    split at hf
    · rename_i u hu
      simp only [Bool.and_eq_true, decide_eq_true_eq] at hf
      obtain ⟨⟨⟨he, hm⟩, hb⟩, hp⟩ := hf
      rcases DataW.trod_slice hu h with ⟨rfl, rfl⟩ | ⟨a, len, cap, elems, rest, n, _, rfl, rfl, _, hl, _, hlen, hel, hsp, _⟩
      · exact ⟨none, 0, 0, [], rfl, At.nil _ _, by simp, by simp, by simp, fun i hi => by omega⟩
      · obtain ⟨hrl, _⟩ := hsp rfl
        rw [hm] at hel
        have hsz := hw ((elems.length + rest.length) * P.bytesOf u) (by simp [DataW.weights, hu])
        rw [hlen, hrl, hb] at hsz
        have hR : reachBytes = 140737488351232 := rfl
        rw [hR] at hsz
        have hex : ∀ i, i < len → ∃ csi y, w.cells? 0 (a.add (i * e.n)) e.n = some csi ∧ elems[i]? = some y ∧ DataW.trod enc P w 0 (fun _ => true) true n u csi = some y := by
          intro i hi
          have h1 := hel i hi
          rw [List.getElem?_eq_getElem (by omega), Option.bind_eq_some_iff] at h1
          obtain ⟨csi, hc, hy⟩ := h1
          exact ⟨csi, _, hc, List.getElem?_eq_getElem (by omega), hy⟩
        obtain ⟨xs, hxl, hxa, hxe⟩ := cells_row (w := w) (a := a) (len := len) hp (fun i hi => let ⟨csi, _, hc, _⟩ := hex i hi; ⟨csi, hc⟩)
        refine ⟨some a, len, cap, xs, rfl, hxa, hxl, hl, ?_, fun i hi => ?_⟩
        · rw [show len + (cap - len) = cap by omega] at hsz
          exact hsz
        · obtain ⟨csi, y, hc, hy, ht⟩ := hex i hi
          rw [hxe i hi csi hc]
          refine sees_of e u n csi y he ht fun z hz => hw z ?_
          simp only [DataW.weights, hu, List.mem_cons, List.mem_append]
          refine .inr (.inl ?_)
          exact weightsAll_at i y.1 (by rw [List.getElem?_map, hy]; rfl) z hz
    · cases hf
  | .st fs, t, fuel, cs, x, hf, h, hw => by
    simp only [Sh.fits] at hf
    split at hf
    · rename_i gs hu
      simp only [Bool.and_eq_true, decide_eq_true_eq] at hf
      obtain ⟨hc, hF⟩ := hf
      obtain ⟨xs, n, _, rfl, hcl, hxl, hat⟩ := DataW.trod_struct hu h
      have := seesF_of fs gs.toList 0 cs xs n hF (fun i g hg => hat i g (by rw [← hg]; exact (Array.getElem?_toList ..).symm)) (by simpa using hxl) (by omega) (fun z hz => hw z (by simp only [DataW.weights, hu]; exact hz))
      rw [List.drop_zero, List.take_of_length_le (by omega)] at this
      exact this
    · rename_i n u hu
      simp only [Bool.and_eq_true, decide_eq_true_eq] at hf
      obtain ⟨⟨hc, hn⟩, hF⟩ := hf
      obtain ⟨xs, m, _, rfl, hcl, hxl, hat⟩ := DataW.trod_array hu h
      have := seesA_of fs u 0 cs xs m hF (fun i hi => by rw [Nat.zero_add]; exact hat i (by omega)) (by omega) (by rw [Nat.zero_mul, Nat.zero_add]; omega) (fun z hz => hw z (by simp only [DataW.weights, hu]; exact hz))
      rw [Nat.zero_mul, List.drop_zero, List.take_of_length_le (by omega)] at this
      exact this
    · cases hf
theorem seesF_of {w : World} : ∀ (fs : List Sh) (gs : List Field) (off : Nat) (cs : List Value) (xs : List (DataW H × List MemPlace)) (m : Nat), Sh.fitsF P fs gs off = true →
    (∀ (i : Nat) (g : Field), gs[i]? = some g → DataW.trod enc P w 0 (fun _ => true) true m g.type ((cs.drop g.offset).take (P.cellsOf g.type)) = xs[i]?) → xs.length = gs.length → off + Sh.ns fs ≤ cs.length →
    (∀ n ∈ DataW.weightsEach P (gs.map (·.type)) (xs.map (·.1)), n ≤ reachBytes) → ShowsL w fs ((cs.drop off).take (Sh.ns fs))
  | [], [], off, cs, xs, m, hf, h, hx, hl, hw => by simp [ShowsL, Sh.ns]
  | f :: fs, g :: gs, off, cs, xs, m, hf, h, hx, hl, hw => by
    simp only [Sh.fitsF, Bool.and_eq_true, decide_eq_true_eq] at hf
    obtain ⟨⟨⟨ho, hc⟩, hff⟩, hF⟩ := hf
    simp only [Sh.ns] at hl
    match xs, hx with
    | y :: ys, hx =>
      have h0 := h 0 g rfl
      simp only [List.getElem?_cons_zero] at h0
      rw [ho, hc] at h0
      refine ⟨(cs.drop off).take f.n, (cs.drop (off + f.n)).take (Sh.ns fs), ?_, sees_of f g.type m _ y hff h0 (fun z hz => hw z ?_), seesF_of fs gs (off + f.n) cs ys m hF (fun i g' hg => ?_) (by simpa using hx) (by omega) (fun z hz => hw z ?_)⟩
      · rw [Sh.ns, ← List.drop_drop, List.take_add]
      · simp only [List.map_cons, DataW.weightsEach, List.mem_append]; exact .inl hz
      · simpa using h (i + 1) g' (by simpa using hg)
      · simp only [List.map_cons, DataW.weightsEach, List.mem_append]; exact .inr hz
  | [], _ :: _, off, cs, xs, m, hf, h, hx, hl, hw => by simp [Sh.fitsF] at hf
  | _ :: _, [], off, cs, xs, m, hf, h, hx, hl, hw => by simp [Sh.fitsF] at hf
theorem seesA_of {w : World} : ∀ (fs : List Sh) (u : TypeId) (k : Nat) (cs : List Value) (xs : List (DataW H × List MemPlace)) (m : Nat), Sh.fitsA P fs u = true →
    (∀ i, i < fs.length → DataW.trod enc P w 0 (fun _ => true) true m u ((cs.drop ((k + i) * P.cellsOf u)).take (P.cellsOf u)) = xs[i]?) → xs.length = fs.length → k * P.cellsOf u + Sh.ns fs ≤ cs.length →
    (∀ n ∈ DataW.weightsAll P u (xs.map (·.1)), n ≤ reachBytes) → ShowsL w fs ((cs.drop (k * P.cellsOf u)).take (Sh.ns fs))
  | [], u, k, cs, xs, m, hf, h, hx, hl, hw => by simp [ShowsL, Sh.ns]
  | f :: fs, u, k, cs, xs, m, hf, h, hx, hl, hw => by
    simp only [Sh.fitsA, Bool.and_eq_true, decide_eq_true_eq] at hf
    obtain ⟨⟨hc, hff⟩, hF⟩ := hf
    simp only [Sh.ns] at hl
    match xs, hx with
    | y :: ys, hx =>
      have h0 := h 0 (by simp)
      simp only [List.getElem?_cons_zero, Nat.add_zero] at h0
      have hk : (k + 1) * P.cellsOf u = k * P.cellsOf u + f.n := by rw [Nat.add_mul, Nat.one_mul, hc]
      refine ⟨(cs.drop (k * P.cellsOf u)).take f.n, (cs.drop ((k + 1) * P.cellsOf u)).take (Sh.ns fs), ?_, sees_of f u m _ y hff (by rw [← hc]; exact h0) (fun z hz => hw z ?_), seesA_of fs u (k + 1) cs ys m hF (fun i hi => ?_) (by simpa using hx) (by rw [hk]; omega) (fun z hz => hw z ?_)⟩
      · rw [Sh.ns, hk, ← List.drop_drop, List.take_add]
      · simp only [List.map_cons, DataW.weightsAll, List.mem_append]; exact .inl hz
      · rw [show k + 1 + i = k + (i + 1) by omega]
        simpa using h (i + 1) (by simp; omega)
      · simp only [List.map_cons, DataW.weightsAll, List.mem_append]; exact .inr hz
end
end
/-- an argument opened -/
theorem sees_arg {H : Type} {enc : TypeId × Value → H} {P : Program} {w : World} {ts : List TypeId} {ds : List (DataW H)} (hsz : (DataW.weightsEach P ts ds).all (· ≤ reachBytes) = true) (j : Nat) {t : TypeId} {v : Value} {d : DataW H} {p : List MemPlace} (s : Sh)
    (hf : s.fits P t = true) (ht : ts[j]? = some t) (hd : ds[j]? = some d) (h : DataW.Trod enc P w 0 (fun _ => true) true t v d p) : Shows w s v.cells.toList := by
  obtain ⟨fuel, h⟩ := h
  exact sees_of s t fuel _ (d, p) hf h fun n hn => of_decide_eq_true (List.all_eq_true.1 hsz n (DataW.weights_mem_each ht hd n hn))
/-- the elements of a slice as a list -/
theorem chunks {T : Type} (f : T → List Value) (p : T → Prop) (m : Nat) : ∀ (n : Nat) (xs : List Value), xs.length = n * m → (∀ i, i < n → ∃ t, (xs.drop (i * m)).take m = f t ∧ p t) →
    ∃ ts : List T, ts.length = n ∧ xs = ts.flatMap f ∧ ∀ t ∈ ts, p t
  | 0, xs, hl, h => ⟨[], rfl, by simpa using hl, by simp⟩
  | n + 1, xs, hl, h => by
    obtain ⟨t, ht, hp⟩ := h 0 (by omega)
    rw [Nat.zero_mul, List.drop_zero] at ht
    have hle : (n + 1) * m = m + n * m := by rw [Nat.add_mul, Nat.one_mul, Nat.add_comm]
    obtain ⟨ts, h1, h2, h3⟩ := chunks f p m n (xs.drop m) (by rw [List.length_drop]; omega) (fun i hi => by
      obtain ⟨t', ht', hp'⟩ := h (i + 1) (by omega)
      refine ⟨t', ?_, hp'⟩
      rw [List.drop_drop, show m + i * m = (i + 1) * m by rw [Nat.add_mul, Nat.one_mul, Nat.add_comm]]
      exact ht')
    refine ⟨t :: ts, by simp [h1], ?_, by simpa using ⟨hp, h3⟩⟩
    rw [List.flatMap_cons, ← h2, ← ht, List.take_append_drop]
/-- what an argument is -/
def ShowsV (w : World) (s : Sh) (v : Value) : Prop := match s with
  | .st fs => ∃ cs : List Value, v = .agg ⟨cs⟩ ∧ ShowsL w fs cs
  | s => Shows w s [v]
theorem sees_val {P : Program} {W w : World} {r : Reach} {b0 : Nat} {t : TypeId} {v : Value} (s : Sh) (hf : s.fits P t = true) (hv : Value.okWide P W r b0 t v) (h : Shows w s v.cells.toList) : ShowsV w s v := by
  cases s with
  | int k =>
    simp only [Sh.fits] at hf
    split at hf
    · rename_i k' hu
      obtain ⟨n, rfl⟩ := okWide_int hu hv
      exact h
    · cases hf
  | bool =>
    simp only [Sh.fits] at hf
    split at hf
    · rename_i hu
      obtain ⟨n, rfl⟩ := okWide_bool hu hv
      exact h
    · cases hf
  | str =>
    simp only [Sh.fits] at hf
    split at hf
    · rename_i hu
      obtain ⟨n, rfl⟩ := okWide_string hu hv
      exact h
    · cases hf
  | sl e bs =>
    simp only [Sh.fits] at hf
    split at hf
    · rename_i u hu
      obtain ⟨a, l, c, rfl⟩ := okWide_slice hu hv
      exact h
    · cases hf
  | st fs =>
    simp only [Sh.fits] at hf
    split at hf
    · rename_i gs hu
      obtain ⟨cs, rfl, _⟩ := okWide_struct hu hv
      exact ⟨cs.toList, rfl, h⟩
    · rename_i n u hu
      simp only [Value.okWide, hu] at hv
      obtain ⟨cs, rfl, _⟩ := hv
      exact ⟨cs.toList, rfl, h⟩
    · cases hf
end
end Go.Proofs.YtjnplglnnamfdaaDoor
namespace Go.Proofs.YtjnplglnnamfdaaDoor
section
open Go.ChangeShapes Go.WideShapes Go.ChangeAt Go.RowKit Go.Deep Go.Joins
set_option linter.unusedVariables false
set_option linter.unusedSimpArgs false
abbrev laid1 : List (String × DataW Unit) := [("vintner/tuple.none", Rows.laid_vintner_tuple_none)]
theorem gNone : Tryd.prog.globalNamed "vintner/tuple.none" = some 1 := by kernel_rfl
theorem tNone : (Tryd.prog.globals[1]?).map (·.type) = some 24 := by kernel_rfl
theorem door_met (os : Os) (args : Array Value) : laidMetH Tryd.prog laid1 ((World.doorLaid Tryd.prog 400 os).forCall (fun _ _ => 0) ⟨#[], args, []⟩).memory :=
  laidMetH_of_parts3 (fuel := 8) (laidMet_of_run' 8 (by kernel_rfl) (by kernel_rfl)) (by kernel_rfl) (by kernel_rfl)
set_option maxRecDepth 100000 in
theorem none_of_met {W : World} (h : laidMet Tryd.prog laid1 W) : NoneAt W := by
  obtain ⟨ps, ⟨g0, t0, cs0, f0, p0, q0, hg0, ht0, hv0, hd0, _, _⟩, _, _⟩ := h
  obtain rfl := Option.some.inj (gNone.symm.trans hg0)
  obtain rfl := Option.some.inj (tNone.symm.trans ht0)
  obtain ⟨xs, m, _, hx, hc, hl, hat⟩ := DataW.trod_struct Tryd.underlying24 hd0
  have c2 : Tryd.prog.cellsOf 24 = 2 := by kernel_rfl
  have c1 : Tryd.prog.cellsOf 3 = 1 := by kernel_rfl
  rw [c2] at hc
  obtain ⟨l0⟩ := cs0
  match l0, hc with
  | [a, b], _ =>
    have hl2 : xs.length = 2 := hl
    match xs, hl2, hx, hat with
    | [x0, x1], _, hx, hat =>
      have e0 := hat 0 _ rfl
      have e1 := hat 1 _ rfl
      obtain ⟨k, k1, k2, _⟩ := DataW.trod_int Tryd.underlying3 (show DataW.trod _ Tryd.prog W 0 _ _ m 3 _ = some x0 from e0)
      obtain ⟨n, n1, n2, _⟩ := DataW.trod_int Tryd.underlying3 (show DataW.trod _ Tryd.prog W 0 _ _ m 3 _ = some x1 from e1)
      subst k2 n2
      have hh : DataW.agg [DataW.lit (Lit.int .i64 (-1)), DataW.lit (Lit.int .i64 0)] = DataW.agg [(DataW.lit (Lit.int .i64 k) : DataW Unit), DataW.lit (Lit.int .i64 n)] := (Prod.mk.inj hx).1
      injection hh with hh
      injection hh with h0 h1
      injection h1 with h1 _
      injection h0 with h0
      injection h0 with _ hk
      injection h1 with h1
      injection h1 with _ hn
      subst hk hn
      have ka : a = .int .i64 (-1) := by
        have h3 : List.take (Tryd.prog.cellsOf 3) [a, b] = [Value.int .i64 (-1)] := k1
        rw [c1] at h3
        simpa using h3
      have nb : b = .int .i64 0 := by
        have h3 : List.take (Tryd.prog.cellsOf 3) [b] = [Value.int .i64 0] := n1
        rw [c1] at h3
        simpa using h3
      subst ka nb
      have h0 : W.cell? ⟨1, 0, none⟩ = some (.int .i64 (-1)) := (World.var?_cell hg0 hv0 0).trans rfl
      have h1 : W.cell? ⟨1, 1, none⟩ = some (.int .i64 0) := (World.var?_cell hg0 hv0 1).trans rfl
      intro j u hj
      match j, hj with
      | 0, hj =>
        obtain rfl : Value.int .i64 (-1) = u := by simpa using hj
        exact ⟨_, rfl, World.block_lt_of_cell? _ _ h0, h0⟩
      | 1, hj =>
        obtain rfl : Value.int .i64 0 = u := by simpa using hj
        exact ⟨_, rfl, World.block_lt_of_cell? _ _ h0, by rw [Addr.add_lit]; exact h1⟩
      | j + 2, hj => simp at hj
theorem none_of_laid {W : World} (h : laidMetH Tryd.prog laid1 W) : NoneAt W := by
  rw [MakeChecks.laidMetH_plain _ _ _ (by kernel_rfl)] at h
  exact none_of_met h
theorem u8_bd {z : Int} (h : (Lit.int .u8 z).wf = true) : 0 ≤ z ∧ z ≤ 255 := by
  rw [Lit.wf, Bool.and_eq_true, decide_eq_true_eq, decide_eq_true_eq, show IntKind.u8.min = 0 from rfl, show IntKind.u8.max = 255 from rfl] at h
  exact h
end
end Go.Proofs.YtjnplglnnamfdaaDoor
namespace Go.Proofs.YtjnplglnnamfdaaDoor.heapAtOnce
section
open Go.ChangeShapes Go.WideShapes Go.ChangeAt Go.RowKit Go.Deep Go.Joins
set_option linter.unusedVariables false
set_option maxRecDepth 100000 in
theorem lifted (os : Os) (started : os.Started) (H : Type) (enc : TypeId × Value → H) :
    ReturnsInHanded {} Tryd.checked os 4 .any (fun w args => (Rows.heapAtOnceSpec.pre enc Tryd.prog Tryd.f4 [] false w args ∧ laidMetH Tryd.prog laid1 w) ∧ sizedMet enc Tryd.prog Tryd.f4 (OpenSpec.ofChange Rows.heapAtOnceSpec) false w args) (Rows.heapAtOnceSpec.post enc Tryd.prog Tryd.f4 false true false false) := by
  refine returnsInHanded_of_change_and (C := Tryd.checked) (X := fun w _ => laidMetH Tryd.prog laid1 w) (fun _ _ _ hh h => h.of_heap hh) ownKnob_none started (by kernel_rfl) Tryd.func4
    (ChangeSpec.witness_shaped (enc := enc) (C := Tryd.checked) (os := os) (X := fun w _ => laidMetH Tryd.prog laid1 w) false (World.doorLaid Tryd.prog 400 os) #[.slice none 0 0] 8 rfl (World.shaped_of_RefB (by kernel_rfl) (by kernel_rfl)) (by kernel_rfl) (by kernel_rfl) (by kernel_rfl) (door_met os _)) ?_
  intro W base args ds gs before hval0 hW hcnd hsz0 hLaid _
  have hN := none_of_laid hLaid
  have hval : ∀ (j : Nat) t v, Tryd.f4.params[j]? = some t → args[j]? = some v → Value.okWide Tryd.prog W .any base t v := hval0
  have hsz : (DataW.weightsEach Tryd.prog (Tryd.f4.params.toList ++ Rows.heapAtOnceSpec.plain.varTypes Tryd.prog) (ds ++ gs)).all (· ≤ reachBytes) = true := hsz0
  clear hsz0 hval0
  have hW' := hW
  obtain ⟨p, q, hA0, hV, rfl, hfz, hnd⟩ := hW
  have hA : DataW.TrodAll enc Tryd.prog W 0 (fun _ => true) true Tryd.f4.params.toList args.toList ds p := hA0
  clear hA0
  rw [Tryd.params4] at hA hval hsz
  obtain ⟨v0, vs0, d0, ds0, p0, q0, hargs, rfl, rfl, h0, r0⟩ := trodAll_cons hA
  obtain ⟨rfl, rfl, rfl⟩ := trodAll_nil r0
  obtain rfl : args = #[v0] := by cases args; simp_all
  obtain ⟨rfl, rfl⟩ := trodVars_none hV
  have s0 := sees_val (.sl (.st [.int .u8, .int .u8, .int .u8]) 3) (by kernel_rfl) (hval 0 _ _ rfl rfl) (sees_arg hsz 0 (.sl (.st [.int .u8, .int .u8, .int .u8]) 3) (by kernel_rfl) rfl rfl h0)
  clear hsz
  obtain ⟨LA, n_, lc, xs_, hE, atLA, e_, lLA, bLA, p_⟩ := s0
  cases hE
  obtain ⟨ls, e1_, e2_, wLA⟩ := chunks (T := T3b) cells3b (fun t => (0 ≤ t.1 ∧ t.1 ≤ 255) ∧ (0 ≤ t.2.1 ∧ t.2.1 ≤ 255) ∧ (0 ≤ t.2.2 ∧ t.2.2 ≤ 255)) 3 n_ xs_ e_ (fun i_ hi_ => by
    have g_ := p_ i_ hi_
    obtain ⟨a0_, b0_, e0_, s0_, g_⟩ := g_
    obtain ⟨a1_, b1_, e1_, s1_, g_⟩ := g_
    obtain ⟨a2_, b2_, e2_, s2_, g0_⟩ := g_
    obtain ⟨wa, f0_, wwa⟩ := s0_
    obtain ⟨wh, f1_, wwh⟩ := s1_
    obtain ⟨wr, f2_, wwr⟩ := s2_
    have g_ : _ = _ := e0_
    rw [f0_, e1_, f1_, e2_, f2_, show b2_ = [] from g0_] at g_
    exact ⟨(wa, wh, wr), g_, ⟨u8_bd wwa, u8_bd wwh, u8_bd wwr⟩⟩)
  subst e1_ e2_
  refine (heapatonce_any LA lc ls W atLA (by omega) (fun t ht => wLA t ht) hN).mono fun e W' ⟨he, hx⟩ => ?_
  subst he
  exact ⟨_, rfl, law_post laidOut (by rw [Tryd.params4]; exact (by decide +kernel)) rfl Tryd.underlying4 hW' rfl rfl rfl rfl hx⟩
theorem over : Rows.heapAtOnceRow.holds Tryd.pinned (OpenSpec.ofChange Rows.heapAtOnceSpec) :=
  OpenClaim.holds_of_wide 4 Tryd.f4 rfl rfl rfl rfl rfl rfl rfl ⟨rfl, rfl, rfl, rfl, rfl⟩ rfl rfl rfl rfl rfl (by kernel_rfl) Tryd.func4 (by kernel_rfl)
    (of_decide_eq_true (by kernel_rfl)) (by unfold Func.isWrapper; first | (rw [if_pos (by decide +kernel)]; kernel_rfl) | (rw [if_neg (by decide +kernel)]; exact ⟨rfl, rfl⟩))
    (fun os started H enc _ => lifted os started H enc)
theorem proved : Rows.HeapAtOnceCardSaid :=
  Claim7.holds_tied_plain_at .later [] [.data] true (true, "cb0cbcf253c7add72168568adf4ae4101bfe714700cae071500d6da090a5b03f") true
    over (fun _ h => by cases h) (by kernel_rfl) (fun _ h => by cases h) heapAtOnce_row_tie rfl ⟨rfl, rfl⟩ (by kernel_rfl) rfl
    (fun f fn hf hfn => by
      obtain rfl : f = 4 := Option.some.inj ((show Tryd.prog.funcNamed "vintner/vintnerlaw09.HeapAtOnce" = some 4 by kernel_rfl).symm.trans hf) |>.symm
      obtain rfl : fn = Tryd.f4 := (Option.some.inj (Tryd.func4.symm.trans hfn)).symm
      exact ⟨by kernel_rfl, fun j t ht => by
        rw [Tryd.params4] at ht
        have hm : t ∈ [52] := by simpa using Array.mem_of_getElem? ht
        have hall : ([52].all fun u => !Tryd.prog.wantsStandIn u) = true := by kernel_rfl
        exact (show Tryd.prog.wantsStandIn t = false by simpa using List.all_eq_true.1 hall t hm)⟩)
    (by kernel_rfl)
end
end Go.Proofs.YtjnplglnnamfdaaDoor.heapAtOnce
