/- ChainUses returns true: each function that is used stands in the order once, the entry first, and no other one. Printed in part by genZk.py of this repository. -/
import Derived.Test.YthnkikdbllkmkaaZj
import Derived.Test.YthnkikdbllkmkaaYr
import Derived.Test.YthnkikdbllkmkaaYt
namespace Go.Proofs.Ythnkikdbllkmkaa
set_option linter.unusedVariables false
set_option linter.unusedSimpArgs false
open Go.RowKit Go.Lib

theorem u8_boundsZ {x : Int} (h : (Lit.int .u8 x).wf = true) : 0 ≤ x ∧ x ≤ 255 := by
  simp [Lit.wf] at h
  have h1 : IntKind.u8.min = 0 := by decide
  have h2 : IntKind.u8.max = 255 := by decide
  omega
theorem tmod_indexZ {x : Int} {n : Nat} (h0 : 0 ≤ x) (hn : 0 < n) : ∃ i : Nat, i < n ∧ x.tmod n = i := by
  refine ⟨(x.tmod n).toNat, ?_, ?_⟩
  · rw [Int.tmod_eq_emod_of_nonneg h0]
    have := Int.emod_lt_of_pos x (show (0 : Int) < n by omega)
    have := Int.emod_nonneg x (show (n : Int) ≠ 0 by omega)
    omega
  · rw [Int.tmod_eq_emod_of_nonneg h0]
    have := Int.emod_nonneg x (show (n : Int) ≠ 0 by omega)
    omega
theorem selN_mem {us : List Bool} {e x : Nat} : ∀ k, x ∈ selN us e k ↔ x < k ∧ us[x]? = some true ∧ x ≠ e
  | 0 => ⟨fun h => (by cases h), fun h => (by omega)⟩
  | k + 1 => by
    show x ∈ selN us e k ++ _ ↔ _
    rw [List.mem_append, selN_mem k]
    constructor
    · rintro (⟨h1, h2⟩ | h)
      · exact ⟨by omega, h2⟩
      · split at h
        · rename_i hc
          rw [List.mem_singleton] at h
          subst h
          exact ⟨by omega, hc⟩
        · cases h
    · rintro ⟨h1, h2⟩
      by_cases c : x < k
      · exact .inl ⟨c, h2⟩
      · obtain rfl : x = k := by omega
        right
        rw [if_pos h2]
        simp
/-- What an order of functions is. -/
structure OrdF (us : List Bool) (e : Nat) (o : List Nat) : Prop where
  head : o[0]? = some e
  nodup : o.Nodup
  used : ∀ k x, o[k]? = some x → 0 < k → us[x]? = some true
  lt : ∀ x ∈ o, x < us.length
  mem : ∀ x b, us[x]? = some b → (x ∈ o ↔ b = true ∨ x = e)
theorem ordF {us : List Bool} {e : Nat} {ts : List Nat} (he : e < us.length) (hp : ts.Perm (selN us e us.length)) : OrdF us e (e :: ts) := by
  have hm : ∀ x, x ∈ ts ↔ x < us.length ∧ us[x]? = some true ∧ x ≠ e := fun x => by rw [hp.mem_iff, selN_mem]
  refine ⟨rfl, ?_, fun k x hx hk => ?_, fun x hx => ?_, fun x b hb => ?_⟩
  · rw [List.nodup_cons]
    refine ⟨fun h => ((hm e).1 h).2.2 rfl, hp.nodup_iff.2 ?_⟩
    exact (selN_up us e us.length).imp (fun h => by omega)
  · obtain ⟨j, rfl⟩ : ∃ j, k = j + 1 := ⟨k - 1, by omega⟩
    exact ((hm x).1 (List.mem_of_getElem? (show ts[j]? = some x from hx))).2.1
  · rcases List.mem_cons.1 hx with h | h
    · omega
    · exact ((hm x).1 h).1
  · rw [List.mem_cons, hm]
    have hl := (List.getElem?_eq_some_iff.1 hb).1
    rw [hb]
    constructor
    · rintro (h | ⟨-, h, -⟩)
      · exact .inr h
      · injection h with h; exact .inl h
    · rintro (h | h)
      · by_cases c : x = e
        · exact .inl c
        · exact .inr ⟨hl, by rw [h], c⟩
      · exact .inl h
/-- What was seen. -/
def seenL (n : Nat) (xs : List Nat) : List Bool := (List.range n).map (fun j => decide (j ∈ xs))
theorem seenL_len (n : Nat) (xs : List Nat) : (seenL n xs).length = n := by simp [seenL]
theorem seenL_nil (n : Nat) : seenL n [] = List.replicate n false := by
  unfold seenL
  induction n with
  | zero => rfl
  | succ m ih => rw [List.range_succ, List.map_append, ih, List.replicate_succ']; simp
theorem seenL_get {n : Nat} {xs : List Nat} {j : Nat} (h : j < n) : (seenL n xs)[j]? = some (decide (j ∈ xs)) := by simp [seenL, h]
theorem seenL_set (n : Nat) (xs : List Nat) (x : Nat) : (seenL n xs).set x true = seenL n (xs ++ [x]) := by
  apply List.ext_getElem?
  intro j
  by_cases hj : j < n
  · rw [List.getElem?_set, seenL_get hj, seenL_len]
    by_cases c : x = j
    · subst c
      rw [if_pos rfl, if_pos hj]
      simp [seenL_get hj]
    · rw [if_neg c, seenL_get hj]
      simp [c, Ne.symm c]
  · rw [List.getElem?_eq_none (by simp [seenL_len]; omega), List.getElem?_eq_none (by rw [seenL_len]; omega)]

set_option maxHeartbeats 8000000 in
set_option maxRecDepth 100000 in
theorem chainUses_law (w : World) (GA : Option Addr) (gc : Nat) (gs : List Graph) (hlc : gs.length ≤ gc) (hcm : gc ≤ maxLen) (hG : kGraph.C w GA gs) (x : Int) (hx : (Lit.int .u8 x).wf = true) (LA : Option Addr) (lc : Nat) (l : List Edge) (hll : l.length ≤ lc) (hlm2 : lc ≤ maxLen) (hL : kEdge.C w LA l) (UA : Option Addr) (uc : Nat) (us : List Bool) (hul : us.length ≤ uc) (hum : uc ≤ maxLen) (hU : Kd.bool.C w UA us) : Calls Try.prog 5 #[.slice GA gs.length gc, .int .u8 x, .slice LA l.length lc, .slice UA us.length uc] w fun e w' => e = .returned (.bool true) ∧ Below w.heap.size w w' := by
  obtain ⟨hx0, hx1⟩ := u8_boundsZ hx
  clear hx
  have hlm := Nat.le_trans hlc hcm
  have hlm' : gs.length ≤ 9223372036854775807 := hlm
  have hl2 := Nat.le_trans hll hlm2
  have hl2' : l.length ≤ 9223372036854775807 := hl2
  have hu2' : us.length ≤ 9223372036854775807 := Nat.le_trans hul hum
  have HWF := Lib.hid (edges_wf hL)
  by_cases hn0 : gs.length = 0
  · have z0_0 : ((gs.length : Int) == 0) = true := by simpa using hn0
    have z0_1 : (gs.length == 0) = true := by simpa using hn0
    have z0_2 : decide (gs.length = 0) = true := by simpa using hn0
    clear hn0
    go_enter Try.func5, Try.ntmps5
    go_wp2_with fail
    refine (awake25_calls _).mono ?_
    rintro e w1 ⟨rfl, hb1⟩
    go_wp2_with fail
    refine (awake25_calls _).mono ?_
    rintro e w3 ⟨rfl, hb3⟩
    go_wp2_with fail
    go_ret
    exact ⟨rfl, hb1.trans (hb3.mono hb1.size)⟩
  have z0_0 : ((gs.length : Int) == 0) = false := by simpa using hn0
  have z0_1 : (gs.length == 0) = false := by simpa using hn0
  have z0_2 : decide (gs.length = 0) = false := by simpa using hn0
  have hpos : 0 < gs.length := by omega
  have Hhn0 := Lib.hid hn0
  clear hn0
  by_cases h60 : 60 < gs.length
  · have z1_0 : decide (60 < (gs.length : Int)) = true := by simp; omega
    have z1_1 : decide (60 < gs.length) = true := by simp; omega
    have z1_n : 60 < gs.length := h60
    clear h60
    go_enter Try.func5, Try.ntmps5
    go_wp2_with fail
    refine (awake25_calls _).mono ?_
    rintro e w1 ⟨rfl, hb1⟩
    go_wp2_with fail
    refine (awake25_calls _).mono ?_
    rintro e w3 ⟨rfl, hb3⟩
    go_wp2_with fail
    go_ret
    exact ⟨rfl, hb1.trans (hb3.mono hb1.size)⟩
  have z1_0 : decide (60 < (gs.length : Int)) = false := by simp; omega
  have z1_1 : decide (60 < gs.length) = false := by simp; omega
  have z1_n : ¬ 60 < gs.length := h60
  have Hh60 := Lib.hid h60
  clear h60
  by_cases hue : us.length ≠ gs.length
  · have z2_0 : ((us.length : Int) != (gs.length : Int)) = true := by simp; omega
    have z2_1 : (us.length != gs.length) = true := by simp; omega
    clear hue
    go_enter Try.func5, Try.ntmps5
    go_wp2_with fail
    refine (awake25_calls _).mono ?_
    rintro e w1 ⟨rfl, hb1⟩
    go_wp2_with fail
    refine (awake25_calls _).mono ?_
    rintro e w3 ⟨rfl, hb3⟩
    go_wp2_with fail
    go_ret
    exact ⟨rfl, hb1.trans (hb3.mono hb1.size)⟩
  have z2_0 : ((us.length : Int) != (gs.length : Int)) = false := by simp; omega
  have z2_1 : (us.length != gs.length) = false := by simp; omega
  have HUL : Hid (us.length = gs.length) := Lib.hid (by omega)
  have Hhue := Lib.hid hue
  clear hue
  by_cases hl60 : 60 < l.length
  · have z3_0 : decide (60 < (l.length : Int)) = true := by simp; omega
    have z3_1 : decide (60 < l.length) = true := by simp; omega
    have z3_n : 60 < l.length := hl60
    clear hl60
    go_enter Try.func5, Try.ntmps5
    go_wp2_with fail
    refine (awake25_calls _).mono ?_
    rintro e w1 ⟨rfl, hb1⟩
    go_wp2_with fail
    refine (awake25_calls _).mono ?_
    rintro e w3 ⟨rfl, hb3⟩
    go_wp2_with fail
    go_ret
    exact ⟨rfl, hb1.trans (hb3.mono hb1.size)⟩
  have z3_0 : decide (60 < (l.length : Int)) = false := by simp; omega
  have z3_1 : decide (60 < l.length) = false := by simp; omega
  have z3_n : ¬ 60 < l.length := hl60
  have Hhl60 := Lib.hid hl60
  clear hl60
  obtain ⟨i, hi, he⟩ := tmod_indexZ hx0 hpos
  go_enter Try.func5, Try.ntmps5
  go_wp2_with fail
  refine (awake25_calls _).mono ?_
  rintro e w1 ⟨rfl, hb1⟩
  go_wp2_with fail
  have hG1 := Kd.C_mono hb1 hG
  have hL1 := Kd.C_mono hb1 hL
  have hU1 := Kd.C_mono hb1 hU
  refine (funcs_calls GA gc gs i LA lc l UA uc us _ hi hG1 hL1 HWF.out hl2 hU1 HUL.out (by have := Hh60.out; omega)).mono ?_
  rintro r w2 ⟨v, F, ts, rfl, own, hF, hb2, hp, -⟩
  obtain ⟨o, ho⟩ : ∃ o, o = i :: ts := ⟨_, rfl⟩
  rw [← ho] at own
  have OF := ordF (by rw [HUL.out]; exact hi) hp
  rw [← ho] at OF
  have hop : 0 < o.length := by rw [ho]; simp
  obtain ⟨OA, oc, rfl, hoc, hocm, CO, -⟩ := own.readN
  have hol : o.length ≤ 9223372036854775807 := Nat.le_trans hoc hocm
  have t2 := hb1.trans (hb2.mono hb1.size)
  have hU2 := Kd.C_mono t2 hU
  have OF' := Lib.hid OF
  obtain ⟨w3, hm3, row3, hb3, hz3⟩ := make_bools gs.length (by have := Hh60.out; omega) w2
  have HZ3 := Lib.hid hz3
  have HCO := Lib.hid CO
  have HHF := Lib.hid Hh60.out
  clear hG hL hU hG1 hL1 hU1 own hF hb1 hb2 hp ho OF hz3 CO hoc hocm z0_0 z0_1 z0_2 z1_0 z1_1 z1_n z2_0 z2_1 z3_0 z3_1 z3_n he hx0 hx1
  go_wp2_with fail
  go_loopw [12] (fun v wr => ∃ (k : Nat), k ≤ o.length ∧ v = .int .i64 (k : Int) ∧ RowB wr w2.heap.size (seenL gs.length (o.take k)) ∧ Below w2.heap.size w2 wr) (fun v _ => o.length - (intOf v).toNat)
  case atStart => exact ⟨0, Nat.zero_le _, rfl, by rw [List.take_zero, seenL_nil]; exact row3, hb3⟩
  case round =>
    clear row3 hb3 hm3
    obtain ⟨k, hk, rfl, hrow, hbr⟩ := hrel
    by_cases hlt : k < o.length
    · obtain ⟨y, hy⟩ := get_some o k hlt
      have hyl : y < us.length := OF'.out.lt y (List.mem_of_getElem? hy)
      have hyn : y < gs.length := by rw [← HUL.out]; exact hyl
      obtain ⟨go, rfl, hgo, cy⟩ := HCO.out k y hy
      have cy' := (Below.cell hbr hgo).trans cy
      have hnot : y ∉ o.take k := fun hm => by
        obtain ⟨j, hj⟩ := List.mem_iff_getElem?.1 hm
        rw [List.getElem?_take] at hj
        split at hj
        · rename_i hjk
          have e1 := List.getElem?_eq_some_iff.1 hj
          have e2 := List.getElem?_eq_some_iff.1 hy
          exact List.pairwise_iff_getElem.1 OF'.out.nodup j k e1.1 e2.1 hjk (e1.2.trans e2.2.symm)
        · cases hj
      have cs := hrow.cell (seenL_get (xs := o.take k) hyn)
      have ds : decide (y ∈ o.take k) = false := by simpa using hnot
      rw [ds] at cs
      have fz := hrow.frozen y
      obtain ⟨hset, hgr⟩ := hrow.set y true
      rw [seenL_set, ← take_snoc hy] at hset
      have hb4 := hbr.grown hgr hbr.size (fun j hj => by injection hj with hj; omega)
      have HS := Lib.hid (And.intro hset hb4)
      have zz : ¬ ((gs.length : Int) ≤ (y : Int)) := by omega
      by_cases hk0 : k = 0
      · subst hk0
        clear hrow hset hgr hb4 hnot ds hy hyl cy
        go_wp2_with fail
        exact ⟨⟨1, by omega, by go_num, HS.out⟩, by simp [intOf]; omega⟩
      · have hkp : 0 < k := by omega
        obtain ⟨ad, rfl, cu⟩ := useB_at (Kd.C_mono hbr hU2) (OF'.out.used k y hy hkp)
        clear hrow hset hgr hb4 hnot ds hy cy
        go_wp2_with fail
        exact ⟨⟨k + 1, by omega, by go_num, HS.out⟩, by simp [intOf]; omega⟩
    · obtain rfl : k = o.length := by omega
      rw [List.take_length] at hrow
      go_wp2_with fail
      go_loopw [13] (fun v w5 => ∃ (k : Nat), k ≤ gs.length ∧ v = .int .i64 (k : Int) ∧ RowB w5 w2.heap.size (seenL gs.length o) ∧ Below w2.heap.size w2 w5) (fun v _ => gs.length - (intOf v).toNat)
      case atStart => exact ⟨0, Nat.zero_le _, rfl, hrow, hbr⟩
      case round =>
        clear hrow hbr
        obtain ⟨k, hk2, rfl, hrow, hbr⟩ := hrel
        by_cases hlt2 : k < gs.length
        · obtain ⟨b, hb⟩ := get_some us k (by rw [HUL.out]; exact hlt2)
          obtain ⟨ad, rfl, cu⟩ := useB_at (Kd.C_mono hbr hU2) hb
          have cs := hrow.cell (seenL_get (xs := o) hlt2)
          have hku : k < us.length := (List.getElem?_eq_some_iff.1 hb).1
          have hm := OF'.out.mem k b hb
          have HR := Lib.hid hrow
          have HBR := Lib.hid hbr
          clear hrow hbr
          by_cases hke : k = i
          · have ds : decide (k ∈ o) = true := decide_eq_true (hm.2 (.inr hke))
            rw [ds] at cs
            have z1 : ((k : Int) == (i : Int)) = true := by simp [hke]
            have z2 : (k == i) = true := by simp [hke]
            clear hm hke ds
            cases b with
            | true =>
              clear hb
              go_upto_region 15 with fail
              refine wp_region_held_drew (S := (fun w' => w'.cell? ⟨w2.heap.size, k, none⟩ = some (.bool true) ∧ w'.cell? (ad.add k) = some (.bool true))) (by kernel_rfl) (⟨cs, cu⟩) (fun hHeld => ?_)
              refine wpAnyH_take (i := 0) (oi := _) (v := ?v15n1_0) rfl (by kernel_rfl) (by kernel_rfl) (by kernel_rfl) (fun _ _ _ h => h) (Or.inl ⟨by rfl, ?hy15n1_0⟩) hHeld ?_
              case hy15n1_0 => (intro wS hSw; (try dsimp only at hSw); obtain ⟨s0, s1⟩ := hSw; go_simp; try with_reducible rfl)
              try simp only [List.getElem_toArray, List.getElem_cons_succ, List.getElem_cons_zero, Act.put, List.setIfInBounds_toArray, List.set_cons_zero, List.set_cons_succ]
              refine wpAnyH_take (i := 1) (oi := _) (v := ?v15n1_1) rfl (by kernel_rfl) (by kernel_rfl) (by kernel_rfl) (fun _ _ _ h => h) (Or.inl ⟨by rfl, ?hy15n1_1⟩) hHeld ?_
              case hy15n1_1 => (intro wS hSw; (try dsimp only at hSw); obtain ⟨s0, s1⟩ := hSw; go_simp; try with_reducible rfl)
              try simp only [List.getElem_toArray, List.getElem_cons_succ, List.getElem_cons_zero, Act.put, List.setIfInBounds_toArray, List.set_cons_zero, List.set_cons_succ]
              refine wpAnyH_take (i := 2) (oi := _) (v := ?v15n1_2) rfl (by kernel_rfl) (by kernel_rfl) (by kernel_rfl) (fun _ _ _ h => h) (Or.inl ⟨by rfl, ?hy15n1_2⟩) hHeld ?_
              case hy15n1_2 => (intro wS hSw; (try dsimp only at hSw); obtain ⟨s0, s1⟩ := hSw; go_simp; try with_reducible rfl)
              try simp only [List.getElem_toArray, List.getElem_cons_succ, List.getElem_cons_zero, Act.put, List.setIfInBounds_toArray, List.set_cons_zero, List.set_cons_succ]
              refine wpAnyH_take (i := 3) (oi := _) (v := ?v15n1_3) rfl (by kernel_rfl) (by kernel_rfl) (by kernel_rfl) (fun _ _ _ h => h) (Or.inl ⟨by rfl, ?hy15n1_3⟩) hHeld ?_
              case hy15n1_3 => (intro wS hSw; (try dsimp only at hSw); obtain ⟨s0, s1⟩ := hSw; go_simp; try with_reducible rfl)
              try simp only [List.getElem_toArray, List.getElem_cons_succ, List.getElem_cons_zero, Act.put, List.setIfInBounds_toArray, List.set_cons_zero, List.set_cons_succ]
              refine wpAnyH_take (i := 4) (oi := _) (v := ?v15n1_4) rfl (by kernel_rfl) (by kernel_rfl) (by kernel_rfl) (fun _ _ _ h => h) (Or.inl ⟨by rfl, ?hy15n1_4⟩) hHeld ?_
              case hy15n1_4 => (intro wS hSw; (try dsimp only at hSw); obtain ⟨s0, s1⟩ := hSw; go_simp; try with_reducible rfl)
              try simp only [List.getElem_toArray, List.getElem_cons_succ, List.getElem_cons_zero, Act.put, List.setIfInBounds_toArray, List.set_cons_zero, List.set_cons_succ]
              refine wpAnyH_take (i := 5) (oi := _) (v := ?v15n1_5) rfl (by kernel_rfl) (by kernel_rfl) (by kernel_rfl) (fun _ _ _ h => h) (Or.inl ⟨by rfl, ?hy15n1_5⟩) hHeld ?_
              case hy15n1_5 => (intro wS hSw; (try dsimp only at hSw); obtain ⟨s0, s1⟩ := hSw; go_simp; try with_reducible rfl)
              try simp only [List.getElem_toArray, List.getElem_cons_succ, List.getElem_cons_zero, Act.put, List.setIfInBounds_toArray, List.set_cons_zero, List.set_cons_succ]
              refine wpAnyH_take (i := 6) (oi := _) (v := ?v15n1_6) rfl (by kernel_rfl) (by kernel_rfl) (by kernel_rfl) (fun _ _ _ h => h) (Or.inl ⟨by rfl, ?hy15n1_6⟩) hHeld ?_
              case hy15n1_6 => (intro wS hSw; (try dsimp only at hSw); obtain ⟨s0, s1⟩ := hSw; go_simp; try with_reducible rfl)
              try simp only [List.getElem_toArray, List.getElem_cons_succ, List.getElem_cons_zero, Act.put, List.setIfInBounds_toArray, List.set_cons_zero, List.set_cons_succ]
              refine wpAnyH_take (i := 7) (oi := _) (v := ?v15n1_7) rfl (by kernel_rfl) (by kernel_rfl) (by kernel_rfl) (fun _ _ _ h => h) (Or.inl ⟨by rfl, ?hy15n1_7⟩) hHeld ?_
              case hy15n1_7 => (intro wS hSw; (try dsimp only at hSw); obtain ⟨s0, s1⟩ := hSw; go_simp; try with_reducible rfl)
              try simp only [List.getElem_toArray, List.getElem_cons_succ, List.getElem_cons_zero, Act.put, List.setIfInBounds_toArray, List.set_cons_zero, List.set_cons_succ]
              refine wpAnyH_take (i := 8) (oi := _) (v := ?v15n1_8) rfl (by kernel_rfl) (by kernel_rfl) (by kernel_rfl) (fun _ _ _ h => h) (Or.inl ⟨by rfl, ?hy15n1_8⟩) hHeld ?_
              case hy15n1_8 => (intro wS hSw; (try dsimp only at hSw); obtain ⟨s0, s1⟩ := hSw; go_simp; try with_reducible rfl)
              try simp only [List.getElem_toArray, List.getElem_cons_succ, List.getElem_cons_zero, Act.put, List.setIfInBounds_toArray, List.set_cons_zero, List.set_cons_succ]
              refine wpAnyH_take (i := 9) (oi := _) (v := undef) rfl (by kernel_rfl) (by kernel_rfl) (by kernel_rfl) (fun _ _ _ h => h) (Or.inr ⟨by rfl, rfl⟩) hHeld ?_
              try simp only [List.getElem_toArray, List.getElem_cons_succ, List.getElem_cons_zero, Act.put, List.setIfInBounds_toArray, List.set_cons_zero, List.set_cons_succ]
              refine wpAnyH_take (i := 10) (oi := _) (v := undef) rfl (by kernel_rfl) (by kernel_rfl) (by kernel_rfl) (fun _ _ _ h => h) (Or.inr ⟨by rfl, rfl⟩) hHeld ?_
              try simp only [List.getElem_toArray, List.getElem_cons_succ, List.getElem_cons_zero, Act.put, List.setIfInBounds_toArray, List.set_cons_zero, List.set_cons_succ]
              refine wpAnyH_take (i := 11) (oi := _) (v := undef) rfl (by kernel_rfl) (by kernel_rfl) (by kernel_rfl) (fun _ _ _ h => h) (Or.inr ⟨by rfl, rfl⟩) hHeld ?_
              try simp only [List.getElem_toArray, List.getElem_cons_succ, List.getElem_cons_zero, Act.put, List.setIfInBounds_toArray, List.set_cons_zero, List.set_cons_succ]
              refine wpAnyH_take (i := 12) (oi := _) (v := ?v15n1_12) rfl (by kernel_rfl) (by kernel_rfl) (by kernel_rfl) (fun _ _ _ h => h) (Or.inl ⟨by rfl, ?hy15n1_12⟩) hHeld ?_
              case hy15n1_12 => (intro wS hSw; (try dsimp only at hSw); obtain ⟨s0, s1⟩ := hSw; go_simp; try with_reducible rfl)
              try simp only [List.getElem_toArray, List.getElem_cons_succ, List.getElem_cons_zero, Act.put, List.setIfInBounds_toArray, List.set_cons_zero, List.set_cons_succ]
              refine wpAnyH_take (i := 13) (oi := _) (v := ?v15n1_13) rfl (by kernel_rfl) (by kernel_rfl) (by kernel_rfl) (fun _ _ _ h => h) (Or.inl ⟨by rfl, ?hy15n1_13⟩) hHeld ?_
              case hy15n1_13 => (intro wS hSw; (try dsimp only at hSw); obtain ⟨s0, s1⟩ := hSw; go_simp; try with_reducible rfl)
              try simp only [List.getElem_toArray, List.getElem_cons_succ, List.getElem_cons_zero, Act.put, List.setIfInBounds_toArray, List.set_cons_zero, List.set_cons_succ]
              refine wpAnyH_done (by kernel_rfl) ?_ _
              go_wp2_with fail
              exact ⟨⟨k + 1, by omega, by go_num, HR.out, HBR.out.drew⟩, by simp [intOf]; omega⟩
            | false =>
              clear hb
              go_upto_region 15 with fail
              refine wp_region_held_drew (S := (fun w' => w'.cell? ⟨w2.heap.size, k, none⟩ = some (.bool true) ∧ w'.cell? (ad.add k) = some (.bool false))) (by kernel_rfl) (⟨cs, cu⟩) (fun hHeld => ?_)
              refine wpAnyH_take (i := 0) (oi := _) (v := ?v15n2_0) rfl (by kernel_rfl) (by kernel_rfl) (by kernel_rfl) (fun _ _ _ h => h) (Or.inl ⟨by rfl, ?hy15n2_0⟩) hHeld ?_
              case hy15n2_0 => (intro wS hSw; (try dsimp only at hSw); obtain ⟨s0, s1⟩ := hSw; go_simp; try with_reducible rfl)
              try simp only [List.getElem_toArray, List.getElem_cons_succ, List.getElem_cons_zero, Act.put, List.setIfInBounds_toArray, List.set_cons_zero, List.set_cons_succ]
              refine wpAnyH_take (i := 1) (oi := _) (v := ?v15n2_1) rfl (by kernel_rfl) (by kernel_rfl) (by kernel_rfl) (fun _ _ _ h => h) (Or.inl ⟨by rfl, ?hy15n2_1⟩) hHeld ?_
              case hy15n2_1 => (intro wS hSw; (try dsimp only at hSw); obtain ⟨s0, s1⟩ := hSw; go_simp; try with_reducible rfl)
              try simp only [List.getElem_toArray, List.getElem_cons_succ, List.getElem_cons_zero, Act.put, List.setIfInBounds_toArray, List.set_cons_zero, List.set_cons_succ]
              refine wpAnyH_take (i := 2) (oi := _) (v := ?v15n2_2) rfl (by kernel_rfl) (by kernel_rfl) (by kernel_rfl) (fun _ _ _ h => h) (Or.inl ⟨by rfl, ?hy15n2_2⟩) hHeld ?_
              case hy15n2_2 => (intro wS hSw; (try dsimp only at hSw); obtain ⟨s0, s1⟩ := hSw; go_simp; try with_reducible rfl)
              try simp only [List.getElem_toArray, List.getElem_cons_succ, List.getElem_cons_zero, Act.put, List.setIfInBounds_toArray, List.set_cons_zero, List.set_cons_succ]
              refine wpAnyH_take (i := 3) (oi := _) (v := ?v15n2_3) rfl (by kernel_rfl) (by kernel_rfl) (by kernel_rfl) (fun _ _ _ h => h) (Or.inl ⟨by rfl, ?hy15n2_3⟩) hHeld ?_
              case hy15n2_3 => (intro wS hSw; (try dsimp only at hSw); obtain ⟨s0, s1⟩ := hSw; go_simp; try with_reducible rfl)
              try simp only [List.getElem_toArray, List.getElem_cons_succ, List.getElem_cons_zero, Act.put, List.setIfInBounds_toArray, List.set_cons_zero, List.set_cons_succ]
              refine wpAnyH_take (i := 4) (oi := _) (v := ?v15n2_4) rfl (by kernel_rfl) (by kernel_rfl) (by kernel_rfl) (fun _ _ _ h => h) (Or.inl ⟨by rfl, ?hy15n2_4⟩) hHeld ?_
              case hy15n2_4 => (intro wS hSw; (try dsimp only at hSw); obtain ⟨s0, s1⟩ := hSw; go_simp; try with_reducible rfl)
              try simp only [List.getElem_toArray, List.getElem_cons_succ, List.getElem_cons_zero, Act.put, List.setIfInBounds_toArray, List.set_cons_zero, List.set_cons_succ]
              refine wpAnyH_take (i := 5) (oi := _) (v := ?v15n2_5) rfl (by kernel_rfl) (by kernel_rfl) (by kernel_rfl) (fun _ _ _ h => h) (Or.inl ⟨by rfl, ?hy15n2_5⟩) hHeld ?_
              case hy15n2_5 => (intro wS hSw; (try dsimp only at hSw); obtain ⟨s0, s1⟩ := hSw; go_simp; try with_reducible rfl)
              try simp only [List.getElem_toArray, List.getElem_cons_succ, List.getElem_cons_zero, Act.put, List.setIfInBounds_toArray, List.set_cons_zero, List.set_cons_succ]
              refine wpAnyH_take (i := 6) (oi := _) (v := ?v15n2_6) rfl (by kernel_rfl) (by kernel_rfl) (by kernel_rfl) (fun _ _ _ h => h) (Or.inl ⟨by rfl, ?hy15n2_6⟩) hHeld ?_
              case hy15n2_6 => (intro wS hSw; (try dsimp only at hSw); obtain ⟨s0, s1⟩ := hSw; go_simp; try with_reducible rfl)
              try simp only [List.getElem_toArray, List.getElem_cons_succ, List.getElem_cons_zero, Act.put, List.setIfInBounds_toArray, List.set_cons_zero, List.set_cons_succ]
              refine wpAnyH_take (i := 7) (oi := _) (v := ?v15n2_7) rfl (by kernel_rfl) (by kernel_rfl) (by kernel_rfl) (fun _ _ _ h => h) (Or.inl ⟨by rfl, ?hy15n2_7⟩) hHeld ?_
              case hy15n2_7 => (intro wS hSw; (try dsimp only at hSw); obtain ⟨s0, s1⟩ := hSw; go_simp; try with_reducible rfl)
              try simp only [List.getElem_toArray, List.getElem_cons_succ, List.getElem_cons_zero, Act.put, List.setIfInBounds_toArray, List.set_cons_zero, List.set_cons_succ]
              refine wpAnyH_take (i := 8) (oi := _) (v := ?v15n2_8) rfl (by kernel_rfl) (by kernel_rfl) (by kernel_rfl) (fun _ _ _ h => h) (Or.inl ⟨by rfl, ?hy15n2_8⟩) hHeld ?_
              case hy15n2_8 => (intro wS hSw; (try dsimp only at hSw); obtain ⟨s0, s1⟩ := hSw; go_simp; try with_reducible rfl)
              try simp only [List.getElem_toArray, List.getElem_cons_succ, List.getElem_cons_zero, Act.put, List.setIfInBounds_toArray, List.set_cons_zero, List.set_cons_succ]
              refine wpAnyH_take (i := 9) (oi := _) (v := ?v15n2_9) rfl (by kernel_rfl) (by kernel_rfl) (by kernel_rfl) (fun _ _ _ h => h) (Or.inl ⟨by rfl, ?hy15n2_9⟩) hHeld ?_
              case hy15n2_9 => (intro wS hSw; (try dsimp only at hSw); obtain ⟨s0, s1⟩ := hSw; go_simp; try with_reducible rfl)
              try simp only [List.getElem_toArray, List.getElem_cons_succ, List.getElem_cons_zero, Act.put, List.setIfInBounds_toArray, List.set_cons_zero, List.set_cons_succ]
              refine wpAnyH_take (i := 10) (oi := _) (v := ?v15n2_10) rfl (by kernel_rfl) (by kernel_rfl) (by kernel_rfl) (fun _ _ _ h => h) (Or.inl ⟨by rfl, ?hy15n2_10⟩) hHeld ?_
              case hy15n2_10 => (intro wS hSw; (try dsimp only at hSw); obtain ⟨s0, s1⟩ := hSw; go_simp; try with_reducible rfl)
              try simp only [List.getElem_toArray, List.getElem_cons_succ, List.getElem_cons_zero, Act.put, List.setIfInBounds_toArray, List.set_cons_zero, List.set_cons_succ]
              refine wpAnyH_take (i := 11) (oi := _) (v := ?v15n2_11) rfl (by kernel_rfl) (by kernel_rfl) (by kernel_rfl) (fun _ _ _ h => h) (Or.inl ⟨by rfl, ?hy15n2_11⟩) hHeld ?_
              case hy15n2_11 => (intro wS hSw; (try dsimp only at hSw); obtain ⟨s0, s1⟩ := hSw; go_simp; try with_reducible rfl)
              try simp only [List.getElem_toArray, List.getElem_cons_succ, List.getElem_cons_zero, Act.put, List.setIfInBounds_toArray, List.set_cons_zero, List.set_cons_succ]
              refine wpAnyH_take (i := 12) (oi := _) (v := ?v15n2_12) rfl (by kernel_rfl) (by kernel_rfl) (by kernel_rfl) (fun _ _ _ h => h) (Or.inl ⟨by rfl, ?hy15n2_12⟩) hHeld ?_
              case hy15n2_12 => (intro wS hSw; (try dsimp only at hSw); obtain ⟨s0, s1⟩ := hSw; go_simp; try with_reducible rfl)
              try simp only [List.getElem_toArray, List.getElem_cons_succ, List.getElem_cons_zero, Act.put, List.setIfInBounds_toArray, List.set_cons_zero, List.set_cons_succ]
              refine wpAnyH_take (i := 13) (oi := _) (v := ?v15n2_13) rfl (by kernel_rfl) (by kernel_rfl) (by kernel_rfl) (fun _ _ _ h => h) (Or.inl ⟨by rfl, ?hy15n2_13⟩) hHeld ?_
              case hy15n2_13 => (intro wS hSw; (try dsimp only at hSw); obtain ⟨s0, s1⟩ := hSw; go_simp; try with_reducible rfl)
              try simp only [List.getElem_toArray, List.getElem_cons_succ, List.getElem_cons_zero, Act.put, List.setIfInBounds_toArray, List.set_cons_zero, List.set_cons_succ]
              refine wpAnyH_done (by kernel_rfl) ?_ _
              go_wp2_with fail
              exact ⟨⟨k + 1, by omega, by go_num, HR.out, HBR.out.drew⟩, by simp [intOf]; omega⟩
          · have z1 : ((k : Int) == (i : Int)) = false := by simp; omega
            have z2 : (k == i) = false := by simp [hke]
            have ds : decide (k ∈ o) = b := by
              cases b with
              | true => exact decide_eq_true (hm.2 (.inl rfl))
              | false => exact decide_eq_false (fun h => by rcases hm.1 h with h | h; cases h; exact hke h)
            rw [ds] at cs
            clear hm hke ds hb
            cases b with
            | true =>
              go_upto_region 15 with fail
              refine wp_region_held_drew (S := (fun w' => w'.cell? ⟨w2.heap.size, k, none⟩ = some (.bool true) ∧ w'.cell? (ad.add k) = some (.bool true))) (by kernel_rfl) (⟨cs, cu⟩) (fun hHeld => ?_)
              refine wpAnyH_take (i := 0) (oi := _) (v := ?v15n3_0) rfl (by kernel_rfl) (by kernel_rfl) (by kernel_rfl) (fun _ _ _ h => h) (Or.inl ⟨by rfl, ?hy15n3_0⟩) hHeld ?_
              case hy15n3_0 => (intro wS hSw; (try dsimp only at hSw); obtain ⟨s0, s1⟩ := hSw; go_simp; try with_reducible rfl)
              try simp only [List.getElem_toArray, List.getElem_cons_succ, List.getElem_cons_zero, Act.put, List.setIfInBounds_toArray, List.set_cons_zero, List.set_cons_succ]
              refine wpAnyH_take (i := 1) (oi := _) (v := ?v15n3_1) rfl (by kernel_rfl) (by kernel_rfl) (by kernel_rfl) (fun _ _ _ h => h) (Or.inl ⟨by rfl, ?hy15n3_1⟩) hHeld ?_
              case hy15n3_1 => (intro wS hSw; (try dsimp only at hSw); obtain ⟨s0, s1⟩ := hSw; go_simp; try with_reducible rfl)
              try simp only [List.getElem_toArray, List.getElem_cons_succ, List.getElem_cons_zero, Act.put, List.setIfInBounds_toArray, List.set_cons_zero, List.set_cons_succ]
              refine wpAnyH_take (i := 2) (oi := _) (v := ?v15n3_2) rfl (by kernel_rfl) (by kernel_rfl) (by kernel_rfl) (fun _ _ _ h => h) (Or.inl ⟨by rfl, ?hy15n3_2⟩) hHeld ?_
              case hy15n3_2 => (intro wS hSw; (try dsimp only at hSw); obtain ⟨s0, s1⟩ := hSw; go_simp; try with_reducible rfl)
              try simp only [List.getElem_toArray, List.getElem_cons_succ, List.getElem_cons_zero, Act.put, List.setIfInBounds_toArray, List.set_cons_zero, List.set_cons_succ]
              refine wpAnyH_take (i := 3) (oi := _) (v := ?v15n3_3) rfl (by kernel_rfl) (by kernel_rfl) (by kernel_rfl) (fun _ _ _ h => h) (Or.inl ⟨by rfl, ?hy15n3_3⟩) hHeld ?_
              case hy15n3_3 => (intro wS hSw; (try dsimp only at hSw); obtain ⟨s0, s1⟩ := hSw; go_simp; try with_reducible rfl)
              try simp only [List.getElem_toArray, List.getElem_cons_succ, List.getElem_cons_zero, Act.put, List.setIfInBounds_toArray, List.set_cons_zero, List.set_cons_succ]
              refine wpAnyH_take (i := 4) (oi := _) (v := ?v15n3_4) rfl (by kernel_rfl) (by kernel_rfl) (by kernel_rfl) (fun _ _ _ h => h) (Or.inl ⟨by rfl, ?hy15n3_4⟩) hHeld ?_
              case hy15n3_4 => (intro wS hSw; (try dsimp only at hSw); obtain ⟨s0, s1⟩ := hSw; go_simp; try with_reducible rfl)
              try simp only [List.getElem_toArray, List.getElem_cons_succ, List.getElem_cons_zero, Act.put, List.setIfInBounds_toArray, List.set_cons_zero, List.set_cons_succ]
              refine wpAnyH_take (i := 5) (oi := _) (v := ?v15n3_5) rfl (by kernel_rfl) (by kernel_rfl) (by kernel_rfl) (fun _ _ _ h => h) (Or.inl ⟨by rfl, ?hy15n3_5⟩) hHeld ?_
              case hy15n3_5 => (intro wS hSw; (try dsimp only at hSw); obtain ⟨s0, s1⟩ := hSw; go_simp; try with_reducible rfl)
              try simp only [List.getElem_toArray, List.getElem_cons_succ, List.getElem_cons_zero, Act.put, List.setIfInBounds_toArray, List.set_cons_zero, List.set_cons_succ]
              refine wpAnyH_take (i := 6) (oi := _) (v := ?v15n3_6) rfl (by kernel_rfl) (by kernel_rfl) (by kernel_rfl) (fun _ _ _ h => h) (Or.inl ⟨by rfl, ?hy15n3_6⟩) hHeld ?_
              case hy15n3_6 => (intro wS hSw; (try dsimp only at hSw); obtain ⟨s0, s1⟩ := hSw; go_simp; try with_reducible rfl)
              try simp only [List.getElem_toArray, List.getElem_cons_succ, List.getElem_cons_zero, Act.put, List.setIfInBounds_toArray, List.set_cons_zero, List.set_cons_succ]
              refine wpAnyH_take (i := 7) (oi := _) (v := ?v15n3_7) rfl (by kernel_rfl) (by kernel_rfl) (by kernel_rfl) (fun _ _ _ h => h) (Or.inl ⟨by rfl, ?hy15n3_7⟩) hHeld ?_
              case hy15n3_7 => (intro wS hSw; (try dsimp only at hSw); obtain ⟨s0, s1⟩ := hSw; go_simp; try with_reducible rfl)
              try simp only [List.getElem_toArray, List.getElem_cons_succ, List.getElem_cons_zero, Act.put, List.setIfInBounds_toArray, List.set_cons_zero, List.set_cons_succ]
              refine wpAnyH_take (i := 8) (oi := _) (v := ?v15n3_8) rfl (by kernel_rfl) (by kernel_rfl) (by kernel_rfl) (fun _ _ _ h => h) (Or.inl ⟨by rfl, ?hy15n3_8⟩) hHeld ?_
              case hy15n3_8 => (intro wS hSw; (try dsimp only at hSw); obtain ⟨s0, s1⟩ := hSw; go_simp; try with_reducible rfl)
              try simp only [List.getElem_toArray, List.getElem_cons_succ, List.getElem_cons_zero, Act.put, List.setIfInBounds_toArray, List.set_cons_zero, List.set_cons_succ]
              refine wpAnyH_take (i := 9) (oi := _) (v := undef) rfl (by kernel_rfl) (by kernel_rfl) (by kernel_rfl) (fun _ _ _ h => h) (Or.inr ⟨by rfl, rfl⟩) hHeld ?_
              try simp only [List.getElem_toArray, List.getElem_cons_succ, List.getElem_cons_zero, Act.put, List.setIfInBounds_toArray, List.set_cons_zero, List.set_cons_succ]
              refine wpAnyH_take (i := 10) (oi := _) (v := undef) rfl (by kernel_rfl) (by kernel_rfl) (by kernel_rfl) (fun _ _ _ h => h) (Or.inr ⟨by rfl, rfl⟩) hHeld ?_
              try simp only [List.getElem_toArray, List.getElem_cons_succ, List.getElem_cons_zero, Act.put, List.setIfInBounds_toArray, List.set_cons_zero, List.set_cons_succ]
              refine wpAnyH_take (i := 11) (oi := _) (v := undef) rfl (by kernel_rfl) (by kernel_rfl) (by kernel_rfl) (fun _ _ _ h => h) (Or.inr ⟨by rfl, rfl⟩) hHeld ?_
              try simp only [List.getElem_toArray, List.getElem_cons_succ, List.getElem_cons_zero, Act.put, List.setIfInBounds_toArray, List.set_cons_zero, List.set_cons_succ]
              refine wpAnyH_take (i := 12) (oi := _) (v := ?v15n3_12) rfl (by kernel_rfl) (by kernel_rfl) (by kernel_rfl) (fun _ _ _ h => h) (Or.inl ⟨by rfl, ?hy15n3_12⟩) hHeld ?_
              case hy15n3_12 => (intro wS hSw; (try dsimp only at hSw); obtain ⟨s0, s1⟩ := hSw; go_simp; try with_reducible rfl)
              try simp only [List.getElem_toArray, List.getElem_cons_succ, List.getElem_cons_zero, Act.put, List.setIfInBounds_toArray, List.set_cons_zero, List.set_cons_succ]
              refine wpAnyH_take (i := 13) (oi := _) (v := ?v15n3_13) rfl (by kernel_rfl) (by kernel_rfl) (by kernel_rfl) (fun _ _ _ h => h) (Or.inl ⟨by rfl, ?hy15n3_13⟩) hHeld ?_
              case hy15n3_13 => (intro wS hSw; (try dsimp only at hSw); obtain ⟨s0, s1⟩ := hSw; go_simp; try with_reducible rfl)
              try simp only [List.getElem_toArray, List.getElem_cons_succ, List.getElem_cons_zero, Act.put, List.setIfInBounds_toArray, List.set_cons_zero, List.set_cons_succ]
              refine wpAnyH_done (by kernel_rfl) ?_ _
              go_wp2_with fail
              exact ⟨⟨k + 1, by omega, by go_num, HR.out, HBR.out.drew⟩, by simp [intOf]; omega⟩
            | false =>
              go_upto_region 15 with fail
              refine wp_region_held_drew (S := (fun w' => w'.cell? ⟨w2.heap.size, k, none⟩ = some (.bool false) ∧ w'.cell? (ad.add k) = some (.bool false))) (by kernel_rfl) (⟨cs, cu⟩) (fun hHeld => ?_)
              refine wpAnyH_take (i := 0) (oi := _) (v := ?v15n4_0) rfl (by kernel_rfl) (by kernel_rfl) (by kernel_rfl) (fun _ _ _ h => h) (Or.inl ⟨by rfl, ?hy15n4_0⟩) hHeld ?_
              case hy15n4_0 => (intro wS hSw; (try dsimp only at hSw); obtain ⟨s0, s1⟩ := hSw; go_simp; try with_reducible rfl)
              try simp only [List.getElem_toArray, List.getElem_cons_succ, List.getElem_cons_zero, Act.put, List.setIfInBounds_toArray, List.set_cons_zero, List.set_cons_succ]
              refine wpAnyH_take (i := 1) (oi := _) (v := ?v15n4_1) rfl (by kernel_rfl) (by kernel_rfl) (by kernel_rfl) (fun _ _ _ h => h) (Or.inl ⟨by rfl, ?hy15n4_1⟩) hHeld ?_
              case hy15n4_1 => (intro wS hSw; (try dsimp only at hSw); obtain ⟨s0, s1⟩ := hSw; go_simp; try with_reducible rfl)
              try simp only [List.getElem_toArray, List.getElem_cons_succ, List.getElem_cons_zero, Act.put, List.setIfInBounds_toArray, List.set_cons_zero, List.set_cons_succ]
              refine wpAnyH_take (i := 2) (oi := _) (v := ?v15n4_2) rfl (by kernel_rfl) (by kernel_rfl) (by kernel_rfl) (fun _ _ _ h => h) (Or.inl ⟨by rfl, ?hy15n4_2⟩) hHeld ?_
              case hy15n4_2 => (intro wS hSw; (try dsimp only at hSw); obtain ⟨s0, s1⟩ := hSw; go_simp; try with_reducible rfl)
              try simp only [List.getElem_toArray, List.getElem_cons_succ, List.getElem_cons_zero, Act.put, List.setIfInBounds_toArray, List.set_cons_zero, List.set_cons_succ]
              refine wpAnyH_take (i := 3) (oi := _) (v := ?v15n4_3) rfl (by kernel_rfl) (by kernel_rfl) (by kernel_rfl) (fun _ _ _ h => h) (Or.inl ⟨by rfl, ?hy15n4_3⟩) hHeld ?_
              case hy15n4_3 => (intro wS hSw; (try dsimp only at hSw); obtain ⟨s0, s1⟩ := hSw; go_simp; try with_reducible rfl)
              try simp only [List.getElem_toArray, List.getElem_cons_succ, List.getElem_cons_zero, Act.put, List.setIfInBounds_toArray, List.set_cons_zero, List.set_cons_succ]
              refine wpAnyH_take (i := 4) (oi := _) (v := ?v15n4_4) rfl (by kernel_rfl) (by kernel_rfl) (by kernel_rfl) (fun _ _ _ h => h) (Or.inl ⟨by rfl, ?hy15n4_4⟩) hHeld ?_
              case hy15n4_4 => (intro wS hSw; (try dsimp only at hSw); obtain ⟨s0, s1⟩ := hSw; go_simp; try with_reducible rfl)
              try simp only [List.getElem_toArray, List.getElem_cons_succ, List.getElem_cons_zero, Act.put, List.setIfInBounds_toArray, List.set_cons_zero, List.set_cons_succ]
              refine wpAnyH_take (i := 5) (oi := _) (v := ?v15n4_5) rfl (by kernel_rfl) (by kernel_rfl) (by kernel_rfl) (fun _ _ _ h => h) (Or.inl ⟨by rfl, ?hy15n4_5⟩) hHeld ?_
              case hy15n4_5 => (intro wS hSw; (try dsimp only at hSw); obtain ⟨s0, s1⟩ := hSw; go_simp; try with_reducible rfl)
              try simp only [List.getElem_toArray, List.getElem_cons_succ, List.getElem_cons_zero, Act.put, List.setIfInBounds_toArray, List.set_cons_zero, List.set_cons_succ]
              refine wpAnyH_take (i := 6) (oi := _) (v := ?v15n4_6) rfl (by kernel_rfl) (by kernel_rfl) (by kernel_rfl) (fun _ _ _ h => h) (Or.inl ⟨by rfl, ?hy15n4_6⟩) hHeld ?_
              case hy15n4_6 => (intro wS hSw; (try dsimp only at hSw); obtain ⟨s0, s1⟩ := hSw; go_simp; try with_reducible rfl)
              try simp only [List.getElem_toArray, List.getElem_cons_succ, List.getElem_cons_zero, Act.put, List.setIfInBounds_toArray, List.set_cons_zero, List.set_cons_succ]
              refine wpAnyH_take (i := 7) (oi := _) (v := ?v15n4_7) rfl (by kernel_rfl) (by kernel_rfl) (by kernel_rfl) (fun _ _ _ h => h) (Or.inl ⟨by rfl, ?hy15n4_7⟩) hHeld ?_
              case hy15n4_7 => (intro wS hSw; (try dsimp only at hSw); obtain ⟨s0, s1⟩ := hSw; go_simp; try with_reducible rfl)
              try simp only [List.getElem_toArray, List.getElem_cons_succ, List.getElem_cons_zero, Act.put, List.setIfInBounds_toArray, List.set_cons_zero, List.set_cons_succ]
              refine wpAnyH_take (i := 8) (oi := _) (v := ?v15n4_8) rfl (by kernel_rfl) (by kernel_rfl) (by kernel_rfl) (fun _ _ _ h => h) (Or.inl ⟨by rfl, ?hy15n4_8⟩) hHeld ?_
              case hy15n4_8 => (intro wS hSw; (try dsimp only at hSw); obtain ⟨s0, s1⟩ := hSw; go_simp; try with_reducible rfl)
              try simp only [List.getElem_toArray, List.getElem_cons_succ, List.getElem_cons_zero, Act.put, List.setIfInBounds_toArray, List.set_cons_zero, List.set_cons_succ]
              refine wpAnyH_take (i := 9) (oi := _) (v := ?v15n4_9) rfl (by kernel_rfl) (by kernel_rfl) (by kernel_rfl) (fun _ _ _ h => h) (Or.inl ⟨by rfl, ?hy15n4_9⟩) hHeld ?_
              case hy15n4_9 => (intro wS hSw; (try dsimp only at hSw); obtain ⟨s0, s1⟩ := hSw; go_simp; try with_reducible rfl)
              try simp only [List.getElem_toArray, List.getElem_cons_succ, List.getElem_cons_zero, Act.put, List.setIfInBounds_toArray, List.set_cons_zero, List.set_cons_succ]
              refine wpAnyH_take (i := 10) (oi := _) (v := ?v15n4_10) rfl (by kernel_rfl) (by kernel_rfl) (by kernel_rfl) (fun _ _ _ h => h) (Or.inl ⟨by rfl, ?hy15n4_10⟩) hHeld ?_
              case hy15n4_10 => (intro wS hSw; (try dsimp only at hSw); obtain ⟨s0, s1⟩ := hSw; go_simp; try with_reducible rfl)
              try simp only [List.getElem_toArray, List.getElem_cons_succ, List.getElem_cons_zero, Act.put, List.setIfInBounds_toArray, List.set_cons_zero, List.set_cons_succ]
              refine wpAnyH_take (i := 11) (oi := _) (v := ?v15n4_11) rfl (by kernel_rfl) (by kernel_rfl) (by kernel_rfl) (fun _ _ _ h => h) (Or.inl ⟨by rfl, ?hy15n4_11⟩) hHeld ?_
              case hy15n4_11 => (intro wS hSw; (try dsimp only at hSw); obtain ⟨s0, s1⟩ := hSw; go_simp; try with_reducible rfl)
              try simp only [List.getElem_toArray, List.getElem_cons_succ, List.getElem_cons_zero, Act.put, List.setIfInBounds_toArray, List.set_cons_zero, List.set_cons_succ]
              refine wpAnyH_take (i := 12) (oi := _) (v := ?v15n4_12) rfl (by kernel_rfl) (by kernel_rfl) (by kernel_rfl) (fun _ _ _ h => h) (Or.inl ⟨by rfl, ?hy15n4_12⟩) hHeld ?_
              case hy15n4_12 => (intro wS hSw; (try dsimp only at hSw); obtain ⟨s0, s1⟩ := hSw; go_simp; try with_reducible rfl)
              try simp only [List.getElem_toArray, List.getElem_cons_succ, List.getElem_cons_zero, Act.put, List.setIfInBounds_toArray, List.set_cons_zero, List.set_cons_succ]
              refine wpAnyH_take (i := 13) (oi := _) (v := ?v15n4_13) rfl (by kernel_rfl) (by kernel_rfl) (by kernel_rfl) (fun _ _ _ h => h) (Or.inl ⟨by rfl, ?hy15n4_13⟩) hHeld ?_
              case hy15n4_13 => (intro wS hSw; (try dsimp only at hSw); obtain ⟨s0, s1⟩ := hSw; go_simp; try with_reducible rfl)
              try simp only [List.getElem_toArray, List.getElem_cons_succ, List.getElem_cons_zero, Act.put, List.setIfInBounds_toArray, List.set_cons_zero, List.set_cons_succ]
              refine wpAnyH_done (by kernel_rfl) ?_ _
              go_wp2_with fail
              exact ⟨⟨k + 1, by omega, by go_num, HR.out, HBR.out.drew⟩, by simp [intOf]; omega⟩
        · obtain ⟨go, rfl, hgo, cy⟩ := HCO.out 0 i OF'.out.head
          have cy' := (Below.cell hbr hgo).trans cy
          have hop' : (0 : Int) < (o.length : Int) := by omega
          clear cy hrow
          go_wp2_with fail
          go_ret
          exact ⟨rfl, t2.trans (hbr.mono t2.size)⟩
end Go.Proofs.Ythnkikdbllkmkaa
