/- ChainFuncs returns true: the order of functions is the document's. Printed in part by genZl.py of this repository. -/
import Derived.Test.YthnkikdbllkmkaaZk
import Derived.Test.YthnkikdbllkmkaaQc
namespace Go.Proofs.Ythnkikdbllkmkaa
set_option linter.unusedVariables false
set_option linter.unusedSimpArgs false
open Go.RowKit Go.Lib
attribute [local go_sem] run_store_float

/-- May be chosen. -/
def candF (us : List Bool) (o : List Nat) (i : Nat) : Prop := us[i]? = some true ∧ i ∉ o
def BestF (l : List Edge) (gs : List Graph) (us : List Bool) (o : List Nat) (k : Nat) (b : Int) : Prop :=
  (b = -1 ∧ ∀ i, i < k → ¬ candF us o i) ∨ ∃ j : Nat, b = (j : Int) ∧ j < k ∧ candF us o j ∧ ∀ i, i < k → candF us o i → i = j ∨ totR l gs j i
section
variable {l : List Edge} {gs : List Graph} {us : List Bool} {o : List Nat} {k : Nat} {b : Int}
theorem BestF.start : BestF l gs us o 0 (-1) := .inl ⟨rfl, fun i h => by omega⟩
theorem BestF.skip (h : BestF l gs us o k b) (hn : ¬ candF us o k) : BestF l gs us o (k + 1) b := by
  rcases h with ⟨h1, h2⟩ | ⟨j, h1, h2, h3, h4⟩
  · refine .inl ⟨h1, fun i hi => ?_⟩
    by_cases c : i = k
    · rw [c]; exact hn
    · exact h2 i (by omega)
  · refine .inr ⟨j, h1, by omega, h3, fun i hi hc => ?_⟩
    by_cases c : i = k
    · subst c; exact absurd hc hn
    · exact h4 i (by omega) hc
theorem BestF.first (h : BestF l gs us o k b) (hb : b < 0) (hc : candF us o k) : BestF l gs us o (k + 1) (k : Int) := by
  rcases h with ⟨h1, h2⟩ | ⟨j, h1, h2, h3, h4⟩
  · refine .inr ⟨k, rfl, by omega, hc, fun i hi hci => ?_⟩
    by_cases c : i = k
    · exact .inl c
    · exact absurd hci (h2 i (by omega))
  · omega
theorem BestF.take {j : Nat} (h : BestF l gs us o k (j : Int)) (hc : candF us o k) (hlt : totN l gs j < totN l gs k) : BestF l gs us o (k + 1) (k : Int) := by
  rcases h with ⟨h1, h2⟩ | ⟨j', h1, h2, h3, h4⟩
  · omega
  · obtain rfl : j = j' := by omega
    refine .inr ⟨k, rfl, by omega, hc, fun i hi hci => ?_⟩
    by_cases c : i = k
    · exact .inl c
    · right
      rcases h4 i (by omega) hci with e | e
      · rw [e]; exact .inl hlt
      · unfold totR at *; omega
theorem BestF.keep {j : Nat} (h : BestF l gs us o k (j : Int)) (hc : candF us o k) (hle : ¬ totN l gs j < totN l gs k) : BestF l gs us o (k + 1) (j : Int) := by
  rcases h with ⟨h1, h2⟩ | ⟨j', h1, h2, h3, h4⟩
  · omega
  · obtain rfl : j = j' := by omega
    refine .inr ⟨j, rfl, by omega, h3, fun i hi hci => ?_⟩
    by_cases c : i = k
    · subst c
      right
      unfold totR
      omega
    · exact h4 i (by omega) hci
theorem BestF.done {e : Nat} {ts : List Nat} (he : e < us.length) (hp : ts.Perm (selN us e us.length)) (hs : ts.Pairwise (totR l gs)) {m : Nat} (hm : m ≤ ts.length) (h : BestF l gs us ((e :: ts).take (m + 1)) us.length b) : (b = -1 ∧ m = ts.length) ∨ ∃ j : Nat, b = (j : Int) ∧ j < us.length ∧ m < ts.length ∧ (e :: ts)[m + 1]? = some j := by
  have hmem : ∀ x, x ∈ ts ↔ x < us.length ∧ us[x]? = some true ∧ x ≠ e := fun x => by rw [hp.mem_iff, selN_mem]
  have hnd : ts.Nodup := hp.nodup_iff.2 ((selN_up us e us.length).imp (fun h => by omega))
  rw [List.take_succ_cons] at h
  by_cases hlt : m < ts.length
  · obtain ⟨x, hx⟩ := get_some ts m hlt
    have hxm := (hmem x).1 (List.mem_of_getElem? hx)
    have hnx : x ∉ ts.take m := fun hin => by
      obtain ⟨p, hp1⟩ := List.mem_iff_getElem?.1 hin
      rw [List.getElem?_take] at hp1
      split at hp1
      · rename_i hpm
        have e1 := List.getElem?_eq_some_iff.1 hp1
        have e2 := List.getElem?_eq_some_iff.1 hx
        exact List.pairwise_iff_getElem.1 hnd p m e1.1 e2.1 hpm (e1.2.trans e2.2.symm)
      · cases hp1
    have hcx : candF us (e :: ts.take m) x := ⟨hxm.2.1, fun hin => by
      rcases List.mem_cons.1 hin with h1 | h1
      · exact hxm.2.2 h1
      · exact hnx h1⟩
    right
    rcases h with ⟨h1, h2⟩ | ⟨j, h1, h2, h3, h4⟩
    · exact absurd hcx (h2 x hxm.1)
    · refine ⟨j, h1, h2, hlt, ?_⟩
      show ts[m]? = some j
      rcases h4 x hxm.1 hcx with c | c
      · rw [← c]; exact hx
      · exfalso
        have hj : j ∈ ts := (hmem j).2 ⟨h2, h3.1, fun c => h3.2 (by rw [c]; exact List.mem_cons_self ..)⟩
        obtain ⟨p, hp1⟩ := List.mem_iff_getElem?.1 hj
        have e1 := List.getElem?_eq_some_iff.1 hp1
        have e2 := List.getElem?_eq_some_iff.1 hx
        rcases Nat.lt_trichotomy p m with d | d | d
        · exact h3.2 (List.mem_cons_of_mem _ (List.mem_iff_getElem?.2 ⟨p, by rw [List.getElem?_take, if_pos d]; exact hp1⟩))
        · subst d
          rw [hx] at hp1
          injection hp1 with hp1
          subst hp1
          unfold totR at c
          omega
        · have := List.pairwise_iff_getElem.1 hs m p e2.1 e1.1 d
          rw [e1.2, e2.2] at this
          unfold totR at this c
          omega
  · obtain rfl : m = ts.length := by omega
    left
    rw [List.take_length] at h
    rcases h with ⟨h1, h2⟩ | ⟨j, h1, h2, h3, h4⟩
    · exact ⟨h1, rfl⟩
    · exact absurd ((hmem j).2 ⟨h2, h3.1, fun c => h3.2 (by rw [c]; exact List.mem_cons_self ..)⟩) (fun hin => h3.2 (List.mem_cons_of_mem _ hin))
end

set_option maxHeartbeats 8000000 in
set_option maxRecDepth 100000 in
theorem refFuncs_calls (GA : Option Addr) (gc : Nat) (gs : List Graph) (e : Nat) (LA : Option Addr) (lc : Nat) (l : List Edge) (UA : Option Addr) (uc : Nat) (us : List Bool) (ts : List Nat) (w : World) (he : e < gs.length) (hG : kGraph.C w GA gs) (hL : kEdge.C w LA l) (hw : ∀ e ∈ l, e.wf) (hl : l.length ≤ maxLen) (hU : Kd.bool.C w UA us) (hul : us.length = gs.length) (hgl : gs.length ≤ 1000) (hp : ts.Perm (selN us e us.length)) (hs : ts.Pairwise (totR l gs)) :
    Calls Try.prog 13 #[.slice GA gs.length gc, .int .i64 (e : Int), .slice LA l.length lc, .slice UA us.length uc] w fun r w' =>
      ∃ v F, r = .returned v ∧ OwnF oN 3 w' v (e :: ts) F ∧ (∀ b, F b → w.heap.size ≤ b) ∧ Below w.heap.size w w' := by
  have OF := ordF (by rw [hul]; exact he) hp
  have HOF := Lib.hid OF
  have HW := Lib.hid hw
  have HUL := Lib.hid hul
  have HP := Lib.hid (And.intro hp hs)
  have htl : ts.length ≤ 1000 := by have := hp.length_eq; have := selN_len us e us.length; omega
  have hgl' : gs.length ≤ 9223372036854775807 := by omega
  have ow := litN 3 w e
  have bq := below_alloc' w (.cells #[.int .i64 (e : Int)] 3)
  clear OF hw hul hp hs
  go_enter Try.func13, Try.ntmps13
  go_upto_region 2 with fail
  have hgz : (w.alloc (.cells #[.int .i64 (e : Int)] 3)).heap.size = w.heap.size + 1 := by simp
  generalize w.alloc (.cells #[.int .i64 (e : Int)] 3) = W2 at *
  obtain ⟨w3, hm3, row3, hb3, hz3⟩ := make_bools gs.length (by omega) W2
  obtain ⟨g, hg⟩ : ∃ g, g = W2.heap.size := ⟨_, rfl⟩
  rw [← hg] at hm3 row3
  have hgg : w.heap.size < g := by omega
  have hgz3 : g < w3.heap.size := row3.lt
  have ow3 := ow.below hb3
  have bq3 := bq.trans (hb3.mono bq.size)
  have cs := row3.cell (i := e) (b := false) (by rw [List.getElem?_replicate, if_pos he])
  have fz := row3.frozen e
  obtain ⟨hset, hgr⟩ := row3.set e true
  rw [← seenL_nil, seenL_set, List.nil_append] at hset
  have ow4 := ow3.grown hgr (fun x hx h => by injection h with h; omega)
  have bq4 := bq3.grown hgr bq3.size (fun j hj => by injection hj with hj; omega)
  have hz4 := hgr.size
  have HST := Lib.hid (And.intro hset (And.intro ow4 bq4))
  clear ow bq hb3 hz3 ow3 bq3 hset hgr ow4 bq4 row3 hgz hz4 hg
  go_wp2_with fail
  clear hm3 cs fz
  generalize w3.setCell ⟨g, e, none⟩ (.bool true) = w4 at *
  go_loopg [9] (ts.length) (fun kx v wr => ∃ (m : Nat) (F : Nat → Prop), m ≤ ts.length ∧ ts.length - m ≤ kx ∧ Hid (OwnF oN 3 wr v ((e :: ts).take (m + 1)) F ∧ (∀ b, F b → w.heap.size ≤ b ∧ b ≠ g) ∧ RowB wr g (seenL gs.length ((e :: ts).take (m + 1)))) ∧ Below w.heap.size w wr)
  case atStart => exact ⟨0, _, Nat.zero_le _, by omega, Lib.hid ⟨HST.out.2.1, fun b hb => ⟨Nat.le_of_eq hb.symm, by rw [hb]; omega⟩, HST.out.1⟩, HST.out.2.2⟩
  case round =>
    clear HST hgz3
    obtain ⟨m, F, hm, hkx, HO, hbr⟩ := hrel
    have HBR := Lib.hid hbr
    have HLr := Lib.hid (Kd.C_mono hbr hL)
    have HGr := Lib.hid (Kd.C_mono hbr hG)
    have HUr := Lib.hid (Kd.C_mono hbr hU)
    clear hbr
    go_wp2_with fail
    go_loopw [11, 12] (fun s11 s12 wq => ∃ (k q : Nat) (b : Int), k ≤ gs.length ∧ s11 = .int .i64 b ∧ s12 = .int .i64 (k : Int) ∧ Hid (BestF l gs us ((e :: ts).take (m + 1)) k b) ∧ wq = wr.drewN q) (fun _ s _ => gs.length - (intOf s).toNat)
    case atStart => exact ⟨0, 0, -1, Nat.zero_le _, rfl, rfl, Lib.hid BestF.start, rfl⟩
    case round =>
      obtain ⟨k, q, b, hk, rfl, rfl, HB, rfl⟩ := hrel
      by_cases hlt : k < gs.length
      · obtain ⟨u, hu⟩ := get_some us k (by rw [HUL.out]; exact hlt)
        have hku : k < us.length := (List.getElem?_eq_some_iff.1 hu).1
        obtain ⟨ad, rfl, cu⟩ := useB_at HUr.out hu
        have cd := HO.out.2.2.cell (seenL_get (xs := (e :: ts).take (m + 1)) hlt)
        obtain ⟨gk, hgk⟩ := get_some gs k hlt
        obtain ⟨ag, A0, c0, rfl, cn, -⟩ := Graph_at HGr.out hgk
        cases u with
        | false =>
          have HN := Lib.hid (HB.out.skip (fun h => by have h1 := h.1; rw [hu] at h1; cases h1))
          generalize decide (k ∈ (e :: ts).take (m + 1)) = db at cd
          clear hgk hu cn HB
          go_upto_region 8 with fail
          refine wp_region_held_drew (S := (fun w' => w'.cell? (ad.add k) = some (.bool false) ∧ w'.cell? ⟨g, k, none⟩ = some (.bool db))) (by kernel_rfl) (⟨cu, cd⟩) (fun hHeld => ?_)
          refine wpAnyH_take (i := 0) (oi := _) (v := ?v8n1_0) rfl (by kernel_rfl) (by kernel_rfl) (by kernel_rfl) (fun _ _ _ h => h) (Or.inl ⟨by rfl, ?hy8n1_0⟩) hHeld ?_
          case hy8n1_0 => (intro wS hSw; (try dsimp only at hSw); obtain ⟨s0, s1⟩ := hSw; go_simp; try with_reducible rfl)
          try simp only [List.getElem_toArray, List.getElem_cons_succ, List.getElem_cons_zero, Act.put, List.setIfInBounds_toArray, List.set_cons_zero, List.set_cons_succ]
          refine wpAnyH_take (i := 1) (oi := _) (v := ?v8n1_1) rfl (by kernel_rfl) (by kernel_rfl) (by kernel_rfl) (fun _ _ _ h => h) (Or.inl ⟨by rfl, ?hy8n1_1⟩) hHeld ?_
          case hy8n1_1 => (intro wS hSw; (try dsimp only at hSw); obtain ⟨s0, s1⟩ := hSw; go_simp; try with_reducible rfl)
          try simp only [List.getElem_toArray, List.getElem_cons_succ, List.getElem_cons_zero, Act.put, List.setIfInBounds_toArray, List.set_cons_zero, List.set_cons_succ]
          refine wpAnyH_take (i := 2) (oi := _) (v := ?v8n1_2) rfl (by kernel_rfl) (by kernel_rfl) (by kernel_rfl) (fun _ _ _ h => h) (Or.inl ⟨by rfl, ?hy8n1_2⟩) hHeld ?_
          case hy8n1_2 => (intro wS hSw; (try dsimp only at hSw); obtain ⟨s0, s1⟩ := hSw; go_simp; try with_reducible rfl)
          try simp only [List.getElem_toArray, List.getElem_cons_succ, List.getElem_cons_zero, Act.put, List.setIfInBounds_toArray, List.set_cons_zero, List.set_cons_succ]
          refine wpAnyH_take (i := 3) (oi := _) (v := ?v8n1_3) rfl (by kernel_rfl) (by kernel_rfl) (by kernel_rfl) (fun _ _ _ h => h) (Or.inl ⟨by rfl, ?hy8n1_3⟩) hHeld ?_
          case hy8n1_3 => (intro wS hSw; (try dsimp only at hSw); obtain ⟨s0, s1⟩ := hSw; go_simp; try with_reducible rfl)
          try simp only [List.getElem_toArray, List.getElem_cons_succ, List.getElem_cons_zero, Act.put, List.setIfInBounds_toArray, List.set_cons_zero, List.set_cons_succ]
          refine wpAnyH_take (i := 4) (oi := _) (v := ?v8n1_4) rfl (by kernel_rfl) (by kernel_rfl) (by kernel_rfl) (fun _ _ _ h => h) (Or.inl ⟨by rfl, ?hy8n1_4⟩) hHeld ?_
          case hy8n1_4 => (intro wS hSw; (try dsimp only at hSw); obtain ⟨s0, s1⟩ := hSw; go_simp; try with_reducible rfl)
          try simp only [List.getElem_toArray, List.getElem_cons_succ, List.getElem_cons_zero, Act.put, List.setIfInBounds_toArray, List.set_cons_zero, List.set_cons_succ]
          refine wpAnyH_take (i := 5) (oi := _) (v := undef) rfl (by kernel_rfl) (by kernel_rfl) (by kernel_rfl) (fun _ _ _ h => h) (Or.inr ⟨by rfl, rfl⟩) hHeld ?_
          try simp only [List.getElem_toArray, List.getElem_cons_succ, List.getElem_cons_zero, Act.put, List.setIfInBounds_toArray, List.set_cons_zero, List.set_cons_succ]
          refine wpAnyH_take (i := 6) (oi := _) (v := undef) rfl (by kernel_rfl) (by kernel_rfl) (by kernel_rfl) (fun _ _ _ h => h) (Or.inr ⟨by rfl, rfl⟩) hHeld ?_
          try simp only [List.getElem_toArray, List.getElem_cons_succ, List.getElem_cons_zero, Act.put, List.setIfInBounds_toArray, List.set_cons_zero, List.set_cons_succ]
          refine wpAnyH_take (i := 7) (oi := _) (v := undef) rfl (by kernel_rfl) (by kernel_rfl) (by kernel_rfl) (fun _ _ _ h => h) (Or.inr ⟨by rfl, rfl⟩) hHeld ?_
          try simp only [List.getElem_toArray, List.getElem_cons_succ, List.getElem_cons_zero, Act.put, List.setIfInBounds_toArray, List.set_cons_zero, List.set_cons_succ]
          refine wpAnyH_take (i := 8) (oi := _) (v := undef) rfl (by kernel_rfl) (by kernel_rfl) (by kernel_rfl) (fun _ _ _ h => h) (Or.inr ⟨by rfl, rfl⟩) hHeld ?_
          try simp only [List.getElem_toArray, List.getElem_cons_succ, List.getElem_cons_zero, Act.put, List.setIfInBounds_toArray, List.set_cons_zero, List.set_cons_succ]
          refine wpAnyH_take (i := 9) (oi := _) (v := undef) rfl (by kernel_rfl) (by kernel_rfl) (by kernel_rfl) (fun _ _ _ h => h) (Or.inr ⟨by rfl, rfl⟩) hHeld ?_
          try simp only [List.getElem_toArray, List.getElem_cons_succ, List.getElem_cons_zero, Act.put, List.setIfInBounds_toArray, List.set_cons_zero, List.set_cons_succ]
          refine wpAnyH_take (i := 10) (oi := _) (v := ?v8n1_10) rfl (by kernel_rfl) (by kernel_rfl) (by kernel_rfl) (fun _ _ _ h => h) (Or.inl ⟨by rfl, ?hy8n1_10⟩) hHeld ?_
          case hy8n1_10 => (intro wS hSw; (try dsimp only at hSw); obtain ⟨s0, s1⟩ := hSw; go_simp; try with_reducible rfl)
          try simp only [List.getElem_toArray, List.getElem_cons_succ, List.getElem_cons_zero, Act.put, List.setIfInBounds_toArray, List.set_cons_zero, List.set_cons_succ]
          refine wpAnyH_take (i := 11) (oi := _) (v := ?v8n1_11) rfl (by kernel_rfl) (by kernel_rfl) (by kernel_rfl) (fun _ _ _ h => h) (Or.inl ⟨by rfl, ?hy8n1_11⟩) hHeld ?_
          case hy8n1_11 => (intro wS hSw; (try dsimp only at hSw); obtain ⟨s0, s1⟩ := hSw; go_simp; try with_reducible rfl)
          try simp only [List.getElem_toArray, List.getElem_cons_succ, List.getElem_cons_zero, Act.put, List.setIfInBounds_toArray, List.set_cons_zero, List.set_cons_succ]
          refine wpAnyH_take (i := 12) (oi := _) (v := undef) rfl (by kernel_rfl) (by kernel_rfl) (by kernel_rfl) (fun _ _ _ h => h) (Or.inr ⟨by rfl, rfl⟩) hHeld ?_
          try simp only [List.getElem_toArray, List.getElem_cons_succ, List.getElem_cons_zero, Act.put, List.setIfInBounds_toArray, List.set_cons_zero, List.set_cons_succ]
          refine wpAnyH_take (i := 13) (oi := _) (v := undef) rfl (by kernel_rfl) (by kernel_rfl) (by kernel_rfl) (fun _ _ _ h => h) (Or.inr ⟨by rfl, rfl⟩) hHeld ?_
          try simp only [List.getElem_toArray, List.getElem_cons_succ, List.getElem_cons_zero, Act.put, List.setIfInBounds_toArray, List.set_cons_zero, List.set_cons_succ]
          refine wpAnyH_take (i := 14) (oi := _) (v := undef) rfl (by kernel_rfl) (by kernel_rfl) (by kernel_rfl) (fun _ _ _ h => h) (Or.inr ⟨by rfl, rfl⟩) hHeld ?_
          try simp only [List.getElem_toArray, List.getElem_cons_succ, List.getElem_cons_zero, Act.put, List.setIfInBounds_toArray, List.set_cons_zero, List.set_cons_succ]
          refine wpAnyH_take (i := 15) (oi := _) (v := undef) rfl (by kernel_rfl) (by kernel_rfl) (by kernel_rfl) (fun _ _ _ h => h) (Or.inr ⟨by rfl, rfl⟩) hHeld ?_
          try simp only [List.getElem_toArray, List.getElem_cons_succ, List.getElem_cons_zero, Act.put, List.setIfInBounds_toArray, List.set_cons_zero, List.set_cons_succ]
          refine wpAnyH_take (i := 16) (oi := _) (v := undef) rfl (by kernel_rfl) (by kernel_rfl) (by kernel_rfl) (fun _ _ _ h => h) (Or.inr ⟨by rfl, rfl⟩) hHeld ?_
          try simp only [List.getElem_toArray, List.getElem_cons_succ, List.getElem_cons_zero, Act.put, List.setIfInBounds_toArray, List.set_cons_zero, List.set_cons_succ]
          refine wpAnyH_take (i := 17) (oi := _) (v := undef) rfl (by kernel_rfl) (by kernel_rfl) (by kernel_rfl) (fun _ _ _ h => h) (Or.inr ⟨by rfl, rfl⟩) hHeld ?_
          try simp only [List.getElem_toArray, List.getElem_cons_succ, List.getElem_cons_zero, Act.put, List.setIfInBounds_toArray, List.set_cons_zero, List.set_cons_succ]
          refine wpAnyH_take (i := 18) (oi := _) (v := undef) rfl (by kernel_rfl) (by kernel_rfl) (by kernel_rfl) (fun _ _ _ h => h) (Or.inr ⟨by rfl, rfl⟩) hHeld ?_
          try simp only [List.getElem_toArray, List.getElem_cons_succ, List.getElem_cons_zero, Act.put, List.setIfInBounds_toArray, List.set_cons_zero, List.set_cons_succ]
          refine wpAnyH_take (i := 19) (oi := _) (v := undef) rfl (by kernel_rfl) (by kernel_rfl) (by kernel_rfl) (fun _ _ _ h => h) (Or.inr ⟨by rfl, rfl⟩) hHeld ?_
          try simp only [List.getElem_toArray, List.getElem_cons_succ, List.getElem_cons_zero, Act.put, List.setIfInBounds_toArray, List.set_cons_zero, List.set_cons_succ]
          refine wpAnyH_take (i := 20) (oi := _) (v := undef) rfl (by kernel_rfl) (by kernel_rfl) (by kernel_rfl) (fun _ _ _ h => h) (Or.inr ⟨by rfl, rfl⟩) hHeld ?_
          try simp only [List.getElem_toArray, List.getElem_cons_succ, List.getElem_cons_zero, Act.put, List.setIfInBounds_toArray, List.set_cons_zero, List.set_cons_succ]
          refine wpAnyH_take (i := 21) (oi := _) (v := undef) rfl (by kernel_rfl) (by kernel_rfl) (by kernel_rfl) (fun _ _ _ h => h) (Or.inr ⟨by rfl, rfl⟩) hHeld ?_
          try simp only [List.getElem_toArray, List.getElem_cons_succ, List.getElem_cons_zero, Act.put, List.setIfInBounds_toArray, List.set_cons_zero, List.set_cons_succ]
          refine wpAnyH_take (i := 22) (oi := _) (v := undef) rfl (by kernel_rfl) (by kernel_rfl) (by kernel_rfl) (fun _ _ _ h => h) (Or.inr ⟨by rfl, rfl⟩) hHeld ?_
          try simp only [List.getElem_toArray, List.getElem_cons_succ, List.getElem_cons_zero, Act.put, List.setIfInBounds_toArray, List.set_cons_zero, List.set_cons_succ]
          refine wpAnyH_take (i := 23) (oi := _) (v := undef) rfl (by kernel_rfl) (by kernel_rfl) (by kernel_rfl) (fun _ _ _ h => h) (Or.inr ⟨by rfl, rfl⟩) hHeld ?_
          try simp only [List.getElem_toArray, List.getElem_cons_succ, List.getElem_cons_zero, Act.put, List.setIfInBounds_toArray, List.set_cons_zero, List.set_cons_succ]
          refine wpAnyH_take (i := 24) (oi := _) (v := undef) rfl (by kernel_rfl) (by kernel_rfl) (by kernel_rfl) (fun _ _ _ h => h) (Or.inr ⟨by rfl, rfl⟩) hHeld ?_
          try simp only [List.getElem_toArray, List.getElem_cons_succ, List.getElem_cons_zero, Act.put, List.setIfInBounds_toArray, List.set_cons_zero, List.set_cons_succ]
          refine wpAnyH_take (i := 25) (oi := _) (v := undef) rfl (by kernel_rfl) (by kernel_rfl) (by kernel_rfl) (fun _ _ _ h => h) (Or.inr ⟨by rfl, rfl⟩) hHeld ?_
          try simp only [List.getElem_toArray, List.getElem_cons_succ, List.getElem_cons_zero, Act.put, List.setIfInBounds_toArray, List.set_cons_zero, List.set_cons_succ]
          refine wpAnyH_take (i := 26) (oi := _) (v := undef) rfl (by kernel_rfl) (by kernel_rfl) (by kernel_rfl) (fun _ _ _ h => h) (Or.inr ⟨by rfl, rfl⟩) hHeld ?_
          try simp only [List.getElem_toArray, List.getElem_cons_succ, List.getElem_cons_zero, Act.put, List.setIfInBounds_toArray, List.set_cons_zero, List.set_cons_succ]
          refine wpAnyH_take (i := 27) (oi := _) (v := undef) rfl (by kernel_rfl) (by kernel_rfl) (by kernel_rfl) (fun _ _ _ h => h) (Or.inr ⟨by rfl, rfl⟩) hHeld ?_
          try simp only [List.getElem_toArray, List.getElem_cons_succ, List.getElem_cons_zero, Act.put, List.setIfInBounds_toArray, List.set_cons_zero, List.set_cons_succ]
          refine wpAnyH_take (i := 28) (oi := _) (v := undef) rfl (by kernel_rfl) (by kernel_rfl) (by kernel_rfl) (fun _ _ _ h => h) (Or.inr ⟨by rfl, rfl⟩) hHeld ?_
          try simp only [List.getElem_toArray, List.getElem_cons_succ, List.getElem_cons_zero, Act.put, List.setIfInBounds_toArray, List.set_cons_zero, List.set_cons_succ]
          refine wpAnyH_take (i := 29) (oi := _) (v := undef) rfl (by kernel_rfl) (by kernel_rfl) (by kernel_rfl) (fun _ _ _ h => h) (Or.inr ⟨by rfl, rfl⟩) hHeld ?_
          try simp only [List.getElem_toArray, List.getElem_cons_succ, List.getElem_cons_zero, Act.put, List.setIfInBounds_toArray, List.set_cons_zero, List.set_cons_succ]
          refine wpAnyH_take (i := 30) (oi := _) (v := undef) rfl (by kernel_rfl) (by kernel_rfl) (by kernel_rfl) (fun _ _ _ h => h) (Or.inr ⟨by rfl, rfl⟩) hHeld ?_
          try simp only [List.getElem_toArray, List.getElem_cons_succ, List.getElem_cons_zero, Act.put, List.setIfInBounds_toArray, List.set_cons_zero, List.set_cons_succ]
          refine wpAnyH_take (i := 31) (oi := _) (v := ?v8n1_31) rfl (by kernel_rfl) (by kernel_rfl) (by kernel_rfl) (fun _ _ _ h => h) (Or.inl ⟨by rfl, ?hy8n1_31⟩) hHeld ?_
          case hy8n1_31 => (intro wS hSw; (try dsimp only at hSw); obtain ⟨s0, s1⟩ := hSw; go_simp; try with_reducible rfl)
          try simp only [List.getElem_toArray, List.getElem_cons_succ, List.getElem_cons_zero, Act.put, List.setIfInBounds_toArray, List.set_cons_zero, List.set_cons_succ]
          refine wpAnyH_done (by kernel_rfl) ?_ _
          go_wp2_with fail
          exact ⟨⟨k + 1, _, b, by omega, rfl, by go_num, HN, rfl⟩, by simp [intOf]; omega⟩
        | true =>
          by_cases hin : k ∈ (e :: ts).take (m + 1)
          · have HN := Lib.hid (HB.out.skip (fun h => h.2 hin))
            rw [decide_eq_true hin] at cd
            clear hgk hu cn HB hin
            go_upto_region 8 with fail
            refine wp_region_held_drew (S := (fun w' => w'.cell? (ad.add k) = some (.bool true) ∧ w'.cell? ⟨g, k, none⟩ = some (.bool true))) (by kernel_rfl) (⟨cu, cd⟩) (fun hHeld => ?_)
            refine wpAnyH_take (i := 0) (oi := _) (v := ?v8n2_0) rfl (by kernel_rfl) (by kernel_rfl) (by kernel_rfl) (fun _ _ _ h => h) (Or.inl ⟨by rfl, ?hy8n2_0⟩) hHeld ?_
            case hy8n2_0 => (intro wS hSw; (try dsimp only at hSw); obtain ⟨s0, s1⟩ := hSw; go_simp; try with_reducible rfl)
            try simp only [List.getElem_toArray, List.getElem_cons_succ, List.getElem_cons_zero, Act.put, List.setIfInBounds_toArray, List.set_cons_zero, List.set_cons_succ]
            refine wpAnyH_take (i := 1) (oi := _) (v := ?v8n2_1) rfl (by kernel_rfl) (by kernel_rfl) (by kernel_rfl) (fun _ _ _ h => h) (Or.inl ⟨by rfl, ?hy8n2_1⟩) hHeld ?_
            case hy8n2_1 => (intro wS hSw; (try dsimp only at hSw); obtain ⟨s0, s1⟩ := hSw; go_simp; try with_reducible rfl)
            try simp only [List.getElem_toArray, List.getElem_cons_succ, List.getElem_cons_zero, Act.put, List.setIfInBounds_toArray, List.set_cons_zero, List.set_cons_succ]
            refine wpAnyH_take (i := 2) (oi := _) (v := ?v8n2_2) rfl (by kernel_rfl) (by kernel_rfl) (by kernel_rfl) (fun _ _ _ h => h) (Or.inl ⟨by rfl, ?hy8n2_2⟩) hHeld ?_
            case hy8n2_2 => (intro wS hSw; (try dsimp only at hSw); obtain ⟨s0, s1⟩ := hSw; go_simp; try with_reducible rfl)
            try simp only [List.getElem_toArray, List.getElem_cons_succ, List.getElem_cons_zero, Act.put, List.setIfInBounds_toArray, List.set_cons_zero, List.set_cons_succ]
            refine wpAnyH_take (i := 3) (oi := _) (v := ?v8n2_3) rfl (by kernel_rfl) (by kernel_rfl) (by kernel_rfl) (fun _ _ _ h => h) (Or.inl ⟨by rfl, ?hy8n2_3⟩) hHeld ?_
            case hy8n2_3 => (intro wS hSw; (try dsimp only at hSw); obtain ⟨s0, s1⟩ := hSw; go_simp; try with_reducible rfl)
            try simp only [List.getElem_toArray, List.getElem_cons_succ, List.getElem_cons_zero, Act.put, List.setIfInBounds_toArray, List.set_cons_zero, List.set_cons_succ]
            refine wpAnyH_take (i := 4) (oi := _) (v := ?v8n2_4) rfl (by kernel_rfl) (by kernel_rfl) (by kernel_rfl) (fun _ _ _ h => h) (Or.inl ⟨by rfl, ?hy8n2_4⟩) hHeld ?_
            case hy8n2_4 => (intro wS hSw; (try dsimp only at hSw); obtain ⟨s0, s1⟩ := hSw; go_simp; try with_reducible rfl)
            try simp only [List.getElem_toArray, List.getElem_cons_succ, List.getElem_cons_zero, Act.put, List.setIfInBounds_toArray, List.set_cons_zero, List.set_cons_succ]
            refine wpAnyH_take (i := 5) (oi := _) (v := ?v8n2_5) rfl (by kernel_rfl) (by kernel_rfl) (by kernel_rfl) (fun _ _ _ h => h) (Or.inl ⟨by rfl, ?hy8n2_5⟩) hHeld ?_
            case hy8n2_5 => (intro wS hSw; (try dsimp only at hSw); obtain ⟨s0, s1⟩ := hSw; go_simp; try with_reducible rfl)
            try simp only [List.getElem_toArray, List.getElem_cons_succ, List.getElem_cons_zero, Act.put, List.setIfInBounds_toArray, List.set_cons_zero, List.set_cons_succ]
            refine wpAnyH_take (i := 6) (oi := _) (v := ?v8n2_6) rfl (by kernel_rfl) (by kernel_rfl) (by kernel_rfl) (fun _ _ _ h => h) (Or.inl ⟨by rfl, ?hy8n2_6⟩) hHeld ?_
            case hy8n2_6 => (intro wS hSw; (try dsimp only at hSw); obtain ⟨s0, s1⟩ := hSw; go_simp; try with_reducible rfl)
            try simp only [List.getElem_toArray, List.getElem_cons_succ, List.getElem_cons_zero, Act.put, List.setIfInBounds_toArray, List.set_cons_zero, List.set_cons_succ]
            refine wpAnyH_take (i := 7) (oi := _) (v := ?v8n2_7) rfl (by kernel_rfl) (by kernel_rfl) (by kernel_rfl) (fun _ _ _ h => h) (Or.inl ⟨by rfl, ?hy8n2_7⟩) hHeld ?_
            case hy8n2_7 => (intro wS hSw; (try dsimp only at hSw); obtain ⟨s0, s1⟩ := hSw; go_simp; try with_reducible rfl)
            try simp only [List.getElem_toArray, List.getElem_cons_succ, List.getElem_cons_zero, Act.put, List.setIfInBounds_toArray, List.set_cons_zero, List.set_cons_succ]
            refine wpAnyH_take (i := 8) (oi := _) (v := ?v8n2_8) rfl (by kernel_rfl) (by kernel_rfl) (by kernel_rfl) (fun _ _ _ h => h) (Or.inl ⟨by rfl, ?hy8n2_8⟩) hHeld ?_
            case hy8n2_8 => (intro wS hSw; (try dsimp only at hSw); obtain ⟨s0, s1⟩ := hSw; go_simp; try with_reducible rfl)
            try simp only [List.getElem_toArray, List.getElem_cons_succ, List.getElem_cons_zero, Act.put, List.setIfInBounds_toArray, List.set_cons_zero, List.set_cons_succ]
            refine wpAnyH_take (i := 9) (oi := _) (v := ?v8n2_9) rfl (by kernel_rfl) (by kernel_rfl) (by kernel_rfl) (fun _ _ _ h => h) (Or.inl ⟨by rfl, ?hy8n2_9⟩) hHeld ?_
            case hy8n2_9 => (intro wS hSw; (try dsimp only at hSw); obtain ⟨s0, s1⟩ := hSw; go_simp; try with_reducible rfl)
            try simp only [List.getElem_toArray, List.getElem_cons_succ, List.getElem_cons_zero, Act.put, List.setIfInBounds_toArray, List.set_cons_zero, List.set_cons_succ]
            refine wpAnyH_take (i := 10) (oi := _) (v := ?v8n2_10) rfl (by kernel_rfl) (by kernel_rfl) (by kernel_rfl) (fun _ _ _ h => h) (Or.inl ⟨by rfl, ?hy8n2_10⟩) hHeld ?_
            case hy8n2_10 => (intro wS hSw; (try dsimp only at hSw); obtain ⟨s0, s1⟩ := hSw; go_simp; try with_reducible rfl)
            try simp only [List.getElem_toArray, List.getElem_cons_succ, List.getElem_cons_zero, Act.put, List.setIfInBounds_toArray, List.set_cons_zero, List.set_cons_succ]
            refine wpAnyH_take (i := 11) (oi := _) (v := ?v8n2_11) rfl (by kernel_rfl) (by kernel_rfl) (by kernel_rfl) (fun _ _ _ h => h) (Or.inl ⟨by rfl, ?hy8n2_11⟩) hHeld ?_
            case hy8n2_11 => (intro wS hSw; (try dsimp only at hSw); obtain ⟨s0, s1⟩ := hSw; go_simp; try with_reducible rfl)
            try simp only [List.getElem_toArray, List.getElem_cons_succ, List.getElem_cons_zero, Act.put, List.setIfInBounds_toArray, List.set_cons_zero, List.set_cons_succ]
            refine wpAnyH_take (i := 12) (oi := _) (v := undef) rfl (by kernel_rfl) (by kernel_rfl) (by kernel_rfl) (fun _ _ _ h => h) (Or.inr ⟨by rfl, rfl⟩) hHeld ?_
            try simp only [List.getElem_toArray, List.getElem_cons_succ, List.getElem_cons_zero, Act.put, List.setIfInBounds_toArray, List.set_cons_zero, List.set_cons_succ]
            refine wpAnyH_take (i := 13) (oi := _) (v := undef) rfl (by kernel_rfl) (by kernel_rfl) (by kernel_rfl) (fun _ _ _ h => h) (Or.inr ⟨by rfl, rfl⟩) hHeld ?_
            try simp only [List.getElem_toArray, List.getElem_cons_succ, List.getElem_cons_zero, Act.put, List.setIfInBounds_toArray, List.set_cons_zero, List.set_cons_succ]
            refine wpAnyH_take (i := 14) (oi := _) (v := undef) rfl (by kernel_rfl) (by kernel_rfl) (by kernel_rfl) (fun _ _ _ h => h) (Or.inr ⟨by rfl, rfl⟩) hHeld ?_
            try simp only [List.getElem_toArray, List.getElem_cons_succ, List.getElem_cons_zero, Act.put, List.setIfInBounds_toArray, List.set_cons_zero, List.set_cons_succ]
            refine wpAnyH_take (i := 15) (oi := _) (v := undef) rfl (by kernel_rfl) (by kernel_rfl) (by kernel_rfl) (fun _ _ _ h => h) (Or.inr ⟨by rfl, rfl⟩) hHeld ?_
            try simp only [List.getElem_toArray, List.getElem_cons_succ, List.getElem_cons_zero, Act.put, List.setIfInBounds_toArray, List.set_cons_zero, List.set_cons_succ]
            refine wpAnyH_take (i := 16) (oi := _) (v := undef) rfl (by kernel_rfl) (by kernel_rfl) (by kernel_rfl) (fun _ _ _ h => h) (Or.inr ⟨by rfl, rfl⟩) hHeld ?_
            try simp only [List.getElem_toArray, List.getElem_cons_succ, List.getElem_cons_zero, Act.put, List.setIfInBounds_toArray, List.set_cons_zero, List.set_cons_succ]
            refine wpAnyH_take (i := 17) (oi := _) (v := undef) rfl (by kernel_rfl) (by kernel_rfl) (by kernel_rfl) (fun _ _ _ h => h) (Or.inr ⟨by rfl, rfl⟩) hHeld ?_
            try simp only [List.getElem_toArray, List.getElem_cons_succ, List.getElem_cons_zero, Act.put, List.setIfInBounds_toArray, List.set_cons_zero, List.set_cons_succ]
            refine wpAnyH_take (i := 18) (oi := _) (v := undef) rfl (by kernel_rfl) (by kernel_rfl) (by kernel_rfl) (fun _ _ _ h => h) (Or.inr ⟨by rfl, rfl⟩) hHeld ?_
            try simp only [List.getElem_toArray, List.getElem_cons_succ, List.getElem_cons_zero, Act.put, List.setIfInBounds_toArray, List.set_cons_zero, List.set_cons_succ]
            refine wpAnyH_take (i := 19) (oi := _) (v := undef) rfl (by kernel_rfl) (by kernel_rfl) (by kernel_rfl) (fun _ _ _ h => h) (Or.inr ⟨by rfl, rfl⟩) hHeld ?_
            try simp only [List.getElem_toArray, List.getElem_cons_succ, List.getElem_cons_zero, Act.put, List.setIfInBounds_toArray, List.set_cons_zero, List.set_cons_succ]
            refine wpAnyH_take (i := 20) (oi := _) (v := undef) rfl (by kernel_rfl) (by kernel_rfl) (by kernel_rfl) (fun _ _ _ h => h) (Or.inr ⟨by rfl, rfl⟩) hHeld ?_
            try simp only [List.getElem_toArray, List.getElem_cons_succ, List.getElem_cons_zero, Act.put, List.setIfInBounds_toArray, List.set_cons_zero, List.set_cons_succ]
            refine wpAnyH_take (i := 21) (oi := _) (v := undef) rfl (by kernel_rfl) (by kernel_rfl) (by kernel_rfl) (fun _ _ _ h => h) (Or.inr ⟨by rfl, rfl⟩) hHeld ?_
            try simp only [List.getElem_toArray, List.getElem_cons_succ, List.getElem_cons_zero, Act.put, List.setIfInBounds_toArray, List.set_cons_zero, List.set_cons_succ]
            refine wpAnyH_take (i := 22) (oi := _) (v := undef) rfl (by kernel_rfl) (by kernel_rfl) (by kernel_rfl) (fun _ _ _ h => h) (Or.inr ⟨by rfl, rfl⟩) hHeld ?_
            try simp only [List.getElem_toArray, List.getElem_cons_succ, List.getElem_cons_zero, Act.put, List.setIfInBounds_toArray, List.set_cons_zero, List.set_cons_succ]
            refine wpAnyH_take (i := 23) (oi := _) (v := undef) rfl (by kernel_rfl) (by kernel_rfl) (by kernel_rfl) (fun _ _ _ h => h) (Or.inr ⟨by rfl, rfl⟩) hHeld ?_
            try simp only [List.getElem_toArray, List.getElem_cons_succ, List.getElem_cons_zero, Act.put, List.setIfInBounds_toArray, List.set_cons_zero, List.set_cons_succ]
            refine wpAnyH_take (i := 24) (oi := _) (v := undef) rfl (by kernel_rfl) (by kernel_rfl) (by kernel_rfl) (fun _ _ _ h => h) (Or.inr ⟨by rfl, rfl⟩) hHeld ?_
            try simp only [List.getElem_toArray, List.getElem_cons_succ, List.getElem_cons_zero, Act.put, List.setIfInBounds_toArray, List.set_cons_zero, List.set_cons_succ]
            refine wpAnyH_take (i := 25) (oi := _) (v := undef) rfl (by kernel_rfl) (by kernel_rfl) (by kernel_rfl) (fun _ _ _ h => h) (Or.inr ⟨by rfl, rfl⟩) hHeld ?_
            try simp only [List.getElem_toArray, List.getElem_cons_succ, List.getElem_cons_zero, Act.put, List.setIfInBounds_toArray, List.set_cons_zero, List.set_cons_succ]
            refine wpAnyH_take (i := 26) (oi := _) (v := undef) rfl (by kernel_rfl) (by kernel_rfl) (by kernel_rfl) (fun _ _ _ h => h) (Or.inr ⟨by rfl, rfl⟩) hHeld ?_
            try simp only [List.getElem_toArray, List.getElem_cons_succ, List.getElem_cons_zero, Act.put, List.setIfInBounds_toArray, List.set_cons_zero, List.set_cons_succ]
            refine wpAnyH_take (i := 27) (oi := _) (v := undef) rfl (by kernel_rfl) (by kernel_rfl) (by kernel_rfl) (fun _ _ _ h => h) (Or.inr ⟨by rfl, rfl⟩) hHeld ?_
            try simp only [List.getElem_toArray, List.getElem_cons_succ, List.getElem_cons_zero, Act.put, List.setIfInBounds_toArray, List.set_cons_zero, List.set_cons_succ]
            refine wpAnyH_take (i := 28) (oi := _) (v := undef) rfl (by kernel_rfl) (by kernel_rfl) (by kernel_rfl) (fun _ _ _ h => h) (Or.inr ⟨by rfl, rfl⟩) hHeld ?_
            try simp only [List.getElem_toArray, List.getElem_cons_succ, List.getElem_cons_zero, Act.put, List.setIfInBounds_toArray, List.set_cons_zero, List.set_cons_succ]
            refine wpAnyH_take (i := 29) (oi := _) (v := undef) rfl (by kernel_rfl) (by kernel_rfl) (by kernel_rfl) (fun _ _ _ h => h) (Or.inr ⟨by rfl, rfl⟩) hHeld ?_
            try simp only [List.getElem_toArray, List.getElem_cons_succ, List.getElem_cons_zero, Act.put, List.setIfInBounds_toArray, List.set_cons_zero, List.set_cons_succ]
            refine wpAnyH_take (i := 30) (oi := _) (v := undef) rfl (by kernel_rfl) (by kernel_rfl) (by kernel_rfl) (fun _ _ _ h => h) (Or.inr ⟨by rfl, rfl⟩) hHeld ?_
            try simp only [List.getElem_toArray, List.getElem_cons_succ, List.getElem_cons_zero, Act.put, List.setIfInBounds_toArray, List.set_cons_zero, List.set_cons_succ]
            refine wpAnyH_take (i := 31) (oi := _) (v := ?v8n2_31) rfl (by kernel_rfl) (by kernel_rfl) (by kernel_rfl) (fun _ _ _ h => h) (Or.inl ⟨by rfl, ?hy8n2_31⟩) hHeld ?_
            case hy8n2_31 => (intro wS hSw; (try dsimp only at hSw); obtain ⟨s0, s1⟩ := hSw; go_simp; try with_reducible rfl)
            try simp only [List.getElem_toArray, List.getElem_cons_succ, List.getElem_cons_zero, Act.put, List.setIfInBounds_toArray, List.set_cons_zero, List.set_cons_succ]
            refine wpAnyH_done (by kernel_rfl) ?_ _
            go_wp2_with fail
            exact ⟨⟨k + 1, _, b, by omega, rfl, by go_num, HN, rfl⟩, by simp [intOf]; omega⟩
          · have hc : candF us ((e :: ts).take (m + 1)) k := ⟨hu, hin⟩
            rw [decide_eq_false hin] at cd
            by_cases hb : b < 0
            · have HN := Lib.hid (HB.out.first hb hc)
              clear hgk hu cn HB hin hc
              go_upto_region 8 with fail
              refine wp_region_held_drew (S := (fun w' => w'.cell? (ad.add k) = some (.bool true) ∧ w'.cell? ⟨g, k, none⟩ = some (.bool false))) (by kernel_rfl) (⟨cu, cd⟩) (fun hHeld => ?_)
              refine wpAnyH_take (i := 0) (oi := _) (v := ?v8n3_0) rfl (by kernel_rfl) (by kernel_rfl) (by kernel_rfl) (fun _ _ _ h => h) (Or.inl ⟨by rfl, ?hy8n3_0⟩) hHeld ?_
              case hy8n3_0 => (intro wS hSw; (try dsimp only at hSw); obtain ⟨s0, s1⟩ := hSw; go_simp; try with_reducible rfl)
              try simp only [List.getElem_toArray, List.getElem_cons_succ, List.getElem_cons_zero, Act.put, List.setIfInBounds_toArray, List.set_cons_zero, List.set_cons_succ]
              refine wpAnyH_take (i := 1) (oi := _) (v := ?v8n3_1) rfl (by kernel_rfl) (by kernel_rfl) (by kernel_rfl) (fun _ _ _ h => h) (Or.inl ⟨by rfl, ?hy8n3_1⟩) hHeld ?_
              case hy8n3_1 => (intro wS hSw; (try dsimp only at hSw); obtain ⟨s0, s1⟩ := hSw; go_simp; try with_reducible rfl)
              try simp only [List.getElem_toArray, List.getElem_cons_succ, List.getElem_cons_zero, Act.put, List.setIfInBounds_toArray, List.set_cons_zero, List.set_cons_succ]
              refine wpAnyH_take (i := 2) (oi := _) (v := ?v8n3_2) rfl (by kernel_rfl) (by kernel_rfl) (by kernel_rfl) (fun _ _ _ h => h) (Or.inl ⟨by rfl, ?hy8n3_2⟩) hHeld ?_
              case hy8n3_2 => (intro wS hSw; (try dsimp only at hSw); obtain ⟨s0, s1⟩ := hSw; go_simp; try with_reducible rfl)
              try simp only [List.getElem_toArray, List.getElem_cons_succ, List.getElem_cons_zero, Act.put, List.setIfInBounds_toArray, List.set_cons_zero, List.set_cons_succ]
              refine wpAnyH_take (i := 3) (oi := _) (v := ?v8n3_3) rfl (by kernel_rfl) (by kernel_rfl) (by kernel_rfl) (fun _ _ _ h => h) (Or.inl ⟨by rfl, ?hy8n3_3⟩) hHeld ?_
              case hy8n3_3 => (intro wS hSw; (try dsimp only at hSw); obtain ⟨s0, s1⟩ := hSw; go_simp; try with_reducible rfl)
              try simp only [List.getElem_toArray, List.getElem_cons_succ, List.getElem_cons_zero, Act.put, List.setIfInBounds_toArray, List.set_cons_zero, List.set_cons_succ]
              refine wpAnyH_take (i := 4) (oi := _) (v := ?v8n3_4) rfl (by kernel_rfl) (by kernel_rfl) (by kernel_rfl) (fun _ _ _ h => h) (Or.inl ⟨by rfl, ?hy8n3_4⟩) hHeld ?_
              case hy8n3_4 => (intro wS hSw; (try dsimp only at hSw); obtain ⟨s0, s1⟩ := hSw; go_simp; try with_reducible rfl)
              try simp only [List.getElem_toArray, List.getElem_cons_succ, List.getElem_cons_zero, Act.put, List.setIfInBounds_toArray, List.set_cons_zero, List.set_cons_succ]
              refine wpAnyH_take (i := 5) (oi := _) (v := ?v8n3_5) rfl (by kernel_rfl) (by kernel_rfl) (by kernel_rfl) (fun _ _ _ h => h) (Or.inl ⟨by rfl, ?hy8n3_5⟩) hHeld ?_
              case hy8n3_5 => (intro wS hSw; (try dsimp only at hSw); obtain ⟨s0, s1⟩ := hSw; go_simp; try with_reducible rfl)
              try simp only [List.getElem_toArray, List.getElem_cons_succ, List.getElem_cons_zero, Act.put, List.setIfInBounds_toArray, List.set_cons_zero, List.set_cons_succ]
              refine wpAnyH_take (i := 6) (oi := _) (v := ?v8n3_6) rfl (by kernel_rfl) (by kernel_rfl) (by kernel_rfl) (fun _ _ _ h => h) (Or.inl ⟨by rfl, ?hy8n3_6⟩) hHeld ?_
              case hy8n3_6 => (intro wS hSw; (try dsimp only at hSw); obtain ⟨s0, s1⟩ := hSw; go_simp; try with_reducible rfl)
              try simp only [List.getElem_toArray, List.getElem_cons_succ, List.getElem_cons_zero, Act.put, List.setIfInBounds_toArray, List.set_cons_zero, List.set_cons_succ]
              refine wpAnyH_take (i := 7) (oi := _) (v := ?v8n3_7) rfl (by kernel_rfl) (by kernel_rfl) (by kernel_rfl) (fun _ _ _ h => h) (Or.inl ⟨by rfl, ?hy8n3_7⟩) hHeld ?_
              case hy8n3_7 => (intro wS hSw; (try dsimp only at hSw); obtain ⟨s0, s1⟩ := hSw; go_simp; try with_reducible rfl)
              try simp only [List.getElem_toArray, List.getElem_cons_succ, List.getElem_cons_zero, Act.put, List.setIfInBounds_toArray, List.set_cons_zero, List.set_cons_succ]
              refine wpAnyH_take (i := 8) (oi := _) (v := ?v8n3_8) rfl (by kernel_rfl) (by kernel_rfl) (by kernel_rfl) (fun _ _ _ h => h) (Or.inl ⟨by rfl, ?hy8n3_8⟩) hHeld ?_
              case hy8n3_8 => (intro wS hSw; (try dsimp only at hSw); obtain ⟨s0, s1⟩ := hSw; go_simp; try with_reducible rfl)
              try simp only [List.getElem_toArray, List.getElem_cons_succ, List.getElem_cons_zero, Act.put, List.setIfInBounds_toArray, List.set_cons_zero, List.set_cons_succ]
              refine wpAnyH_take (i := 9) (oi := _) (v := ?v8n3_9) rfl (by kernel_rfl) (by kernel_rfl) (by kernel_rfl) (fun _ _ _ h => h) (Or.inl ⟨by rfl, ?hy8n3_9⟩) hHeld ?_
              case hy8n3_9 => (intro wS hSw; (try dsimp only at hSw); obtain ⟨s0, s1⟩ := hSw; go_simp; try with_reducible rfl)
              try simp only [List.getElem_toArray, List.getElem_cons_succ, List.getElem_cons_zero, Act.put, List.setIfInBounds_toArray, List.set_cons_zero, List.set_cons_succ]
              refine wpAnyH_take (i := 10) (oi := _) (v := ?v8n3_10) rfl (by kernel_rfl) (by kernel_rfl) (by kernel_rfl) (fun _ _ _ h => h) (Or.inl ⟨by rfl, ?hy8n3_10⟩) hHeld ?_
              case hy8n3_10 => (intro wS hSw; (try dsimp only at hSw); obtain ⟨s0, s1⟩ := hSw; go_simp; try with_reducible rfl)
              try simp only [List.getElem_toArray, List.getElem_cons_succ, List.getElem_cons_zero, Act.put, List.setIfInBounds_toArray, List.set_cons_zero, List.set_cons_succ]
              refine wpAnyH_take (i := 11) (oi := _) (v := ?v8n3_11) rfl (by kernel_rfl) (by kernel_rfl) (by kernel_rfl) (fun _ _ _ h => h) (Or.inl ⟨by rfl, ?hy8n3_11⟩) hHeld ?_
              case hy8n3_11 => (intro wS hSw; (try dsimp only at hSw); obtain ⟨s0, s1⟩ := hSw; go_simp; try with_reducible rfl)
              try simp only [List.getElem_toArray, List.getElem_cons_succ, List.getElem_cons_zero, Act.put, List.setIfInBounds_toArray, List.set_cons_zero, List.set_cons_succ]
              refine wpAnyH_take (i := 12) (oi := _) (v := ?v8n3_12) rfl (by kernel_rfl) (by kernel_rfl) (by kernel_rfl) (fun _ _ _ h => h) (Or.inl ⟨by rfl, ?hy8n3_12⟩) hHeld ?_
              case hy8n3_12 => (intro wS hSw; (try dsimp only at hSw); obtain ⟨s0, s1⟩ := hSw; go_simp; try with_reducible rfl)
              try simp only [List.getElem_toArray, List.getElem_cons_succ, List.getElem_cons_zero, Act.put, List.setIfInBounds_toArray, List.set_cons_zero, List.set_cons_succ]
              refine wpAnyH_take (i := 13) (oi := _) (v := ?v8n3_13) rfl (by kernel_rfl) (by kernel_rfl) (by kernel_rfl) (fun _ _ _ h => h) (Or.inl ⟨by rfl, ?hy8n3_13⟩) hHeld ?_
              case hy8n3_13 => (intro wS hSw; (try dsimp only at hSw); obtain ⟨s0, s1⟩ := hSw; go_simp; try with_reducible rfl)
              try simp only [List.getElem_toArray, List.getElem_cons_succ, List.getElem_cons_zero, Act.put, List.setIfInBounds_toArray, List.set_cons_zero, List.set_cons_succ]
              refine wpAnyH_take (i := 14) (oi := _) (v := ?v8n3_14) rfl (by kernel_rfl) (by kernel_rfl) (by kernel_rfl) (fun _ _ _ h => h) (Or.inl ⟨by rfl, ?hy8n3_14⟩) hHeld ?_
              case hy8n3_14 => (intro wS hSw; (try dsimp only at hSw); obtain ⟨s0, s1⟩ := hSw; go_simp; try with_reducible rfl)
              try simp only [List.getElem_toArray, List.getElem_cons_succ, List.getElem_cons_zero, Act.put, List.setIfInBounds_toArray, List.set_cons_zero, List.set_cons_succ]
              refine wpAnyH_take (i := 15) (oi := _) (v := undef) rfl (by kernel_rfl) (by kernel_rfl) (by kernel_rfl) (fun _ _ _ h => h) (Or.inr ⟨by rfl, rfl⟩) hHeld ?_
              try simp only [List.getElem_toArray, List.getElem_cons_succ, List.getElem_cons_zero, Act.put, List.setIfInBounds_toArray, List.set_cons_zero, List.set_cons_succ]
              refine wpAnyH_take (i := 16) (oi := _) (v := undef) rfl (by kernel_rfl) (by kernel_rfl) (by kernel_rfl) (fun _ _ _ h => h) (Or.inr ⟨by rfl, rfl⟩) hHeld ?_
              try simp only [List.getElem_toArray, List.getElem_cons_succ, List.getElem_cons_zero, Act.put, List.setIfInBounds_toArray, List.set_cons_zero, List.set_cons_succ]
              refine wpAnyH_take (i := 17) (oi := _) (v := undef) rfl (by kernel_rfl) (by kernel_rfl) (by kernel_rfl) (fun _ _ _ h => h) (Or.inr ⟨by rfl, rfl⟩) hHeld ?_
              try simp only [List.getElem_toArray, List.getElem_cons_succ, List.getElem_cons_zero, Act.put, List.setIfInBounds_toArray, List.set_cons_zero, List.set_cons_succ]
              refine wpAnyH_take (i := 18) (oi := _) (v := undef) rfl (by kernel_rfl) (by kernel_rfl) (by kernel_rfl) (fun _ _ _ h => h) (Or.inr ⟨by rfl, rfl⟩) hHeld ?_
              try simp only [List.getElem_toArray, List.getElem_cons_succ, List.getElem_cons_zero, Act.put, List.setIfInBounds_toArray, List.set_cons_zero, List.set_cons_succ]
              refine wpAnyH_take (i := 19) (oi := _) (v := undef) rfl (by kernel_rfl) (by kernel_rfl) (by kernel_rfl) (fun _ _ _ h => h) (Or.inr ⟨by rfl, rfl⟩) hHeld ?_
              try simp only [List.getElem_toArray, List.getElem_cons_succ, List.getElem_cons_zero, Act.put, List.setIfInBounds_toArray, List.set_cons_zero, List.set_cons_succ]
              refine wpAnyH_take (i := 20) (oi := _) (v := undef) rfl (by kernel_rfl) (by kernel_rfl) (by kernel_rfl) (fun _ _ _ h => h) (Or.inr ⟨by rfl, rfl⟩) hHeld ?_
              try simp only [List.getElem_toArray, List.getElem_cons_succ, List.getElem_cons_zero, Act.put, List.setIfInBounds_toArray, List.set_cons_zero, List.set_cons_succ]
              refine wpAnyH_take (i := 21) (oi := _) (v := undef) rfl (by kernel_rfl) (by kernel_rfl) (by kernel_rfl) (fun _ _ _ h => h) (Or.inr ⟨by rfl, rfl⟩) hHeld ?_
              try simp only [List.getElem_toArray, List.getElem_cons_succ, List.getElem_cons_zero, Act.put, List.setIfInBounds_toArray, List.set_cons_zero, List.set_cons_succ]
              refine wpAnyH_take (i := 22) (oi := _) (v := undef) rfl (by kernel_rfl) (by kernel_rfl) (by kernel_rfl) (fun _ _ _ h => h) (Or.inr ⟨by rfl, rfl⟩) hHeld ?_
              try simp only [List.getElem_toArray, List.getElem_cons_succ, List.getElem_cons_zero, Act.put, List.setIfInBounds_toArray, List.set_cons_zero, List.set_cons_succ]
              refine wpAnyH_take (i := 23) (oi := _) (v := undef) rfl (by kernel_rfl) (by kernel_rfl) (by kernel_rfl) (fun _ _ _ h => h) (Or.inr ⟨by rfl, rfl⟩) hHeld ?_
              try simp only [List.getElem_toArray, List.getElem_cons_succ, List.getElem_cons_zero, Act.put, List.setIfInBounds_toArray, List.set_cons_zero, List.set_cons_succ]
              refine wpAnyH_take (i := 24) (oi := _) (v := undef) rfl (by kernel_rfl) (by kernel_rfl) (by kernel_rfl) (fun _ _ _ h => h) (Or.inr ⟨by rfl, rfl⟩) hHeld ?_
              try simp only [List.getElem_toArray, List.getElem_cons_succ, List.getElem_cons_zero, Act.put, List.setIfInBounds_toArray, List.set_cons_zero, List.set_cons_succ]
              refine wpAnyH_take (i := 25) (oi := _) (v := undef) rfl (by kernel_rfl) (by kernel_rfl) (by kernel_rfl) (fun _ _ _ h => h) (Or.inr ⟨by rfl, rfl⟩) hHeld ?_
              try simp only [List.getElem_toArray, List.getElem_cons_succ, List.getElem_cons_zero, Act.put, List.setIfInBounds_toArray, List.set_cons_zero, List.set_cons_succ]
              refine wpAnyH_take (i := 26) (oi := _) (v := undef) rfl (by kernel_rfl) (by kernel_rfl) (by kernel_rfl) (fun _ _ _ h => h) (Or.inr ⟨by rfl, rfl⟩) hHeld ?_
              try simp only [List.getElem_toArray, List.getElem_cons_succ, List.getElem_cons_zero, Act.put, List.setIfInBounds_toArray, List.set_cons_zero, List.set_cons_succ]
              refine wpAnyH_take (i := 27) (oi := _) (v := undef) rfl (by kernel_rfl) (by kernel_rfl) (by kernel_rfl) (fun _ _ _ h => h) (Or.inr ⟨by rfl, rfl⟩) hHeld ?_
              try simp only [List.getElem_toArray, List.getElem_cons_succ, List.getElem_cons_zero, Act.put, List.setIfInBounds_toArray, List.set_cons_zero, List.set_cons_succ]
              refine wpAnyH_take (i := 28) (oi := _) (v := undef) rfl (by kernel_rfl) (by kernel_rfl) (by kernel_rfl) (fun _ _ _ h => h) (Or.inr ⟨by rfl, rfl⟩) hHeld ?_
              try simp only [List.getElem_toArray, List.getElem_cons_succ, List.getElem_cons_zero, Act.put, List.setIfInBounds_toArray, List.set_cons_zero, List.set_cons_succ]
              refine wpAnyH_take (i := 29) (oi := _) (v := undef) rfl (by kernel_rfl) (by kernel_rfl) (by kernel_rfl) (fun _ _ _ h => h) (Or.inr ⟨by rfl, rfl⟩) hHeld ?_
              try simp only [List.getElem_toArray, List.getElem_cons_succ, List.getElem_cons_zero, Act.put, List.setIfInBounds_toArray, List.set_cons_zero, List.set_cons_succ]
              refine wpAnyH_take (i := 30) (oi := _) (v := ?v8n3_30) rfl (by kernel_rfl) (by kernel_rfl) (by kernel_rfl) (fun _ _ _ h => h) (Or.inl ⟨by rfl, ?hy8n3_30⟩) hHeld ?_
              case hy8n3_30 => (intro wS hSw; (try dsimp only at hSw); obtain ⟨s0, s1⟩ := hSw; go_simp; try with_reducible rfl)
              try simp only [List.getElem_toArray, List.getElem_cons_succ, List.getElem_cons_zero, Act.put, List.setIfInBounds_toArray, List.set_cons_zero, List.set_cons_succ]
              refine wpAnyH_take (i := 31) (oi := _) (v := ?v8n3_31) rfl (by kernel_rfl) (by kernel_rfl) (by kernel_rfl) (fun _ _ _ h => h) (Or.inl ⟨by rfl, ?hy8n3_31⟩) hHeld ?_
              case hy8n3_31 => (intro wS hSw; (try dsimp only at hSw); obtain ⟨s0, s1⟩ := hSw; go_simp; try with_reducible rfl)
              try simp only [List.getElem_toArray, List.getElem_cons_succ, List.getElem_cons_zero, Act.put, List.setIfInBounds_toArray, List.set_cons_zero, List.set_cons_succ]
              refine wpAnyH_done (by kernel_rfl) ?_ _
              go_wp2_with fail
              exact ⟨⟨k + 1, _, (k : Int), by omega, rfl, by go_num, HN, rfl⟩, by simp [intOf]; omega⟩
            · obtain ⟨j, rfl⟩ := Int.eq_ofNat_of_zero_le (show 0 ≤ b by omega)
              have hjk : j < k := by
                rcases HB.out with ⟨h1, -⟩ | ⟨j', h1, h2, -⟩ <;> omega
              obtain ⟨gj, hgj⟩ := get_some gs j (by omega)
              obtain ⟨ag2, A2, c2, hae, cj, -⟩ := Graph_at HGr.out hgj
              injection hae with hae
              subst hae
              have hp1 : Fl.posW (sumW (fun e => e.func.toList == gk.name.toList) l) := sumW_pos HW.out
              have hp2 : Fl.posW (sumW (fun e => e.func.toList == gj.name.toList) l) := sumW_pos HW.out
              have ho : FloatKind.f64.format.order (sumW (fun e => e.func.toList == gk.name.toList) l) (sumW (fun e => e.func.toList == gj.name.toList) l) = some (compare (sumW (fun e => e.func.toList == gk.name.toList) l) (sumW (fun e => e.func.toList == gj.name.toList) l)) := Fl.order_pos hp1 hp2
              have ek : totN l gs k = sumW (fun e => e.func.toList == gk.name.toList) l := totN_at hgk
              have ej : totN l gs j = sumW (fun e => e.func.toList == gj.name.toList) l := totN_at hgj
              have hjI : (j : Int) < (gs.length : Int) := by omega
              have hjN : j < gs.length := by omega
              by_cases hlt2 : totN l gs j < totN l gs k
              · have HN := Lib.hid (HB.out.take hc hlt2)
                have z1 : (FloatKind.f64.format.order (sumW (fun e => e.func.toList == gk.name.toList) l) (sumW (fun e => e.func.toList == gj.name.toList) l) == some .gt) = true := by rw [ho, Nat.compare_eq_gt.2 (by omega)]; rfl
                clear hgk hgj hu HB hin hc hp1 hp2 ho ek ej hlt2
                go_upto_region 8 with fail
                refine wp_region_held_drew (S := (fun w' => w'.cell? (ad.add k) = some (.bool true) ∧ w'.cell? ⟨g, k, none⟩ = some (.bool false) ∧ w'.cell? (ag.add (k * 4)) = some (.string gk.name) ∧ w'.cell? (ag.add (j * 4)) = some (.string gj.name))) (by kernel_rfl) (⟨cu, cd, cn, cj⟩) (fun hHeld => ?_)
                refine wpAnyH_take (i := 0) (oi := _) (v := ?v8n4_0) rfl (by kernel_rfl) (by kernel_rfl) (by kernel_rfl) (fun _ _ _ h => h) (Or.inl ⟨by rfl, ?hy8n4_0⟩) hHeld ?_
                case hy8n4_0 => (intro wS hSw; (try dsimp only at hSw); obtain ⟨s0, s1, s2, s3⟩ := hSw; go_simp; try with_reducible rfl)
                try simp only [List.getElem_toArray, List.getElem_cons_succ, List.getElem_cons_zero, Act.put, List.setIfInBounds_toArray, List.set_cons_zero, List.set_cons_succ]
                refine wpAnyH_take (i := 1) (oi := _) (v := ?v8n4_1) rfl (by kernel_rfl) (by kernel_rfl) (by kernel_rfl) (fun _ _ _ h => h) (Or.inl ⟨by rfl, ?hy8n4_1⟩) hHeld ?_
                case hy8n4_1 => (intro wS hSw; (try dsimp only at hSw); obtain ⟨s0, s1, s2, s3⟩ := hSw; go_simp; try with_reducible rfl)
                try simp only [List.getElem_toArray, List.getElem_cons_succ, List.getElem_cons_zero, Act.put, List.setIfInBounds_toArray, List.set_cons_zero, List.set_cons_succ]
                refine wpAnyH_take (i := 2) (oi := _) (v := ?v8n4_2) rfl (by kernel_rfl) (by kernel_rfl) (by kernel_rfl) (fun _ _ _ h => h) (Or.inl ⟨by rfl, ?hy8n4_2⟩) hHeld ?_
                case hy8n4_2 => (intro wS hSw; (try dsimp only at hSw); obtain ⟨s0, s1, s2, s3⟩ := hSw; go_simp; try with_reducible rfl)
                try simp only [List.getElem_toArray, List.getElem_cons_succ, List.getElem_cons_zero, Act.put, List.setIfInBounds_toArray, List.set_cons_zero, List.set_cons_succ]
                refine wpAnyH_take (i := 3) (oi := _) (v := ?v8n4_3) rfl (by kernel_rfl) (by kernel_rfl) (by kernel_rfl) (fun _ _ _ h => h) (Or.inl ⟨by rfl, ?hy8n4_3⟩) hHeld ?_
                case hy8n4_3 => (intro wS hSw; (try dsimp only at hSw); obtain ⟨s0, s1, s2, s3⟩ := hSw; go_simp; try with_reducible rfl)
                try simp only [List.getElem_toArray, List.getElem_cons_succ, List.getElem_cons_zero, Act.put, List.setIfInBounds_toArray, List.set_cons_zero, List.set_cons_succ]
                refine wpAnyH_take (i := 4) (oi := _) (v := ?v8n4_4) rfl (by kernel_rfl) (by kernel_rfl) (by kernel_rfl) (fun _ _ _ h => h) (Or.inl ⟨by rfl, ?hy8n4_4⟩) hHeld ?_
                case hy8n4_4 => (intro wS hSw; (try dsimp only at hSw); obtain ⟨s0, s1, s2, s3⟩ := hSw; go_simp; try with_reducible rfl)
                try simp only [List.getElem_toArray, List.getElem_cons_succ, List.getElem_cons_zero, Act.put, List.setIfInBounds_toArray, List.set_cons_zero, List.set_cons_succ]
                refine wpAnyH_take (i := 5) (oi := _) (v := ?v8n4_5) rfl (by kernel_rfl) (by kernel_rfl) (by kernel_rfl) (fun _ _ _ h => h) (Or.inl ⟨by rfl, ?hy8n4_5⟩) hHeld ?_
                case hy8n4_5 => (intro wS hSw; (try dsimp only at hSw); obtain ⟨s0, s1, s2, s3⟩ := hSw; go_simp; try with_reducible rfl)
                try simp only [List.getElem_toArray, List.getElem_cons_succ, List.getElem_cons_zero, Act.put, List.setIfInBounds_toArray, List.set_cons_zero, List.set_cons_succ]
                refine wpAnyH_take (i := 6) (oi := _) (v := ?v8n4_6) rfl (by kernel_rfl) (by kernel_rfl) (by kernel_rfl) (fun _ _ _ h => h) (Or.inl ⟨by rfl, ?hy8n4_6⟩) hHeld ?_
                case hy8n4_6 => (intro wS hSw; (try dsimp only at hSw); obtain ⟨s0, s1, s2, s3⟩ := hSw; go_simp; try with_reducible rfl)
                try simp only [List.getElem_toArray, List.getElem_cons_succ, List.getElem_cons_zero, Act.put, List.setIfInBounds_toArray, List.set_cons_zero, List.set_cons_succ]
                refine wpAnyH_take (i := 7) (oi := _) (v := ?v8n4_7) rfl (by kernel_rfl) (by kernel_rfl) (by kernel_rfl) (fun _ _ _ h => h) (Or.inl ⟨by rfl, ?hy8n4_7⟩) hHeld ?_
                case hy8n4_7 => (intro wS hSw; (try dsimp only at hSw); obtain ⟨s0, s1, s2, s3⟩ := hSw; go_simp; try with_reducible rfl)
                try simp only [List.getElem_toArray, List.getElem_cons_succ, List.getElem_cons_zero, Act.put, List.setIfInBounds_toArray, List.set_cons_zero, List.set_cons_succ]
                refine wpAnyH_take (i := 8) (oi := _) (v := ?v8n4_8) rfl (by kernel_rfl) (by kernel_rfl) (by kernel_rfl) (fun _ _ _ h => h) (Or.inl ⟨by rfl, ?hy8n4_8⟩) hHeld ?_
                case hy8n4_8 => (intro wS hSw; (try dsimp only at hSw); obtain ⟨s0, s1, s2, s3⟩ := hSw; go_simp; try with_reducible rfl)
                try simp only [List.getElem_toArray, List.getElem_cons_succ, List.getElem_cons_zero, Act.put, List.setIfInBounds_toArray, List.set_cons_zero, List.set_cons_succ]
                refine wpAnyH_take (i := 9) (oi := _) (v := ?v8n4_9) rfl (by kernel_rfl) (by kernel_rfl) (by kernel_rfl) (fun _ _ _ h => h) (Or.inl ⟨by rfl, ?hy8n4_9⟩) hHeld ?_
                case hy8n4_9 => (intro wS hSw; (try dsimp only at hSw); obtain ⟨s0, s1, s2, s3⟩ := hSw; go_simp; try with_reducible rfl)
                try simp only [List.getElem_toArray, List.getElem_cons_succ, List.getElem_cons_zero, Act.put, List.setIfInBounds_toArray, List.set_cons_zero, List.set_cons_succ]
                refine wpAnyH_take (i := 10) (oi := _) (v := ?v8n4_10) rfl (by kernel_rfl) (by kernel_rfl) (by kernel_rfl) (fun _ _ _ h => h) (Or.inl ⟨by rfl, ?hy8n4_10⟩) hHeld ?_
                case hy8n4_10 => (intro wS hSw; (try dsimp only at hSw); obtain ⟨s0, s1, s2, s3⟩ := hSw; go_simp; try with_reducible rfl)
                try simp only [List.getElem_toArray, List.getElem_cons_succ, List.getElem_cons_zero, Act.put, List.setIfInBounds_toArray, List.set_cons_zero, List.set_cons_succ]
                refine wpAnyH_take (i := 11) (oi := _) (v := ?v8n4_11) rfl (by kernel_rfl) (by kernel_rfl) (by kernel_rfl) (fun _ _ _ h => h) (Or.inl ⟨by rfl, ?hy8n4_11⟩) hHeld ?_
                case hy8n4_11 => (intro wS hSw; (try dsimp only at hSw); obtain ⟨s0, s1, s2, s3⟩ := hSw; go_simp; try with_reducible rfl)
                try simp only [List.getElem_toArray, List.getElem_cons_succ, List.getElem_cons_zero, Act.put, List.setIfInBounds_toArray, List.set_cons_zero, List.set_cons_succ]
                refine wpAnyH_take (i := 12) (oi := _) (v := ?v8n4_12) rfl (by kernel_rfl) (by kernel_rfl) (by kernel_rfl) (fun _ _ _ h => h) (Or.inl ⟨by rfl, ?hy8n4_12⟩) hHeld ?_
                case hy8n4_12 => (intro wS hSw; (try dsimp only at hSw); obtain ⟨s0, s1, s2, s3⟩ := hSw; go_simp; try with_reducible rfl)
                try simp only [List.getElem_toArray, List.getElem_cons_succ, List.getElem_cons_zero, Act.put, List.setIfInBounds_toArray, List.set_cons_zero, List.set_cons_succ]
                refine wpAnyH_take (i := 13) (oi := _) (v := ?v8n4_13) rfl (by kernel_rfl) (by kernel_rfl) (by kernel_rfl) (fun _ _ _ h => h) (Or.inl ⟨by rfl, ?hy8n4_13⟩) hHeld ?_
                case hy8n4_13 => (intro wS hSw; (try dsimp only at hSw); obtain ⟨s0, s1, s2, s3⟩ := hSw; go_simp; try with_reducible rfl)
                try simp only [List.getElem_toArray, List.getElem_cons_succ, List.getElem_cons_zero, Act.put, List.setIfInBounds_toArray, List.set_cons_zero, List.set_cons_succ]
                refine wpAnyH_take (i := 14) (oi := _) (v := ?v8n4_14) rfl (by kernel_rfl) (by kernel_rfl) (by kernel_rfl) (fun _ _ _ h => h) (Or.inl ⟨by rfl, ?hy8n4_14⟩) hHeld ?_
                case hy8n4_14 => (intro wS hSw; (try dsimp only at hSw); obtain ⟨s0, s1, s2, s3⟩ := hSw; go_simp; try with_reducible rfl)
                try simp only [List.getElem_toArray, List.getElem_cons_succ, List.getElem_cons_zero, Act.put, List.setIfInBounds_toArray, List.set_cons_zero, List.set_cons_succ]
                refine wpAnyH_take (i := 15) (oi := _) (v := ?v8n4_15) rfl (by kernel_rfl) (by kernel_rfl) (by kernel_rfl) (fun _ _ _ h => h) (Or.inl ⟨by rfl, ?hy8n4_15⟩) hHeld ?_
                case hy8n4_15 => (intro wS hSw; (try dsimp only at hSw); obtain ⟨s0, s1, s2, s3⟩ := hSw; go_simp; try with_reducible rfl)
                try simp only [List.getElem_toArray, List.getElem_cons_succ, List.getElem_cons_zero, Act.put, List.setIfInBounds_toArray, List.set_cons_zero, List.set_cons_succ]
                refine wpAnyH_take (i := 16) (oi := _) (v := ?v8n4_16) rfl (by kernel_rfl) (by kernel_rfl) (by kernel_rfl) (fun _ _ _ h => h) (Or.inl ⟨by rfl, ?hy8n4_16⟩) hHeld ?_
                case hy8n4_16 => (intro wS hSw; (try dsimp only at hSw); obtain ⟨s0, s1, s2, s3⟩ := hSw; go_simp; try with_reducible rfl)
                try simp only [List.getElem_toArray, List.getElem_cons_succ, List.getElem_cons_zero, Act.put, List.setIfInBounds_toArray, List.set_cons_zero, List.set_cons_succ]
                refine wpAnyH_take (i := 17) (oi := _) (v := ?v8n4_17) rfl (by kernel_rfl) (by kernel_rfl) (by kernel_rfl) (fun _ _ _ h => h) (Or.inl ⟨by rfl, ?hy8n4_17⟩) hHeld ?_
                case hy8n4_17 => (intro wS hSw; (try dsimp only at hSw); obtain ⟨s0, s1, s2, s3⟩ := hSw; go_simp; try with_reducible rfl)
                try simp only [List.getElem_toArray, List.getElem_cons_succ, List.getElem_cons_zero, Act.put, List.setIfInBounds_toArray, List.set_cons_zero, List.set_cons_succ]
                refine wpAnyH_take (i := 18) (oi := _) (v := ?v8n4_18) rfl (by kernel_rfl) (by kernel_rfl) (by kernel_rfl) (fun _ _ _ h => h) (Or.inl ⟨by rfl, ?hy8n4_18⟩) hHeld ?_
                case hy8n4_18 => (intro wS hSw; (try dsimp only at hSw); obtain ⟨s0, s1, s2, s3⟩ := hSw; go_simp; try with_reducible rfl)
                try simp only [List.getElem_toArray, List.getElem_cons_succ, List.getElem_cons_zero, Act.put, List.setIfInBounds_toArray, List.set_cons_zero, List.set_cons_succ]
                refine wpAnyH_take (i := 19) (oi := _) (v := ?v8n4_19) rfl (by kernel_rfl) (by kernel_rfl) (by kernel_rfl) (fun _ _ _ h => h) (Or.inl ⟨by rfl, ?hy8n4_19⟩) hHeld ?_
                case hy8n4_19 => (intro wS hSw; (try dsimp only at hSw); obtain ⟨s0, s1, s2, s3⟩ := hSw; go_simp; try with_reducible rfl)
                try simp only [List.getElem_toArray, List.getElem_cons_succ, List.getElem_cons_zero, Act.put, List.setIfInBounds_toArray, List.set_cons_zero, List.set_cons_succ]
                refine wpAnyH_take (i := 20) (oi := _) (v := ?v8n4_20) rfl (by kernel_rfl) (by kernel_rfl) (by kernel_rfl) (fun _ _ _ h => h) (Or.inl ⟨by rfl, ?hy8n4_20⟩) hHeld ?_
                case hy8n4_20 => (intro wS hSw; (try dsimp only at hSw); obtain ⟨s0, s1, s2, s3⟩ := hSw; go_simp; try with_reducible rfl)
                try simp only [List.getElem_toArray, List.getElem_cons_succ, List.getElem_cons_zero, Act.put, List.setIfInBounds_toArray, List.set_cons_zero, List.set_cons_succ]
                refine wpAnyH_take (i := 22) (oi := _) (v := ?v8n4_22) rfl (by kernel_rfl) (by kernel_rfl) (by kernel_rfl) (fun _ _ _ h => h) (Or.inl ⟨by rfl, ?hy8n4_22⟩) hHeld ?_
                case hy8n4_22 => (intro wS hSw; (try dsimp only at hSw); obtain ⟨s0, s1, s2, s3⟩ := hSw; go_simp; try with_reducible rfl)
                try simp only [List.getElem_toArray, List.getElem_cons_succ, List.getElem_cons_zero, Act.put, List.setIfInBounds_toArray, List.set_cons_zero, List.set_cons_succ]
                refine wpAnyH_take (i := 23) (oi := _) (v := ?v8n4_23) rfl (by kernel_rfl) (by kernel_rfl) (by kernel_rfl) (fun _ _ _ h => h) (Or.inl ⟨by rfl, ?hy8n4_23⟩) hHeld ?_
                case hy8n4_23 => (intro wS hSw; (try dsimp only at hSw); obtain ⟨s0, s1, s2, s3⟩ := hSw; go_simp; try with_reducible rfl)
                try simp only [List.getElem_toArray, List.getElem_cons_succ, List.getElem_cons_zero, Act.put, List.setIfInBounds_toArray, List.set_cons_zero, List.set_cons_succ]
                refine wpAnyH_take (i := 24) (oi := _) (v := ?v8n4_24) rfl (by kernel_rfl) (by kernel_rfl) (by kernel_rfl) (fun _ _ _ h => h) (Or.inl ⟨by rfl, ?hy8n4_24⟩) hHeld ?_
                case hy8n4_24 => (intro wS hSw; (try dsimp only at hSw); obtain ⟨s0, s1, s2, s3⟩ := hSw; go_simp; try with_reducible rfl)
                try simp only [List.getElem_toArray, List.getElem_cons_succ, List.getElem_cons_zero, Act.put, List.setIfInBounds_toArray, List.set_cons_zero, List.set_cons_succ]
                refine wpAnyH_take (i := 25) (oi := _) (v := ?v8n4_25) rfl (by kernel_rfl) (by kernel_rfl) (by kernel_rfl) (fun _ _ _ h => h) (Or.inl ⟨by rfl, ?hy8n4_25⟩) hHeld ?_
                case hy8n4_25 => (intro wS hSw; (try dsimp only at hSw); obtain ⟨s0, s1, s2, s3⟩ := hSw; go_simp; try with_reducible rfl)
                try simp only [List.getElem_toArray, List.getElem_cons_succ, List.getElem_cons_zero, Act.put, List.setIfInBounds_toArray, List.set_cons_zero, List.set_cons_succ]
                refine wpAnyH_take (i := 26) (oi := _) (v := ?v8n4_26) rfl (by kernel_rfl) (by kernel_rfl) (by kernel_rfl) (fun _ _ _ h => h) (Or.inl ⟨by rfl, ?hy8n4_26⟩) hHeld ?_
                case hy8n4_26 => (intro wS hSw; (try dsimp only at hSw); obtain ⟨s0, s1, s2, s3⟩ := hSw; go_simp; try with_reducible rfl)
                try simp only [List.getElem_toArray, List.getElem_cons_succ, List.getElem_cons_zero, Act.put, List.setIfInBounds_toArray, List.set_cons_zero, List.set_cons_succ]
                refine wpAnyH_take (i := 27) (oi := _) (v := ?v8n4_27) rfl (by kernel_rfl) (by kernel_rfl) (by kernel_rfl) (fun _ _ _ h => h) (Or.inl ⟨by rfl, ?hy8n4_27⟩) hHeld ?_
                case hy8n4_27 => (intro wS hSw; (try dsimp only at hSw); obtain ⟨s0, s1, s2, s3⟩ := hSw; go_simp; try with_reducible rfl)
                try simp only [List.getElem_toArray, List.getElem_cons_succ, List.getElem_cons_zero, Act.put, List.setIfInBounds_toArray, List.set_cons_zero, List.set_cons_succ]
                refine wpAnyH_ready (rs := [21]) (by kernel_rfl) (by simp) ?_
                refine AllReadyH.cons (o := _) rfl (fun K hK => ?_) AllReadyH.nil
                go_simp
                refine (rtotal_calls LA lc l gk.name _ (Kd.C_mono (Below.drewN (Below.refl wr.heap.size wr) q).drew HLr.out) HW.out hl).mono ?_
                rintro e5 w5 ⟨rfl, rfl⟩
                go_wp2_with fail
                refine hK.out _ _ (hHeld) (fun hHeld21 => ?_)
                clear hK K hHeld
                try simp only [List.getElem_toArray, List.getElem_cons_succ, List.getElem_cons_zero, Act.put, List.setIfInBounds_toArray, List.set_cons_zero, List.set_cons_succ]
                refine wpAnyH_ready (rs := [28]) (by kernel_rfl) (by simp) ?_
                refine AllReadyH.cons (o := _) rfl (fun K hK => ?_) AllReadyH.nil
                go_simp
                refine (rtotal_calls LA lc l gj.name _ (Kd.C_mono (Below.drewN (Below.refl wr.heap.size wr) q).drew HLr.out) HW.out hl).mono ?_
                rintro e6 w6 ⟨rfl, rfl⟩
                go_wp2_with fail
                refine hK.out _ _ (hHeld21) (fun hHeld28 => ?_)
                clear hK K hHeld21
                try simp only [List.getElem_toArray, List.getElem_cons_succ, List.getElem_cons_zero, Act.put, List.setIfInBounds_toArray, List.set_cons_zero, List.set_cons_succ]
                refine wpAnyH_take (i := 29) (oi := _) (v := ?v8n4_29) rfl (by kernel_rfl) (by kernel_rfl) (by kernel_rfl) (fun _ _ _ h => h) (Or.inl ⟨by rfl, ?hy8n4_29⟩) hHeld28 ?_
                case hy8n4_29 => (intro wS hSw; (try dsimp only at hSw); obtain ⟨s0, s1, s2, s3⟩ := hSw; go_simp; try with_reducible rfl)
                try simp only [List.getElem_toArray, List.getElem_cons_succ, List.getElem_cons_zero, Act.put, List.setIfInBounds_toArray, List.set_cons_zero, List.set_cons_succ]
                refine wpAnyH_take (i := 30) (oi := _) (v := ?v8n4_30) rfl (by kernel_rfl) (by kernel_rfl) (by kernel_rfl) (fun _ _ _ h => h) (Or.inl ⟨by rfl, ?hy8n4_30⟩) hHeld28 ?_
                case hy8n4_30 => (intro wS hSw; (try dsimp only at hSw); obtain ⟨s0, s1, s2, s3⟩ := hSw; go_simp; try with_reducible rfl)
                try simp only [List.getElem_toArray, List.getElem_cons_succ, List.getElem_cons_zero, Act.put, List.setIfInBounds_toArray, List.set_cons_zero, List.set_cons_succ]
                refine wpAnyH_take (i := 31) (oi := _) (v := ?v8n4_31) rfl (by kernel_rfl) (by kernel_rfl) (by kernel_rfl) (fun _ _ _ h => h) (Or.inl ⟨by rfl, ?hy8n4_31⟩) hHeld28 ?_
                case hy8n4_31 => (intro wS hSw; (try dsimp only at hSw); obtain ⟨s0, s1, s2, s3⟩ := hSw; go_simp; try with_reducible rfl)
                try simp only [List.getElem_toArray, List.getElem_cons_succ, List.getElem_cons_zero, Act.put, List.setIfInBounds_toArray, List.set_cons_zero, List.set_cons_succ]
                refine wpAnyH_done (by kernel_rfl) ?_ _
                go_wp2_with fail
                exact ⟨⟨k + 1, _, (k : Int), by omega, rfl, by go_num, HN, rfl⟩, by simp [intOf]; omega⟩
              · have HN := Lib.hid (HB.out.keep hc hlt2)
                have z1 : (FloatKind.f64.format.order (sumW (fun e => e.func.toList == gk.name.toList) l) (sumW (fun e => e.func.toList == gj.name.toList) l) == some .gt) = false := by
                  rw [ho, beq_eq_false_iff_ne]
                  intro h
                  injection h with h
                  rw [Nat.compare_eq_gt] at h
                  omega
                clear hgk hgj hu HB hin hc hp1 hp2 ho ek ej hlt2
                go_upto_region 8 with fail
                refine wp_region_held_drew (S := (fun w' => w'.cell? (ad.add k) = some (.bool true) ∧ w'.cell? ⟨g, k, none⟩ = some (.bool false) ∧ w'.cell? (ag.add (k * 4)) = some (.string gk.name) ∧ w'.cell? (ag.add (j * 4)) = some (.string gj.name))) (by kernel_rfl) (⟨cu, cd, cn, cj⟩) (fun hHeld => ?_)
                refine wpAnyH_take (i := 0) (oi := _) (v := ?v8n5_0) rfl (by kernel_rfl) (by kernel_rfl) (by kernel_rfl) (fun _ _ _ h => h) (Or.inl ⟨by rfl, ?hy8n5_0⟩) hHeld ?_
                case hy8n5_0 => (intro wS hSw; (try dsimp only at hSw); obtain ⟨s0, s1, s2, s3⟩ := hSw; go_simp; try with_reducible rfl)
                try simp only [List.getElem_toArray, List.getElem_cons_succ, List.getElem_cons_zero, Act.put, List.setIfInBounds_toArray, List.set_cons_zero, List.set_cons_succ]
                refine wpAnyH_take (i := 1) (oi := _) (v := ?v8n5_1) rfl (by kernel_rfl) (by kernel_rfl) (by kernel_rfl) (fun _ _ _ h => h) (Or.inl ⟨by rfl, ?hy8n5_1⟩) hHeld ?_
                case hy8n5_1 => (intro wS hSw; (try dsimp only at hSw); obtain ⟨s0, s1, s2, s3⟩ := hSw; go_simp; try with_reducible rfl)
                try simp only [List.getElem_toArray, List.getElem_cons_succ, List.getElem_cons_zero, Act.put, List.setIfInBounds_toArray, List.set_cons_zero, List.set_cons_succ]
                refine wpAnyH_take (i := 2) (oi := _) (v := ?v8n5_2) rfl (by kernel_rfl) (by kernel_rfl) (by kernel_rfl) (fun _ _ _ h => h) (Or.inl ⟨by rfl, ?hy8n5_2⟩) hHeld ?_
                case hy8n5_2 => (intro wS hSw; (try dsimp only at hSw); obtain ⟨s0, s1, s2, s3⟩ := hSw; go_simp; try with_reducible rfl)
                try simp only [List.getElem_toArray, List.getElem_cons_succ, List.getElem_cons_zero, Act.put, List.setIfInBounds_toArray, List.set_cons_zero, List.set_cons_succ]
                refine wpAnyH_take (i := 3) (oi := _) (v := ?v8n5_3) rfl (by kernel_rfl) (by kernel_rfl) (by kernel_rfl) (fun _ _ _ h => h) (Or.inl ⟨by rfl, ?hy8n5_3⟩) hHeld ?_
                case hy8n5_3 => (intro wS hSw; (try dsimp only at hSw); obtain ⟨s0, s1, s2, s3⟩ := hSw; go_simp; try with_reducible rfl)
                try simp only [List.getElem_toArray, List.getElem_cons_succ, List.getElem_cons_zero, Act.put, List.setIfInBounds_toArray, List.set_cons_zero, List.set_cons_succ]
                refine wpAnyH_take (i := 4) (oi := _) (v := ?v8n5_4) rfl (by kernel_rfl) (by kernel_rfl) (by kernel_rfl) (fun _ _ _ h => h) (Or.inl ⟨by rfl, ?hy8n5_4⟩) hHeld ?_
                case hy8n5_4 => (intro wS hSw; (try dsimp only at hSw); obtain ⟨s0, s1, s2, s3⟩ := hSw; go_simp; try with_reducible rfl)
                try simp only [List.getElem_toArray, List.getElem_cons_succ, List.getElem_cons_zero, Act.put, List.setIfInBounds_toArray, List.set_cons_zero, List.set_cons_succ]
                refine wpAnyH_take (i := 5) (oi := _) (v := ?v8n5_5) rfl (by kernel_rfl) (by kernel_rfl) (by kernel_rfl) (fun _ _ _ h => h) (Or.inl ⟨by rfl, ?hy8n5_5⟩) hHeld ?_
                case hy8n5_5 => (intro wS hSw; (try dsimp only at hSw); obtain ⟨s0, s1, s2, s3⟩ := hSw; go_simp; try with_reducible rfl)
                try simp only [List.getElem_toArray, List.getElem_cons_succ, List.getElem_cons_zero, Act.put, List.setIfInBounds_toArray, List.set_cons_zero, List.set_cons_succ]
                refine wpAnyH_take (i := 6) (oi := _) (v := ?v8n5_6) rfl (by kernel_rfl) (by kernel_rfl) (by kernel_rfl) (fun _ _ _ h => h) (Or.inl ⟨by rfl, ?hy8n5_6⟩) hHeld ?_
                case hy8n5_6 => (intro wS hSw; (try dsimp only at hSw); obtain ⟨s0, s1, s2, s3⟩ := hSw; go_simp; try with_reducible rfl)
                try simp only [List.getElem_toArray, List.getElem_cons_succ, List.getElem_cons_zero, Act.put, List.setIfInBounds_toArray, List.set_cons_zero, List.set_cons_succ]
                refine wpAnyH_take (i := 7) (oi := _) (v := ?v8n5_7) rfl (by kernel_rfl) (by kernel_rfl) (by kernel_rfl) (fun _ _ _ h => h) (Or.inl ⟨by rfl, ?hy8n5_7⟩) hHeld ?_
                case hy8n5_7 => (intro wS hSw; (try dsimp only at hSw); obtain ⟨s0, s1, s2, s3⟩ := hSw; go_simp; try with_reducible rfl)
                try simp only [List.getElem_toArray, List.getElem_cons_succ, List.getElem_cons_zero, Act.put, List.setIfInBounds_toArray, List.set_cons_zero, List.set_cons_succ]
                refine wpAnyH_take (i := 8) (oi := _) (v := ?v8n5_8) rfl (by kernel_rfl) (by kernel_rfl) (by kernel_rfl) (fun _ _ _ h => h) (Or.inl ⟨by rfl, ?hy8n5_8⟩) hHeld ?_
                case hy8n5_8 => (intro wS hSw; (try dsimp only at hSw); obtain ⟨s0, s1, s2, s3⟩ := hSw; go_simp; try with_reducible rfl)
                try simp only [List.getElem_toArray, List.getElem_cons_succ, List.getElem_cons_zero, Act.put, List.setIfInBounds_toArray, List.set_cons_zero, List.set_cons_succ]
                refine wpAnyH_take (i := 9) (oi := _) (v := ?v8n5_9) rfl (by kernel_rfl) (by kernel_rfl) (by kernel_rfl) (fun _ _ _ h => h) (Or.inl ⟨by rfl, ?hy8n5_9⟩) hHeld ?_
                case hy8n5_9 => (intro wS hSw; (try dsimp only at hSw); obtain ⟨s0, s1, s2, s3⟩ := hSw; go_simp; try with_reducible rfl)
                try simp only [List.getElem_toArray, List.getElem_cons_succ, List.getElem_cons_zero, Act.put, List.setIfInBounds_toArray, List.set_cons_zero, List.set_cons_succ]
                refine wpAnyH_take (i := 10) (oi := _) (v := ?v8n5_10) rfl (by kernel_rfl) (by kernel_rfl) (by kernel_rfl) (fun _ _ _ h => h) (Or.inl ⟨by rfl, ?hy8n5_10⟩) hHeld ?_
                case hy8n5_10 => (intro wS hSw; (try dsimp only at hSw); obtain ⟨s0, s1, s2, s3⟩ := hSw; go_simp; try with_reducible rfl)
                try simp only [List.getElem_toArray, List.getElem_cons_succ, List.getElem_cons_zero, Act.put, List.setIfInBounds_toArray, List.set_cons_zero, List.set_cons_succ]
                refine wpAnyH_take (i := 11) (oi := _) (v := ?v8n5_11) rfl (by kernel_rfl) (by kernel_rfl) (by kernel_rfl) (fun _ _ _ h => h) (Or.inl ⟨by rfl, ?hy8n5_11⟩) hHeld ?_
                case hy8n5_11 => (intro wS hSw; (try dsimp only at hSw); obtain ⟨s0, s1, s2, s3⟩ := hSw; go_simp; try with_reducible rfl)
                try simp only [List.getElem_toArray, List.getElem_cons_succ, List.getElem_cons_zero, Act.put, List.setIfInBounds_toArray, List.set_cons_zero, List.set_cons_succ]
                refine wpAnyH_take (i := 12) (oi := _) (v := ?v8n5_12) rfl (by kernel_rfl) (by kernel_rfl) (by kernel_rfl) (fun _ _ _ h => h) (Or.inl ⟨by rfl, ?hy8n5_12⟩) hHeld ?_
                case hy8n5_12 => (intro wS hSw; (try dsimp only at hSw); obtain ⟨s0, s1, s2, s3⟩ := hSw; go_simp; try with_reducible rfl)
                try simp only [List.getElem_toArray, List.getElem_cons_succ, List.getElem_cons_zero, Act.put, List.setIfInBounds_toArray, List.set_cons_zero, List.set_cons_succ]
                refine wpAnyH_take (i := 13) (oi := _) (v := ?v8n5_13) rfl (by kernel_rfl) (by kernel_rfl) (by kernel_rfl) (fun _ _ _ h => h) (Or.inl ⟨by rfl, ?hy8n5_13⟩) hHeld ?_
                case hy8n5_13 => (intro wS hSw; (try dsimp only at hSw); obtain ⟨s0, s1, s2, s3⟩ := hSw; go_simp; try with_reducible rfl)
                try simp only [List.getElem_toArray, List.getElem_cons_succ, List.getElem_cons_zero, Act.put, List.setIfInBounds_toArray, List.set_cons_zero, List.set_cons_succ]
                refine wpAnyH_take (i := 14) (oi := _) (v := ?v8n5_14) rfl (by kernel_rfl) (by kernel_rfl) (by kernel_rfl) (fun _ _ _ h => h) (Or.inl ⟨by rfl, ?hy8n5_14⟩) hHeld ?_
                case hy8n5_14 => (intro wS hSw; (try dsimp only at hSw); obtain ⟨s0, s1, s2, s3⟩ := hSw; go_simp; try with_reducible rfl)
                try simp only [List.getElem_toArray, List.getElem_cons_succ, List.getElem_cons_zero, Act.put, List.setIfInBounds_toArray, List.set_cons_zero, List.set_cons_succ]
                refine wpAnyH_take (i := 15) (oi := _) (v := ?v8n5_15) rfl (by kernel_rfl) (by kernel_rfl) (by kernel_rfl) (fun _ _ _ h => h) (Or.inl ⟨by rfl, ?hy8n5_15⟩) hHeld ?_
                case hy8n5_15 => (intro wS hSw; (try dsimp only at hSw); obtain ⟨s0, s1, s2, s3⟩ := hSw; go_simp; try with_reducible rfl)
                try simp only [List.getElem_toArray, List.getElem_cons_succ, List.getElem_cons_zero, Act.put, List.setIfInBounds_toArray, List.set_cons_zero, List.set_cons_succ]
                refine wpAnyH_take (i := 16) (oi := _) (v := ?v8n5_16) rfl (by kernel_rfl) (by kernel_rfl) (by kernel_rfl) (fun _ _ _ h => h) (Or.inl ⟨by rfl, ?hy8n5_16⟩) hHeld ?_
                case hy8n5_16 => (intro wS hSw; (try dsimp only at hSw); obtain ⟨s0, s1, s2, s3⟩ := hSw; go_simp; try with_reducible rfl)
                try simp only [List.getElem_toArray, List.getElem_cons_succ, List.getElem_cons_zero, Act.put, List.setIfInBounds_toArray, List.set_cons_zero, List.set_cons_succ]
                refine wpAnyH_take (i := 17) (oi := _) (v := ?v8n5_17) rfl (by kernel_rfl) (by kernel_rfl) (by kernel_rfl) (fun _ _ _ h => h) (Or.inl ⟨by rfl, ?hy8n5_17⟩) hHeld ?_
                case hy8n5_17 => (intro wS hSw; (try dsimp only at hSw); obtain ⟨s0, s1, s2, s3⟩ := hSw; go_simp; try with_reducible rfl)
                try simp only [List.getElem_toArray, List.getElem_cons_succ, List.getElem_cons_zero, Act.put, List.setIfInBounds_toArray, List.set_cons_zero, List.set_cons_succ]
                refine wpAnyH_take (i := 18) (oi := _) (v := ?v8n5_18) rfl (by kernel_rfl) (by kernel_rfl) (by kernel_rfl) (fun _ _ _ h => h) (Or.inl ⟨by rfl, ?hy8n5_18⟩) hHeld ?_
                case hy8n5_18 => (intro wS hSw; (try dsimp only at hSw); obtain ⟨s0, s1, s2, s3⟩ := hSw; go_simp; try with_reducible rfl)
                try simp only [List.getElem_toArray, List.getElem_cons_succ, List.getElem_cons_zero, Act.put, List.setIfInBounds_toArray, List.set_cons_zero, List.set_cons_succ]
                refine wpAnyH_take (i := 19) (oi := _) (v := ?v8n5_19) rfl (by kernel_rfl) (by kernel_rfl) (by kernel_rfl) (fun _ _ _ h => h) (Or.inl ⟨by rfl, ?hy8n5_19⟩) hHeld ?_
                case hy8n5_19 => (intro wS hSw; (try dsimp only at hSw); obtain ⟨s0, s1, s2, s3⟩ := hSw; go_simp; try with_reducible rfl)
                try simp only [List.getElem_toArray, List.getElem_cons_succ, List.getElem_cons_zero, Act.put, List.setIfInBounds_toArray, List.set_cons_zero, List.set_cons_succ]
                refine wpAnyH_take (i := 20) (oi := _) (v := ?v8n5_20) rfl (by kernel_rfl) (by kernel_rfl) (by kernel_rfl) (fun _ _ _ h => h) (Or.inl ⟨by rfl, ?hy8n5_20⟩) hHeld ?_
                case hy8n5_20 => (intro wS hSw; (try dsimp only at hSw); obtain ⟨s0, s1, s2, s3⟩ := hSw; go_simp; try with_reducible rfl)
                try simp only [List.getElem_toArray, List.getElem_cons_succ, List.getElem_cons_zero, Act.put, List.setIfInBounds_toArray, List.set_cons_zero, List.set_cons_succ]
                refine wpAnyH_take (i := 22) (oi := _) (v := ?v8n5_22) rfl (by kernel_rfl) (by kernel_rfl) (by kernel_rfl) (fun _ _ _ h => h) (Or.inl ⟨by rfl, ?hy8n5_22⟩) hHeld ?_
                case hy8n5_22 => (intro wS hSw; (try dsimp only at hSw); obtain ⟨s0, s1, s2, s3⟩ := hSw; go_simp; try with_reducible rfl)
                try simp only [List.getElem_toArray, List.getElem_cons_succ, List.getElem_cons_zero, Act.put, List.setIfInBounds_toArray, List.set_cons_zero, List.set_cons_succ]
                refine wpAnyH_take (i := 23) (oi := _) (v := ?v8n5_23) rfl (by kernel_rfl) (by kernel_rfl) (by kernel_rfl) (fun _ _ _ h => h) (Or.inl ⟨by rfl, ?hy8n5_23⟩) hHeld ?_
                case hy8n5_23 => (intro wS hSw; (try dsimp only at hSw); obtain ⟨s0, s1, s2, s3⟩ := hSw; go_simp; try with_reducible rfl)
                try simp only [List.getElem_toArray, List.getElem_cons_succ, List.getElem_cons_zero, Act.put, List.setIfInBounds_toArray, List.set_cons_zero, List.set_cons_succ]
                refine wpAnyH_take (i := 24) (oi := _) (v := ?v8n5_24) rfl (by kernel_rfl) (by kernel_rfl) (by kernel_rfl) (fun _ _ _ h => h) (Or.inl ⟨by rfl, ?hy8n5_24⟩) hHeld ?_
                case hy8n5_24 => (intro wS hSw; (try dsimp only at hSw); obtain ⟨s0, s1, s2, s3⟩ := hSw; go_simp; try with_reducible rfl)
                try simp only [List.getElem_toArray, List.getElem_cons_succ, List.getElem_cons_zero, Act.put, List.setIfInBounds_toArray, List.set_cons_zero, List.set_cons_succ]
                refine wpAnyH_take (i := 25) (oi := _) (v := ?v8n5_25) rfl (by kernel_rfl) (by kernel_rfl) (by kernel_rfl) (fun _ _ _ h => h) (Or.inl ⟨by rfl, ?hy8n5_25⟩) hHeld ?_
                case hy8n5_25 => (intro wS hSw; (try dsimp only at hSw); obtain ⟨s0, s1, s2, s3⟩ := hSw; go_simp; try with_reducible rfl)
                try simp only [List.getElem_toArray, List.getElem_cons_succ, List.getElem_cons_zero, Act.put, List.setIfInBounds_toArray, List.set_cons_zero, List.set_cons_succ]
                refine wpAnyH_take (i := 26) (oi := _) (v := ?v8n5_26) rfl (by kernel_rfl) (by kernel_rfl) (by kernel_rfl) (fun _ _ _ h => h) (Or.inl ⟨by rfl, ?hy8n5_26⟩) hHeld ?_
                case hy8n5_26 => (intro wS hSw; (try dsimp only at hSw); obtain ⟨s0, s1, s2, s3⟩ := hSw; go_simp; try with_reducible rfl)
                try simp only [List.getElem_toArray, List.getElem_cons_succ, List.getElem_cons_zero, Act.put, List.setIfInBounds_toArray, List.set_cons_zero, List.set_cons_succ]
                refine wpAnyH_take (i := 27) (oi := _) (v := ?v8n5_27) rfl (by kernel_rfl) (by kernel_rfl) (by kernel_rfl) (fun _ _ _ h => h) (Or.inl ⟨by rfl, ?hy8n5_27⟩) hHeld ?_
                case hy8n5_27 => (intro wS hSw; (try dsimp only at hSw); obtain ⟨s0, s1, s2, s3⟩ := hSw; go_simp; try with_reducible rfl)
                try simp only [List.getElem_toArray, List.getElem_cons_succ, List.getElem_cons_zero, Act.put, List.setIfInBounds_toArray, List.set_cons_zero, List.set_cons_succ]
                refine wpAnyH_ready (rs := [21]) (by kernel_rfl) (by simp) ?_
                refine AllReadyH.cons (o := _) rfl (fun K hK => ?_) AllReadyH.nil
                go_simp
                refine (rtotal_calls LA lc l gk.name _ (Kd.C_mono (Below.drewN (Below.refl wr.heap.size wr) q).drew HLr.out) HW.out hl).mono ?_
                rintro e5 w5 ⟨rfl, rfl⟩
                go_wp2_with fail
                refine hK.out _ _ (hHeld) (fun hHeld21 => ?_)
                clear hK K hHeld
                try simp only [List.getElem_toArray, List.getElem_cons_succ, List.getElem_cons_zero, Act.put, List.setIfInBounds_toArray, List.set_cons_zero, List.set_cons_succ]
                refine wpAnyH_ready (rs := [28]) (by kernel_rfl) (by simp) ?_
                refine AllReadyH.cons (o := _) rfl (fun K hK => ?_) AllReadyH.nil
                go_simp
                refine (rtotal_calls LA lc l gj.name _ (Kd.C_mono (Below.drewN (Below.refl wr.heap.size wr) q).drew HLr.out) HW.out hl).mono ?_
                rintro e6 w6 ⟨rfl, rfl⟩
                go_wp2_with fail
                refine hK.out _ _ (hHeld21) (fun hHeld28 => ?_)
                clear hK K hHeld21
                try simp only [List.getElem_toArray, List.getElem_cons_succ, List.getElem_cons_zero, Act.put, List.setIfInBounds_toArray, List.set_cons_zero, List.set_cons_succ]
                refine wpAnyH_take (i := 29) (oi := _) (v := ?v8n5_29) rfl (by kernel_rfl) (by kernel_rfl) (by kernel_rfl) (fun _ _ _ h => h) (Or.inl ⟨by rfl, ?hy8n5_29⟩) hHeld28 ?_
                case hy8n5_29 => (intro wS hSw; (try dsimp only at hSw); obtain ⟨s0, s1, s2, s3⟩ := hSw; go_simp; try with_reducible rfl)
                try simp only [List.getElem_toArray, List.getElem_cons_succ, List.getElem_cons_zero, Act.put, List.setIfInBounds_toArray, List.set_cons_zero, List.set_cons_succ]
                refine wpAnyH_take (i := 30) (oi := _) (v := ?v8n5_30) rfl (by kernel_rfl) (by kernel_rfl) (by kernel_rfl) (fun _ _ _ h => h) (Or.inl ⟨by rfl, ?hy8n5_30⟩) hHeld28 ?_
                case hy8n5_30 => (intro wS hSw; (try dsimp only at hSw); obtain ⟨s0, s1, s2, s3⟩ := hSw; go_simp; try with_reducible rfl)
                try simp only [List.getElem_toArray, List.getElem_cons_succ, List.getElem_cons_zero, Act.put, List.setIfInBounds_toArray, List.set_cons_zero, List.set_cons_succ]
                refine wpAnyH_take (i := 31) (oi := _) (v := ?v8n5_31) rfl (by kernel_rfl) (by kernel_rfl) (by kernel_rfl) (fun _ _ _ h => h) (Or.inl ⟨by rfl, ?hy8n5_31⟩) hHeld28 ?_
                case hy8n5_31 => (intro wS hSw; (try dsimp only at hSw); obtain ⟨s0, s1, s2, s3⟩ := hSw; go_simp; try with_reducible rfl)
                try simp only [List.getElem_toArray, List.getElem_cons_succ, List.getElem_cons_zero, Act.put, List.setIfInBounds_toArray, List.set_cons_zero, List.set_cons_succ]
                refine wpAnyH_done (by kernel_rfl) ?_ _
                go_wp2_with fail
                exact ⟨⟨k + 1, _, (j : Int), by omega, rfl, by go_num, HN, rfl⟩, by simp [intOf]; omega⟩
      · obtain rfl : k = gs.length := by omega
        have hB := HB.out
        rw [← HUL.out] at hB
        rcases BestF.done (by rw [HUL.out]; exact he) HP.out.1 HP.out.2 hm hB with ⟨rfl, hme⟩ | ⟨j, rfl, hju, hmt, hj⟩
        · have HT : Hid ((e :: ts).take (m + 1) = e :: ts) := Lib.hid (by rw [hme, List.take_of_length_le (by simp)])
          clear hB HB hme
          go_wp2_with fail
          go_ret
          refine ⟨_, F, rfl, ?_, fun b hb => (HO.out.2.1 b hb).1, Below.drewN HBR.out q⟩
          have := HO.out.1
          rw [HT.out] at this
          exact OwnF.below this (Below.drewN (Below.refl _ _) q)
        · have hjn : j < gs.length := by rw [← HUL.out]; exact hju
          have HJ := Lib.hid hj
          have hsn : Hid ((e :: ts).take (m + 1 + 1) = (e :: ts).take (m + 1) ++ [j]) := Lib.hid (take_snoc hj)
          obtain ⟨ho, hF, hrow⟩ := HO.out
          have hbd := Below.drewN (Below.refl wr.heap.size wr) q
          have hrow' : RowB (wr.drewN q) g (seenL gs.length ((e :: ts).take (m + 1))) := hrow
          have ho' := ho.below hbd
          have cd := hrow'.cell (seenL_get (xs := (e :: ts).take (m + 1)) hjn)
          have fz := hrow'.frozen j
          obtain ⟨hset, hgr⟩ := hrow'.set j true
          rw [seenL_set] at hset
          have ho4 := ho'.grown hgr (fun x hx h => by injection h with h; exact (hF x hx).2 h.symm)
          have hb4 := (Below.drewN HBR.out q).grown hgr (by exact HBR.out.size) (fun i hi => by injection hi with hi; omega)
          have hsz : g < wr.heap.size := hrow.lt
          generalize decide (j ∈ (e :: ts).take (m + 1)) = db at cd
          obtain ⟨ys, hys⟩ : ∃ ys, ys = (e :: ts).take (m + 1) := ⟨_, rfl⟩
          rw [← hys] at hset ho4
          have hsn' : Hid ((e :: ts).take (m + 1 + 1) = ys ++ [j]) := by rw [hys]; exact hsn
          have hyl : ys.length ≤ 1001 := by rw [hys, List.length_take]; simp; omega
          have hz4 : g < ((wr.drewN q).setCell ⟨g, j, none⟩ (.bool true)).heap.size := Nat.lt_of_lt_of_le hsz hgr.size
          clear HO HB hB hju hj hsn ho hrow hbd hrow' ho' hgr hys hsz HJ
          go_upto_region 13 with fail
          clear cd fz
          generalize (wr.drewN q).setCell ⟨g, j, none⟩ (.bool true) = w5 at *
          have b6 := below_alloc' w5 (.cells #[.int .i64 (j : Int)] 3)
          have hY : YF oN (w5.alloc (.cells #[.int .i64 (j : Int)] 3)) (some ⟨w5.heap.size, 0, none⟩) [j] noF := YF.one rfl ⟨fun _ h => h, rfl⟩
          have ho6 := ho4.below b6
          have hset6 := hset.below b6
          have hap : ys.length + [j].length ≤ 100000000 := by simp; omega
          have hrow6 := fun (x : Nat) (hx : u9.ownBlock = some x) => ho4.row hx
          have HAP := Lib.hid hap
          have HO6 := Lib.hid ho6
          have HB6 := Lib.hid b6
          have HS6 := Lib.hid hset6
          have HR6 := Lib.hid hrow6
          have HF := Lib.hid hF
          have HB4 := Lib.hid hb4
          have HZ4 := Lib.hid hz4
          clear hap ho6 b6 hset6 hrow6 ho4 hset hF hb4 hz4 hyl
          go_wp2_with (refine wpList_append_f (k := oN) elN rfl _ _ rfl (v := u9) (xs := ys) (ys := [j]) (F := F) (G := noF) HO6.out hY (fun _ _ h => h) rfl rfl HAP.out ?_; intro v9 w9 hg9)
          obtain ⟨⟨F9, own9, hF9⟩, hgr9⟩ := hg9
          go_roundg (ts.length - (m + 1))
          case measure => omega
          case rel =>
            have hsz6 := HB6.out.size
            refine ⟨m + 1, F9, hmt, Nat.le_refl _, Lib.hid ⟨?_, fun b hb => ?_, ?_⟩, ?_⟩
            · rw [hsn'.out]; exact own9
            · rcases hF9 b hb with h | h | h
              · exact HF.out b h
              · exact h.elim
              · have := HZ4.out
                exact ⟨by omega, by omega⟩
            · rw [hsn'.out]
              exact HS6.out.apart hgr9 (fun h => (HF.out g (HR6.out g h)).2 rfl)
            · exact (HB4.out.trans (HB6.out.mono HB4.out.size)).grown hgr9 (Nat.le_trans HB4.out.size hsz6) (fun i hi => (HF.out i (HR6.out i hi)).1)

set_option maxHeartbeats 8000000 in
set_option maxRecDepth 100000 in
theorem chainFuncs_law (w : World) (GA : Option Addr) (gc : Nat) (gs : List Graph) (hlc : gs.length ≤ gc) (hcm : gc ≤ maxLen) (hG : kGraph.C w GA gs) (x : Int) (hx : (Lit.int .u8 x).wf = true) (LA : Option Addr) (lc : Nat) (l : List Edge) (hll : l.length ≤ lc) (hlm2 : lc ≤ maxLen) (hL : kEdge.C w LA l) (UA : Option Addr) (uc : Nat) (us : List Bool) (hul : us.length ≤ uc) (hum : uc ≤ maxLen) (hU : Kd.bool.C w UA us) : Calls Try.prog 4 #[.slice GA gs.length gc, .int .u8 x, .slice LA l.length lc, .slice UA us.length uc] w fun e w' => e = .returned (.bool true) ∧ Below w.heap.size w w' := by
  obtain ⟨hx0, hx1⟩ := u8_boundsZ hx
  clear hx
  have hlm := Nat.le_trans hlc hcm
  have hlm' : gs.length ≤ 9223372036854775807 := hlm
  have hl2 := Nat.le_trans hll hlm2
  have hl2' : l.length ≤ 9223372036854775807 := hl2
  have hu2' : us.length ≤ 9223372036854775807 := Nat.le_trans hul hum
  have HWF := Lib.hid (edges_wf hL)
  by_cases hn0 : gs.length = 0
  · have z0_0 : ((gs.length : Int) == 0) = true := by simpa using hn0
    have z0_1 : (gs.length == 0) = true := by simpa using hn0
    have z0_2 : decide (gs.length = 0) = true := by simpa using hn0
    clear hn0
    go_enter Try.func4, Try.ntmps4
    go_wp2_with fail
    refine (awake25_calls _).mono ?_
    rintro e w1 ⟨rfl, hb1⟩
    go_wp2_with fail
    refine (awake25_calls _).mono ?_
    rintro e w3 ⟨rfl, hb3⟩
    go_wp2_with fail
    go_ret
    exact ⟨rfl, hb1.trans (hb3.mono hb1.size)⟩
  have z0_0 : ((gs.length : Int) == 0) = false := by simpa using hn0
  have z0_1 : (gs.length == 0) = false := by simpa using hn0
  have z0_2 : decide (gs.length = 0) = false := by simpa using hn0
  have hpos : 0 < gs.length := by omega
  have Hhn0 := Lib.hid hn0
  clear hn0
  by_cases h60 : 60 < gs.length
  · have z1_0 : decide (60 < (gs.length : Int)) = true := by simp; omega
    have z1_1 : decide (60 < gs.length) = true := by simp; omega
    have z1_n : 60 < gs.length := h60
    clear h60
    go_enter Try.func4, Try.ntmps4
    go_wp2_with fail
    refine (awake25_calls _).mono ?_
    rintro e w1 ⟨rfl, hb1⟩
    go_wp2_with fail
    refine (awake25_calls _).mono ?_
    rintro e w3 ⟨rfl, hb3⟩
    go_wp2_with fail
    go_ret
    exact ⟨rfl, hb1.trans (hb3.mono hb1.size)⟩
  have z1_0 : decide (60 < (gs.length : Int)) = false := by simp; omega
  have z1_1 : decide (60 < gs.length) = false := by simp; omega
  have z1_n : ¬ 60 < gs.length := h60
  have Hh60 := Lib.hid h60
  clear h60
  by_cases hue : us.length ≠ gs.length
  · have z2_0 : ((us.length : Int) != (gs.length : Int)) = true := by simp; omega
    have z2_1 : (us.length != gs.length) = true := by simp; omega
    clear hue
    go_enter Try.func4, Try.ntmps4
    go_wp2_with fail
    refine (awake25_calls _).mono ?_
    rintro e w1 ⟨rfl, hb1⟩
    go_wp2_with fail
    refine (awake25_calls _).mono ?_
    rintro e w3 ⟨rfl, hb3⟩
    go_wp2_with fail
    go_ret
    exact ⟨rfl, hb1.trans (hb3.mono hb1.size)⟩
  have z2_0 : ((us.length : Int) != (gs.length : Int)) = false := by simp; omega
  have z2_1 : (us.length != gs.length) = false := by simp; omega
  have HUL : Hid (us.length = gs.length) := Lib.hid (by omega)
  have Hhue := Lib.hid hue
  clear hue
  by_cases hl60 : 60 < l.length
  · have z3_0 : decide (60 < (l.length : Int)) = true := by simp; omega
    have z3_1 : decide (60 < l.length) = true := by simp; omega
    have z3_n : 60 < l.length := hl60
    clear hl60
    go_enter Try.func4, Try.ntmps4
    go_wp2_with fail
    refine (awake25_calls _).mono ?_
    rintro e w1 ⟨rfl, hb1⟩
    go_wp2_with fail
    refine (awake25_calls _).mono ?_
    rintro e w3 ⟨rfl, hb3⟩
    go_wp2_with fail
    go_ret
    exact ⟨rfl, hb1.trans (hb3.mono hb1.size)⟩
  have z3_0 : decide (60 < (l.length : Int)) = false := by simp; omega
  have z3_1 : decide (60 < l.length) = false := by simp; omega
  have z3_n : ¬ 60 < l.length := hl60
  have Hhl60 := Lib.hid hl60
  clear hl60
  obtain ⟨i, hi, he⟩ := tmod_indexZ hx0 hpos
  go_enter Try.func4, Try.ntmps4
  go_wp2_with fail
  refine (awake25_calls _).mono ?_
  rintro e w1 ⟨rfl, hb1⟩
  go_wp2_with fail
  have hG1 := Kd.C_mono hb1 hG
  have hL1 := Kd.C_mono hb1 hL
  have hU1 := Kd.C_mono hb1 hU
  refine (funcs_calls GA gc gs i LA lc l UA uc us _ hi hG1 hL1 HWF.out hl2 hU1 HUL.out (by have := Hh60.out; omega)).mono ?_
  rintro r w2 ⟨v, F, ts, rfl, own, hF, hb2, hp, hs⟩
  obtain ⟨OA, oc, rfl, hoc, hocm, CO, -⟩ := own.readN
  have t2 := hb1.trans (hb2.mono hb1.size)
  go_wp2_with fail
  refine (refFuncs_calls GA gc gs i LA lc l UA uc us ts _ hi (Kd.C_mono t2 hG) (Kd.C_mono t2 hL) HWF.out hl2 (Kd.C_mono t2 hU) HUL.out (by have := Hh60.out; omega) hp hs).mono ?_
  rintro r w3 ⟨v3, F3, rfl, own3, hF3, hb3⟩
  obtain ⟨OA3, oc3, rfl, hoc3, hocm3, CO3, -⟩ := own3.readN
  have t3 := t2.trans (hb3.mono t2.size)
  have hc2 := (CO.belowAt hb3).ints
  have hc3 := CO3.ints
  have hil := ints_calls OA OA3 oc oc3 (toI (i :: ts)) (toI (i :: ts)) w3 hc2 hc3 (by rw [toI_len]; exact Nat.le_trans hoc hocm)
  rw [toI_len, show (toI (i :: ts) == toI (i :: ts)) = true from by simp] at hil
  go_wp2_with fail
  refine hil.mono ?_
  rintro r w4 ⟨rfl, n, rfl⟩
  go_wp2_with fail
  go_ret
  exact ⟨rfl, Below.drewN t3 n⟩
end Go.Proofs.Ythnkikdbllkmkaa
