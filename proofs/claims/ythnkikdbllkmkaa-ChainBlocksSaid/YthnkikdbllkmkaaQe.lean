/- spliceref25.Blocks: the document's order of blocks is the program's. -/
import Derived.Test.YthnkikdbllkmkaaQd
import Derived.Deep.LoopGhost
namespace Go.Proofs.Ythnkikdbllkmkaa
set_option linter.unusedVariables false
set_option linter.unusedSimpArgs false
open Go.RowKit Go.Lib
attribute [local go_sem] run_store_float

/-- The rows of the document's Blocks. -/
structure Mem25 (w wr : World) (GB g6 g7 g8 : Nat) (cs : List Value) (nx pv : List Int) (us : List Bool) : Prop where
  r : Row wr GB 24 cs
  n : RowZ wr g6 nx
  p : RowZ wr g7 pv
  u : RowB wr g8 us
  b : Below w.heap.size w wr
section
variable {w wr w' : World} {GB g6 g7 g8 : Nat} {cs : List Value} {nx pv : List Int} {us : List Bool}
theorem Mem25.below (h : Mem25 w wr GB g6 g7 g8 cs nx pv us) (hb : Below wr.heap.size wr w') : Mem25 w w' GB g6 g7 g8 cs nx pv us :=
  ⟨h.r.below hb, h.n.below hb, h.p.below hb, h.u.below hb, h.b.trans (hb.mono h.b.size)⟩
theorem Mem25.setN (h : Mem25 w wr GB g6 g7 g8 cs nx pv us) (h0 : w.heap.size ≤ GB) (h6 : GB < g6) (h7 : g6 < g7) (h8 : g7 < g8) (i : Nat) (v : Int) : Mem25 w (wr.setCell ⟨g6, i, none⟩ (.int .i64 v)) GB g6 g7 g8 cs (nx.set i v) pv us := by
  obtain ⟨hs, hg⟩ := h.n.set i v
  exact ⟨h.r.grown hg (fun e => by injection e with e; omega), hs, h.p.apart hg (fun e => by injection e with e; omega), h.u.apart hg (fun e => by injection e with e; omega), h.b.grown hg h.b.size (fun k hk => by injection hk with hk; omega)⟩
theorem Mem25.setP (h : Mem25 w wr GB g6 g7 g8 cs nx pv us) (h0 : w.heap.size ≤ GB) (h6 : GB < g6) (h7 : g6 < g7) (h8 : g7 < g8) (i : Nat) (v : Int) : Mem25 w (wr.setCell ⟨g7, i, none⟩ (.int .i64 v)) GB g6 g7 g8 cs nx (pv.set i v) us := by
  obtain ⟨hs, hg⟩ := h.p.set i v
  exact ⟨h.r.grown hg (fun e => by injection e with e; omega), h.n.apart hg (fun e => by injection e with e; omega), hs, h.u.apart hg (fun e => by injection e with e; omega), h.b.grown hg h.b.size (fun k hk => by injection hk with hk; omega)⟩
theorem Mem25.setU (h : Mem25 w wr GB g6 g7 g8 cs nx pv us) (h0 : w.heap.size ≤ GB) (h6 : GB < g6) (h7 : g6 < g7) (h8 : g7 < g8) (i : Nat) (v : Bool) : Mem25 w (wr.setCell ⟨g8, i, none⟩ (.bool v)) GB g6 g7 g8 cs nx pv (us.set i v) := by
  obtain ⟨hs, hg⟩ := h.u.set i v
  exact ⟨h.r.grown hg (fun e => by injection e with e; omega), h.n.apart hg (fun e => by injection e with e; omega), h.p.apart hg (fun e => by injection e with e; omega), hs, h.b.grown hg h.b.size (fun k hk => by injection hk with hk; omega)⟩
end
theorem row_all {n : Nat} {xs : List Int} (hl : xs.length = n) (h : ∀ j, j < n → xs[j]? = some (-1)) : xs = List.replicate n (-1) := by
  apply List.ext_getElem?
  intro j
  by_cases hj : j < n
  · rw [h j hj, List.getElem?_replicate, if_pos hj]
  · rw [List.getElem?_eq_none (by omega), List.getElem?_eq_none (by simp; omega)]
theorem runE_step {n : Nat} {E : List Edg} {m : Nat} {l : List Edge} {nm : ByteArray} {i k : Nat} (h : E[m]? = some (mkE l nm i k)) : runE n (E.take (m + 1)) = stepC (runE n (E.take m)) i k := by
  rw [runE_take h]
  rfl
/-- What is left of a chain: its next place. -/
def nextOf : List Nat → Int
  | [] => -1
  | x :: _ => (x : Int)

set_option maxHeartbeats 16000000 in
set_option maxRecDepth 100000 in
theorem refBlocks_calls (nm : ByteArray) (kp lf : Bool) (A : Option Addr) (c : Nat) (bs : List Block) (LA : Option Addr) (lc : Nat) (l : List Edge) (w : World) (hC : kBlock.C w A bs) (hL : kEdge.C w LA l) (hw : ∀ e ∈ l, e.wf) (hl : l.length ≤ maxLen) (hbl : bs.length ≤ 25) (hld : Leads bs) : Calls Try.prog 11 #[.agg #[.string nm, .bool kp, .bool lf, .slice A bs.length c], .slice LA l.length lc] w fun e w' =>
    ∃ v F, e = .returned v ∧ OwnF oN 3 w' v (blocksD bs.length (edgesD l nm bs)) F ∧ (∀ b, F b → w.heap.size ≤ b) ∧ Below w.heap.size w w' := by
  have hlo : bs.length ≤ 9223372036854775807 := by omega
  obtain ⟨n, hn⟩ : ∃ n, n = bs.length := ⟨_, rfl⟩
  obtain ⟨nn, hnn⟩ : ∃ nn, nn = n * n := ⟨_, rfl⟩
  obtain ⟨E, hE⟩ : ∃ E, E = edgesD l nm bs := ⟨_, rfl⟩
  have hnnl : nn ≤ 625 := by
    have : n * n ≤ 25 * 25 := Nat.mul_le_mul (by omega) (by omega)
    omega
  have qnn : (n : Int) * (n : Int) = (nn : Int) := by rw [hnn]; simp
  have HW := Lib.hid hw
  have HLD := Lib.hid hld
  have HE := Lib.hid hE
  have HNN := Lib.hid hnn
  have HN := Lib.hid hn
  have hbl' : n ≤ 25 := by omega
  have hnlo : n ≤ 9223372036854775807 := by omega
  rw [← hn, ← hE]
  have LDS : ∀ (a q : Nat) (b : Block) (wq : World), Below w.heap.size w wq → bs[a]? = some b → Calls Try.prog 21 #[.agg #[.string nm, .bool kp, .bool lf, .slice A n c], .int .i64 (a : Int), .int .i64 (q : Int)] wq fun e w' => e = .returned (.bool (leadB b a q)) ∧ Below wq.heap.size wq w' := fun a q b wq hbq h => by
    rw [HN.out]
    exact rleads_calls nm kp lf A c bs a q b wq (Kd.C_mono hbq hC) (by have := HN.out; omega) h
  have HLDS := Lib.hid LDS
  have HINV : Hid (∀ m, InvC n (runE n (E.take m))) := Lib.hid (fun m => runE_inv (fun e he => by
    have h1 := edgesD_in (l := l) (nm := nm) HLD.out e (by rw [← HE.out]; exact List.mem_of_mem_take he)
    rw [← HN.out] at h1
    exact h1))
  clear LDS
  have hb0 := below_alloc' w (.cells #[.string nm, .bool kp, .bool lf, .slice A n c] 24)
  have r0 : Row (w.alloc (.cells #[.string nm, .bool kp, .bool lf, .slice A n c] 24)) w.heap.size 24 (graphCells (.slice A n c) ⟨nm, kp, lf, bs⟩) := Row.new w _ _
  have hz0 : (w.alloc (.cells #[.string nm, .bool kp, .bool lf, .slice A n c] 24)).heap.size = w.heap.size + 1 := by simp
  clear hw hld hE hnn hn hbl hlo
  go_enter Try.func11, Try.ntmps11
  go_upto_region 1 with fail
  generalize w.alloc (.cells #[.string nm, .bool kp, .bool lf, .slice A n c] 24) = w0 at *
  obtain ⟨x0, x1, x2, x3⟩ := r0.graph
  obtain ⟨w1, hm1, row1, hb1, hz1⟩ := make_intsZ n (by omega) w0
  obtain ⟨w2, hm2, row2, hb2, hz2⟩ := make_intsZ n (by omega) w1
  obtain ⟨w3, hm3, row3, hb3, hz3⟩ := make_bools nn (by omega) w2
  obtain ⟨GB, hGB⟩ : ∃ g, g = w.heap.size := ⟨_, rfl⟩
  obtain ⟨g6, hg6⟩ : ∃ g, g = w0.heap.size := ⟨_, rfl⟩
  obtain ⟨g7, hg7⟩ : ∃ g, g = w1.heap.size := ⟨_, rfl⟩
  obtain ⟨g8, hg8⟩ : ∃ g, g = w2.heap.size := ⟨_, rfl⟩
  have M0 : Mem25 w w3 GB g6 g7 g8 (graphCells (.slice A n c) ⟨nm, kp, lf, bs⟩) (List.replicate n 0) (List.replicate n 0) (List.replicate nn false) := by
    subst hGB hg6 hg7 hg8
    exact ⟨((r0.below hb1).below hb2).below hb3, (row1.below hb2).below hb3, row2.below hb3, row3, ((hb0.trans (hb1.mono hb0.size)).trans (hb2.mono (by omega))).trans (hb3.mono (by omega))⟩
  have i0 : w.heap.size ≤ GB := by omega
  have i6 : GB < g6 := by omega
  have i7 : g6 < g7 := by omega
  have i8 : g7 < g8 := by omega
  rw [← hg6] at hm1
  rw [← hg7] at hm2
  rw [← hg8] at hm3
  have HGB := Lib.hid hGB
  have HM0 := Lib.hid M0
  clear row1 row2 row3 hb0 hb1 hb2 hb3 hz0 hz1 hz2 hz3 r0 M0 hg6 hg7 hg8 hGB
  go_wp2_with fail
  rw [← HGB.out]
  clear hm1 hm2 hm3 x0 x1 x2 x3
  go_loopw [9] (fun v wr => ∃ (k : Nat) (xs ys : List Int), k ≤ n ∧ v = .int .i64 (k : Int) ∧ Hid (xs.length = n ∧ ys.length = n ∧ (∀ j, j < k → xs[j]? = some (-1)) ∧ (∀ j, j < k → ys[j]? = some (-1))) ∧ Hid (Mem25 w wr GB g6 g7 g8 (graphCells (.slice A n c) ⟨nm, kp, lf, bs⟩) xs ys (List.replicate nn false))) (fun v _ => n - (intOf v).toNat)
  case atStart => exact ⟨0, _, _, Nat.zero_le _, rfl, Lib.hid ⟨by simp, by simp, fun j h => by omega, fun j h => by omega⟩, HM0⟩
  case round =>
    clear HM0
    obtain ⟨k, xs, ys, hk, rfl, HX, HM⟩ := hrel
    by_cases hlt : k < n
    · obtain ⟨x, hx⟩ := get_some xs k (by rw [HX.out.1]; exact hlt)
      obtain ⟨y, hy⟩ := get_some ys k (by rw [HX.out.2.1]; exact hlt)
      have m1 := HM.out.setN i0 i6 i7 i8 k (-1)
      have m2 := m1.setP i0 i6 i7 i8 k (-1)
      have cx := HM.out.n.cell hx
      have fx := HM.out.n.frozen k
      have cy := m1.p.cell hy
      have fy := m1.p.frozen k
      have HM2 := Lib.hid m2
      have HX2 : Hid ((xs.set k (-1)).length = n ∧ (ys.set k (-1)).length = n ∧ (∀ j, j < k + 1 → (xs.set k (-1))[j]? = some (-1)) ∧ (∀ j, j < k + 1 → (ys.set k (-1))[j]? = some (-1))) := by
        obtain ⟨h1, h2, h3, h4⟩ := HX.out
        refine Lib.hid ⟨by rw [List.length_set]; exact h1, by rw [List.length_set]; exact h2, fun j hj => ?_, fun j hj => ?_⟩
        · rw [List.getElem?_set]
          by_cases e : k = j
          · rw [if_pos e, if_pos (by omega)]
          · rw [if_neg e]; exact h3 j (by omega)
        · rw [List.getElem?_set]
          by_cases e : k = j
          · rw [if_pos e, if_pos (by omega)]
          · rw [if_neg e]; exact h4 j (by omega)
      clear hx hy m1 m2 HX HM
      go_wp2_with fail
      exact ⟨⟨k + 1, _, _, by omega, by go_num, HX2, HM2⟩, by simp [intOf]; omega⟩
    · obtain rfl : n = k := by omega
      obtain ⟨h1, h2, h3, h4⟩ := HX.out
      have e1 := row_all h1 h3
      have e2 := row_all h2 h4
      subst e1 e2
      have HS : Hid (NP n (runE n (E.take 0)) (List.replicate n (-1)) (List.replicate n (-1)) ∧ UsedB l nm n (E.take 0) (List.replicate nn false)) := by
        refine Lib.hid ⟨NP.start n, ?_⟩
        have hu := UsedB.start l nm n
        rw [← HNN.out] at hu
        exact hu
      clear h1 h2 h3 h4 HX
      go_wp2_with fail
      go_loopg [10] (E.length) (fun kx s10 wr => ∃ (m : Nat) (nx pv : List Int) (us : List Bool), m ≤ E.length ∧ E.length - m ≤ kx ∧ Hid (NP n (runE n (E.take m)) nx pv ∧ UsedB l nm n (E.take m) us) ∧ Hid (Mem25 w wr GB g6 g7 g8 (graphCells (.slice A n c) ⟨nm, kp, lf, bs⟩) nx pv us))
      case atStart => exact ⟨0, _, _, _, Nat.zero_le _, by omega, HS, HM⟩
      case round =>
        clear HS HM
        obtain ⟨m, nx, pv, us, hm, hkx, HS, HM⟩ := hrel
        have hS0 : Hid (Fl.posW 0 ∧ Best l nm bs (E.take m) 0 0 (-1) (-1) 0) := Lib.hid ⟨zero_pos, Best.start l nm bs _ _ _⟩
        go_wp2_with fail
        go_loopw [10, 11, 12, 13] (fun s10 s11 s12 s13 wq => ∃ (a : Nat) (f t : Int) (wt : Nat), a ≤ n ∧ s10 = .int .i64 f ∧ s11 = .int .i64 t ∧ s12 = .float .f64 wt ∧ s13 = .int .i64 (a : Int) ∧ Hid (Fl.posW wt ∧ Best l nm bs (E.take m) a 0 f t wt) ∧ Hid (Mem25 w wq GB g6 g7 g8 (graphCells (.slice A n c) ⟨nm, kp, lf, bs⟩) nx pv us)) (fun _ _ _ s _ => n - (intOf s).toNat)
        case atStart => exact ⟨0, -1, -1, 0, Nat.zero_le _, rfl, rfl, rfl, rfl, hS0, HM⟩
        case round =>
          clear hS0 HM
          obtain ⟨a, f, t, wt, ha, rfl, rfl, rfl, rfl, HB, HMq⟩ := hrel
          by_cases hlta : a < n
          · obtain ⟨b, hb⟩ := get_some bs a (by rw [← HN.out]; exact hlta)
            have HBb := Lib.hid hb
            clear hb
            go_wp2_with fail
            go_loopw [10, 11, 12, 14] (fun s10 s11 s12 s14 wq => ∃ (q : Nat) (f t : Int) (wt : Nat), q ≤ n ∧ s10 = .int .i64 f ∧ s11 = .int .i64 t ∧ s12 = .float .f64 wt ∧ s14 = .int .i64 (q : Int) ∧ Hid (Fl.posW wt ∧ Best l nm bs (E.take m) a q f t wt) ∧ Hid (Mem25 w wq GB g6 g7 g8 (graphCells (.slice A n c) ⟨nm, kp, lf, bs⟩) nx pv us)) (fun _ _ _ s _ => n - (intOf s).toNat)
            case atStart => exact ⟨0, f, t, wt, Nat.zero_le _, rfl, rfl, rfl, rfl, HB, HMq⟩
            case round =>
             as_aux_lemma =>
              clear HB HMq
              obtain ⟨q, f, t, wt, hq, rfl, rfl, rfl, rfl, HB, HMq⟩ := hrel
              by_cases hltq : q < n
              · obtain ⟨x0, x1, x2, x3⟩ := HMq.out.r.graph
                cases hld : leadB b a q with
                | false =>
                  have HB' : Hid (Fl.posW wt ∧ Best l nm bs (E.take m) a (q + 1) f t wt) := Lib.hid ⟨HB.out.1, HB.out.2.skip (.inl (fun h => by rw [(leadB_iff HBb.out).2 h] at hld; cases hld))⟩
                  have HCA := HLDS.out a q b _ HMq.out.b HBb.out
                  rw [hld] at HCA
                  have HCA' := Lib.hid HCA
                  clear HCA hld HB
                  go_wp2_with fail
                  refine HCA'.out.mono ?_
                  rintro e w' ⟨rfl, hb'⟩
                  have HM' := Lib.hid (HMq.out.below hb')
                  clear x0 x1 x2 x3 hb' HMq
                  go_wp2_with fail
                  exact ⟨⟨q + 1, f, t, wt, by omega, rfl, rfl, rfl, by go_num, HB', HM'⟩, by simp [intOf]; omega⟩
                | true =>
                  have hldD := (leadB_iff HBb.out).1 hld
                  obtain ⟨an, han⟩ : ∃ x, x = a * n := ⟨_, rfl⟩
                  have qa : (a : Int) * (n : Int) = (an : Int) := by rw [han]; simp
                  obtain ⟨ix, hix⟩ : ∃ x, x = an + q := ⟨_, rfl⟩
                  have qi : (an : Int) + (q : Int) = (ix : Int) := by omega
                  have hixl : ix < nn := by rw [hix, han, HNN.out]; exact row_lt hlta hltq
                  have hanl : an < 1000 := by omega
                  obtain ⟨ub, hub⟩ := get_some us ix (by rw [HS.out.2.1, ← HNN.out]; exact hixl)
                  have hiff := HS.out.2.2 a q ub hlta hltq (by rw [← han, ← hix]; exact hub)
                  have HCA := HLDS.out a q b _ HMq.out.b HBb.out
                  rw [hld] at HCA
                  have HCA' := Lib.hid HCA
                  have HIX := Lib.hid (And.intro han hix)
                  clear HCA hld han hix
                  go_wp2_with fail
                  refine HCA'.out.mono ?_
                  rintro e w' ⟨rfl, hb'⟩
                  have HM' := Lib.hid (HMq.out.below hb')
                  clear x0 x1 x2 x3 hb' HMq HCA'
                  have cu := HM'.out.u.cell hub
                  cases ub with
                  | true =>
                    have HB' : Hid (Fl.posW wt ∧ Best l nm bs (E.take m) a (q + 1) f t wt) := Lib.hid ⟨HB.out.1, HB.out.2.skip (.inr (hiff.1 rfl))⟩
                    clear hub hiff HB hldD
                    go_wp2_with fail
                    exact ⟨⟨q + 1, f, t, wt, by omega, rfl, rfl, rfl, by go_num, HB', HM'⟩, by simp [intOf]; omega⟩
                  | false =>
                    have hnin : mkE l nm a q ∉ E.take m := fun h => by have := hiff.2 h; cases this
                    obtain ⟨x0, x1, x2, x3⟩ := HM'.out.r.graph
                    have hof := rof_calls LA lc l nm a q w' (Kd.C_mono HM'.out.b hL) HW.out hl
                    have hp1 : Fl.posW (ofW l nm a q) := sumW_pos HW.out
                    have hp2 := HB.out.1
                    have hb1 : q < bs.length := by rw [← HN.out]; exact hltq
                    obtain ⟨wn, hwn⟩ : ∃ x, x = ofW l nm a q := ⟨_, rfl⟩
                    have hof' : Calls Try.prog 22 #[.slice LA l.length lc, .string nm, .int .i64 (a : Int), .int .i64 (q : Int)] w' fun e w2 => e = .returned (.float .f64 wn) ∧ w2 = w' := by rw [hwn]; exact hof
                    have HOF := Lib.hid hof'
                    have ho : FloatKind.f64.format.order wn wt = some (compare wn wt) := by rw [hwn]; exact Fl.order_pos hp1 hp2
                    have HWN := Lib.hid hwn
                    clear hub hiff hof hof'
                    by_cases hf : f < 0
                    · have HB' : Hid (Fl.posW wn ∧ Best l nm bs (E.take m) a (q + 1) (a : Int) (q : Int) wn) := Lib.hid (by rw [HWN.out]; exact ⟨hp1, HB.out.2.take HW.out hb1 hldD hnin (.inl hf)⟩)
                      clear HB hp1 hp2 hb1 hnin hldD ho hwn
                      go_wp2_with fail
                      refine HOF.out.mono ?_
                      rintro e w2 ⟨rfl, rfl⟩
                      go_wp2_with fail
                      exact ⟨⟨q + 1, a, q, wn, by omega, rfl, rfl, rfl, by go_num, HB', HM'⟩, by simp [intOf]; omega⟩
                    · by_cases hlt2 : wt < wn
                      · have HB' : Hid (Fl.posW wn ∧ Best l nm bs (E.take m) a (q + 1) (a : Int) (q : Int) wn) := Lib.hid (by rw [HWN.out]; exact ⟨hp1, HB.out.2.take HW.out hb1 hldD hnin (.inr (by rw [← HWN.out]; exact hlt2))⟩)
                        have z1 : (FloatKind.f64.format.order wn wt == some .gt) = true := by rw [ho, Nat.compare_eq_gt.2 hlt2]; rfl
                        clear HB hp1 hp2 hb1 hnin hldD ho hlt2 hwn
                        go_wp2_with fail
                        refine HOF.out.mono ?_
                        rintro e w2 ⟨rfl, rfl⟩
                        go_wp2_with fail
                        exact ⟨⟨q + 1, a, q, wn, by omega, rfl, rfl, rfl, by go_num, HB', HM'⟩, by simp [intOf]; omega⟩
                      · have HB' : Hid (Fl.posW wt ∧ Best l nm bs (E.take m) a (q + 1) f t wt) := Lib.hid ⟨hp2, HB.out.2.keep HW.out hf (by rw [← HWN.out]; exact hlt2)⟩
                        have z1 : (FloatKind.f64.format.order wn wt == some .gt) = false := by
                          rw [ho, beq_eq_false_iff_ne]
                          intro h
                          injection h with h
                          rw [Nat.compare_eq_gt] at h
                          exact hlt2 h
                        clear HB hp1 hp2 hb1 hnin hldD ho hlt2 hwn
                        go_wp2_with fail
                        refine HOF.out.mono ?_
                        rintro e w2 ⟨rfl, rfl⟩
                        go_wp2_with fail
                        exact ⟨⟨q + 1, f, t, wt, by omega, rfl, rfl, rfl, by go_num, HB', HM'⟩, by simp [intOf]; omega⟩
              · obtain rfl : n = q := by omega
                have HB' : Hid (Fl.posW wt ∧ Best l nm bs (E.take m) (a + 1) 0 f t wt) := Lib.hid ⟨HB.out.1, by
                  have h := HB.out.2
                  rw [HN.out] at h
                  exact h.row⟩
                clear HB
                go_wp2_with fail
                exact ⟨⟨a + 1, f, t, wt, by omega, rfl, rfl, rfl, by go_num, HB', HMq⟩, by simp [intOf]; omega⟩
          · obtain rfl : n = a := by omega
            have hB : Best l nm bs ((edgesD l nm bs).take m) bs.length 0 f t wt := by rw [← HE.out, ← HN.out]; exact HB.out.2
            clear HB
            rcases Best.done HLD.out hB (by rw [← HE.out]; exact hm) with ⟨rfl, hme⟩ | ⟨i, j, rfl, rfl, hi, hj, hml, hEm⟩
            · as_aux_lemma =>
              have hme' : E.take m = E := by rw [hme, ← HE.out, List.take_length]
              have hS := HS.out.1
              have hI := HINV.out m
              rw [hme'] at hS hI
              obtain ⟨s, hs⟩ : ∃ s, s = runE n E := ⟨_, rfl⟩
              have hbd : blocksD n E = s.ch.flatten := by rw [hs]; rfl
              have HBD := Lib.hid hbd
              rw [← hs] at hS hI
              have HNP := Lib.hid hS
              have HI := Lib.hid hI
              rename World => wz
              have hwz := HMq.out.b
              clear hS hI hs hbd hme hme' HS hB HLDS HINV hkx hm
              go_wp2_with fail
              go_loopw [17, 18] (fun s17 s18 wx => ∃ (k : Nat) (F : Nat → Prop), k ≤ n ∧ s18 = .int .i64 (k : Int) ∧ Hid (OwnF oN 3 wx s17 ((s.ch.take k).flatten) F ∧ (∀ b, F b → wz.heap.size ≤ b)) ∧ Below wz.heap.size wz wx) (fun _ s _ => n - (intOf s).toNat)
              case atStart => exact ⟨0, _, Nat.zero_le _, rfl, Lib.hid ⟨OwnF.nil oN _ _, fun b h => h.elim⟩, Below.refl _ _⟩
              case round =>
                obtain ⟨k, F, hk, rfl, HO, hbx⟩ := hrel
                by_cases hlt : k < n
                · obtain ⟨v, hv⟩ := get_some pv k (by rw [HNP.out.lp]; exact hlt)
                  obtain ⟨ch, hch, hcase⟩ := HNP.out.chain HI.out hlt hv
                  have hft := flat_take hch
                  have cp := (HMq.out.below hbx).p.cell hv
                  rcases hcase with ⟨hvn, rfl⟩ | ⟨hvn, q0, hq0⟩
                  · have e9 : (s.ch.take (k + 1)).flatten = (s.ch.take k).flatten := by rw [hft, List.append_nil]
                    have hO := HO.out
                    rw [← e9] at hO
                    have HO' := Lib.hid hO
                    have HBX := Lib.hid hbx
                    clear hv hch hft HO hbx hO e9
                    go_wp2_with fail
                    refine wp_loop_rounds 1 ?_
                    rw [rounds_succ]
                    go_wp2_with fail
                    exact ⟨⟨k + 1, F, by omega, by go_num, HO', HBX.out⟩, by simp [intOf]; omega⟩
                  · have hst : ch = [] ++ ch := rfl
                    have hO := HO.out
                    rw [← List.append_nil ((s.ch.take k).flatten)] at hO
                    have HO0 := Lib.hid hO
                    have HCH := Lib.hid hch
                    have HFT := Lib.hid hft
                    have HV := Lib.hid hv
                    have HQ := Lib.hid hq0
                    have htot : Hid ((s.ch.take (k + 1)).flatten.length ≤ n) := Lib.hid (by rw [← HI.out.flat_len]; exact flat_take_le _ _)
                    clear hv hch hft HO hq0 hst hO
                    go_wp2_with fail
                    clear cp
                    go_loopg [17, 19] (ch.length) (fun kx s17 s19 wx => ∃ (dn rest : List Nat) (F : Nat → Prop), s19 = .int .i64 (nextOf rest) ∧ Hid (ch = dn ++ rest) ∧ rest.length ≤ kx ∧ Hid (OwnF oN 3 wx s17 ((s.ch.take k).flatten ++ dn) F ∧ (∀ b, F b → wz.heap.size ≤ b)) ∧ Below wz.heap.size wz wx)
                    case atStart => exact ⟨[], ch, F, by rw [HQ.out]; rfl, Lib.hid rfl, Nat.le_refl _, HO0, hbx⟩
                    case round =>
                      clear HO0 hbx
                      obtain ⟨dn, rest, F2, rfl, HCD, hrl, HO, hbx⟩ := hrel
                      have cp := (HMq.out.below hbx).p.cell HV.out
                      cases rest with
                      | nil =>
                        have hO := HO.out
                        have hcd := HCD.out
                        rw [List.append_nil] at hcd
                        rw [← hcd, ← HFT.out] at hO
                        have HO' := Lib.hid hO
                        have zz : nextOf [] = -1 := rfl
                        rw [zz]
                        have HBX := Lib.hid hbx
                        clear HO HCD hO hcd hbx zz hrl
                        go_wp2_with fail
                        exact ⟨⟨k + 1, F2, by omega, by go_num, HO', HBX.out⟩, by simp [intOf]; omega⟩
                      | cons x r =>
                        have zz : nextOf (x :: r) = (x : Int) := rfl
                        rw [zz]
                        have hq : s.ch[k]? = some (dn ++ x :: r) := by rw [HCH.out, HCD.out]
                        have hx : x < n := by
                          have h1 := (List.getElem?_eq_some_iff.1 (HI.out.of_in hq (k := x) (by simp))).1
                          rw [HI.out.len2] at h1
                          exact h1
                        obtain ⟨v2, hv2⟩ := get_some nx x (by rw [HNP.out.ln]; exact hx)
                        have hnx : v2 = nextOf r := by
                          rcases HNP.out.forth HI.out hq hv2 with ⟨h1, h2⟩ | ⟨j, q', h1, -, h2⟩
                          · rw [h2]; exact h1
                          · rw [h2]; exact h1
                        obtain ⟨ys, hys⟩ : ∃ ys, ys = (s.ch.take k).flatten ++ dn := ⟨_, rfl⟩
                        have hyl : ys.length ≤ 25 := by
                          have h1 := htot.out
                          rw [HFT.out, HCD.out, ← List.append_assoc, List.length_append, ← hys] at h1
                          omega
                        have hcd2 : ch = (dn ++ [x]) ++ r := by rw [HCD.out]; simp
                        have hys2 : ys ++ [x] = (s.ch.take k).flatten ++ (dn ++ [x]) := by rw [hys]; simp
                        obtain ⟨ho, hF⟩ := HO.out
                        rw [← hys] at ho
                        rename World => wo
                        have b6 := below_alloc' wo (.cells #[.int .i64 (x : Int)] 3)
                        have hY : YF oN (wo.alloc (.cells #[.int .i64 (x : Int)] 3)) (some ⟨wo.heap.size, 0, none⟩) [x] noF := YF.one rfl ⟨fun _ h => h, rfl⟩
                        have ho6 := ho.below b6
                        have hap : ys.length + [x].length ≤ 100000000 := by simp; omega
                        have HAP := Lib.hid hap
                        have HO6 := Lib.hid ho6
                        have HB6 := Lib.hid b6
                        have HRO := Lib.hid (fun (g : Nat) (hg : u17.ownBlock = some g) => ho.row hg)
                        have HF := Lib.hid hF
                        have HBX := Lib.hid hbx
                        have HCD2 := Lib.hid hcd2
                        have HYS2 := Lib.hid hys2
                        have HNX := Lib.hid hnx
                        have HV2 := Lib.hid hv2
                        clear hq hys hyl hcd2 hys2 HO HCD ho hF b6 ho6 hap hbx hv2 hnx zz
                        go_upto_region 39 with (refine wpList_append_f (k := oN) elN rfl _ _ rfl (v := u17) (xs := ys) (ys := [x]) (F := F2) (G := noF) HO6.out hY (fun _ _ h => h) rfl rfl HAP.out ?_; intro v9 w9 hg9)
                        obtain ⟨⟨F9, own9, hF9⟩, hgr9⟩ := hg9
                        have hb9 : Below wz.heap.size wz w9 := (HBX.out.trans (HB6.out.mono HBX.out.size)).grown hgr9 (Nat.le_trans HBX.out.size HB6.out.size) (fun j hj => HF.out j (HRO.out j hj))
                        have hF9' : ∀ b, F9 b → wz.heap.size ≤ b := fun b hb => by
                          rcases hF9 b hb with h | h | h
                          · exact HF.out b h
                          · exact h.elim
                          · exact Nat.le_trans HBX.out.size (Nat.le_trans HB6.out.size h)
                        have cn := (HMq.out.below hb9).n.cell HV2.out
                        have HO9 : Hid (OwnF oN 3 w9 v9 ((s.ch.take k).flatten ++ (dn ++ [x])) F9 ∧ (∀ b, F9 b → wz.heap.size ≤ b)) := Lib.hid ⟨by rw [← HYS2.out]; exact own9, hF9'⟩
                        have HB9 := Lib.hid hb9
                        rw [List.length_cons] at hrl
                        clear own9 hF9 hgr9 hb9 hF9' cp
                        go_wp2_with fail
                        go_roundg (r.length)
                        case measure => omega
                        case rel => exact ⟨dn ++ [x], r, F9, by rw [HNX.out], HCD2, Nat.le_refl _, HO9, HB9.out⟩
                · obtain rfl : n = k := by omega
                  obtain ⟨ho, hF⟩ := HO.out
                  rw [List.take_of_length_le (by rw [HI.out.len]; exact Nat.le_refl _)] at ho
                  have HOO := Lib.hid (And.intro ho hF)
                  clear HO ho hF
                  go_wp2_with fail
                  go_ret
                  refine ⟨_, F, rfl, ?_, fun b hb => Nat.le_trans hwz.size (HOO.out.2 b hb), hwz.trans (hbx.mono hwz.size)⟩
                  rw [HBD.out]
                  exact HOO.out.1
            · as_aux_lemma =>
              rw [← HE.out] at hml hEm
              rw [← HN.out] at hi hj
              have hI := HINV.out m
              have hstep := runE_step (n := n) hEm
              have husd : UsedB l nm n (E.take (m + 1)) (us.set (i * n + j) true) := by rw [take_snoc hEm]; exact HS.out.2.set hi hj
              have hNP := HS.out.1
              have hus := HS.out.2.1
              obtain ⟨s, hs⟩ : ∃ s, s = runE n (E.take m) := ⟨_, rfl⟩
              rw [← hs] at hI hstep hNP
              obtain ⟨an, han⟩ : ∃ x, x = i * n := ⟨_, rfl⟩
              have qa : (i : Int) * (n : Int) = (an : Int) := by rw [han]; simp
              obtain ⟨ix, hix⟩ : ∃ x, x = an + j := ⟨_, rfl⟩
              have qi : (an : Int) + (j : Int) = (ix : Int) := by omega
              have hixl : ix < nn := by rw [hix, han, HNN.out]; exact row_lt hi hj
              have hanl : an < 1000 := by omega
              rw [← han, ← hix] at husd
              obtain ⟨ub, hub⟩ := get_some us ix (by rw [hus, ← HNN.out]; exact hixl)
              have cu := HMq.out.u.cell hub
              have fu := HMq.out.u.frozen ix
              have m1 := HMq.out.setU i0 i6 i7 i8 ix true
              obtain ⟨a, p, hin, hof, han2, hpl⟩ := In.of hI hi
              have HI := Lib.hid hI
              have HST := Lib.hid hstep
              have HUS := Lib.hid husd
              have HNP := Lib.hid hNP
              have HOF := Lib.hid hof
              have HIN := Lib.hid hin
              rename World => wz
              have HM1 := Lib.hid m1
              clear hI hstep husd hNP hof hin hs HS hB HLDS HINV HMq hub han hix hus m1 hEm
              go_wp2_with fail
              clear cu fu
              generalize wz.setCell ⟨g8, ix, none⟩ (.bool true) = w5 at *
              go_loopg [16] n (fun kx s16 wx => ∃ (z : Nat) (p : List Nat), s16 = .int .i64 (z : Int) ∧ z < n ∧ Hid (In s a p z) ∧ p.length ≤ kx ∧ wx = w5)
              case atStart => exact ⟨i, p, rfl, hi, HIN, by omega, rfl⟩
              case round =>
                obtain ⟨z, pz, rfl, hz, HIZ, hpz, rfl⟩ := hrel
                obtain ⟨v, hv⟩ := get_some pv z (by rw [HNP.out.lp]; exact hz)
                have cp := HM1.out.p.cell hv
                rcases HNP.out.back HI.out HIZ.out hv with ⟨rfl, rfl, rfl⟩ | ⟨i', p', rfl, hi', hin', hlen⟩
                · obtain ⟨un, hun⟩ := get_some nx i (by rw [HNP.out.ln]; exact hi)
                  obtain ⟨vp, hvp⟩ := get_some pv j (by rw [HNP.out.lp]; exact hj)
                  have hjo := HNP.out.joins HI.out hi hj HOF.out hun hvp
                  have cn := HM1.out.n.cell hun
                  have fn := HM1.out.n.frozen i
                  have cq := HM1.out.p.cell hvp
                  by_cases hjn : joins s i j
                  · obtain ⟨j1, j2, j3⟩ := hjo.1 hjn
                    have hnp2 := HNP.out.join HI.out hi hj hjn
                    rw [← HST.out] at hnp2
                    have m2 := HM1.out.setN i0 i6 i7 i8 i (j : Int)
                    have cq2 := m2.p.cell hvp
                    have fq2 := m2.p.frozen j
                    have m3 := m2.setP i0 i6 i7 i8 j (i : Int)
                    have HM3 := Lib.hid m3
                    have HNP2 := Lib.hid hnp2
                    have z3 : ((z : Int) != (j : Int)) = true := bne_iff_ne.2 (by omega)
                    have z3' : (z != j) = true := bne_iff_ne.2 j3
                    clear hjo hjn hnp2 m2 m3 hv hun hvp HNP HIZ hpz
                    go_wp2_with fail
                    go_roundg (E.length - (m + 1))
                    case measure => omega
                    case rel => exact ⟨m + 1, _, _, _, hml, Nat.le_refl _, Lib.hid ⟨HNP2.out, HUS.out⟩, HM3⟩
                  · have hnp2 : NP n (runE n (E.take (m + 1))) nx pv := by rw [HST.out, stepC_none hjn]; exact HNP.out
                    have HNP2 := Lib.hid hnp2
                    have hnj : ¬ (un < 0 ∧ vp < 0 ∧ z ≠ j) := fun h => hjn (hjo.2 h)
                    by_cases j1 : un < 0
                    · by_cases j2 : vp < 0
                      · have j3 : z = j := Classical.byContradiction (fun h => hnj ⟨j1, j2, h⟩)
                        have z3 : ((z : Int) != (j : Int)) = false := by simp [j3]
                        have z3' : (z != j) = false := by simp [j3]
                        clear hjo hjn hnp2 hv hun hvp HNP HIZ hpz hnj j3
                        go_wp2_with fail
                        go_roundg (E.length - (m + 1))
                        case measure => omega
                        case rel => exact ⟨m + 1, _, _, _, hml, Nat.le_refl _, Lib.hid ⟨HNP2.out, HUS.out⟩, HM1⟩
                      · clear hjo hjn hnp2 hv hun hvp HNP HIZ hpz hnj
                        go_wp2_with fail
                        go_roundg (E.length - (m + 1))
                        case measure => omega
                        case rel => exact ⟨m + 1, _, _, _, hml, Nat.le_refl _, Lib.hid ⟨HNP2.out, HUS.out⟩, HM1⟩
                    · clear hjo hjn hnp2 hv hun hvp HNP HIZ hpz hnj
                      go_wp2_with fail
                      go_roundg (E.length - (m + 1))
                      case measure => omega
                      case rel => exact ⟨m + 1, _, _, _, hml, Nat.le_refl _, Lib.hid ⟨HNP2.out, HUS.out⟩, HM1⟩
                · have HIN' := Lib.hid hin'
                  clear hv hin' HIZ
                  go_wp2_with fail
                  go_roundg (p'.length)
                  case measure => omega
                  case rel => exact ⟨i', p', rfl, hi', HIN', Nat.le_refl _, rfl⟩
end Go.Proofs.Ythnkikdbllkmkaa
