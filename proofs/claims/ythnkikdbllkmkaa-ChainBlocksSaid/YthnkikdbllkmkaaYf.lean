/- chain.edges$1: an edge is noted, where it leads on. Printed in part by genYf.py of this repository. -/
import Derived.Test.YthnkikdbllkmkaaYe
namespace Go.Proofs.Ythnkikdbllkmkaa
set_option linter.unusedVariables false
set_option linter.unusedSimpArgs false
open Go.RowKit
attribute [local go_sem] run_store_float

/-- An edge, with its weight. -/
def mkE (l : List Edge) (nm : ByteArray) (i t : Int) : Edg := ⟨i, t, if h : Fl.posW (ofW l nm i t) then ⟨ofW l nm i t, h⟩ else ⟨0, zero_pos⟩⟩
theorem mkE_enc {l : List Edge} (hw : ∀ e ∈ l, e.wf) (nm : ByteArray) (i t : Int) : encE (mkE l nm i t) = [.int .i64 i, .int .i64 t, .float .f64 (sumW (edgeIs nm i t) l)] := by
  unfold encE mkE
  rw [dif_pos (show Fl.posW (ofW l nm i t) from sumW_pos hw)]
  rfl
def putE (l : List Edge) (nm : ByteArray) (i t : Int) : List Edg := if t ≠ 0 ∧ t ≠ i then [mkE l nm i t] else []

set_option maxHeartbeats 4000000 in
set_option maxRecDepth 100000 in
theorem put_calls (l : List Edge) (LA : Option Addr) (lc : Nat) (nm : ByteArray) (i t : Int) (w0 w : World) (v : Value) (xs : List Edg) (F : Nat → Prop) (LB GB : Nat) (h0 : Below w0.heap.size w0 w) (hC : kEdge.C w0 LA l) (hw : ∀ e ∈ l, e.wf) (hl : l.length ≤ maxLen)
    (cL0 : w0.cell? ⟨LB, 0, none⟩ = some (.slice LA l.length lc)) (cG0 : w0.cell? ⟨GB, 0, none⟩ = some (.string nm)) (hR : Row w w0.heap.size 52 [v]) (ho : OwnF oEdg 55 w v xs F) (hFO : ∀ b, F b → w0.heap.size < b) (hxl : xs.length ≤ 100000) :
    Calls Try.prog 32 #[.int .i64 i, .int .i64 t, .pointer (some ⟨w0.heap.size, 0, none⟩), .pointer (some ⟨LB, 0, none⟩), .pointer (some ⟨GB, 0, none⟩)] w fun e w' =>
      e = .returned (.tuple #[]) ∧ ∃ v' F', Row w' w0.heap.size 52 [v'] ∧ OwnF oEdg 55 w' v' (xs ++ putE l nm i t) F' ∧ (∀ b, F' b → w0.heap.size < b) ∧ Below w0.heap.size w0 w' ∧ ∀ j, j < w.heap.size → j ≠ w0.heap.size → ¬ F j → w'.heap[j]? = w.heap[j]? := by
  by_cases ht : t ≠ 0 ∧ t ≠ i
  · have hpe : xs ++ putE l nm i t = xs ++ [mkE l nm i t] := by unfold putE; rw [if_pos ht]
    have z1 : (t != 0) = true := by simp [ht.1]
    have z2 : (t != i) = true := by simp [ht.2]
    have henc := mkE_enc hw nm i t
    obtain ⟨E, hE⟩ : ∃ E, E = mkE l nm i t := ⟨_, rfl⟩
    rw [← hE] at henc hpe
    have HE : Hid (([.int .i64 i, .int .i64 t, .float .f64 (sumW (edgeIs nm i t) l)] : List Value) = encE E) := Lib.hid henc.symm
    have HPE := Lib.hid hpe.symm
    have HW := Lib.hid hw
    have HFO := Lib.hid hFO
    have hF : ∀ b, F b → w0.heap.size ≤ b := fun b hb => Nat.le_of_lt (hFO b hb)
    have q0 := hR.cell (j := 0) rfl
    have cL := (Below.cell h0 (World.lt_of_cell cL0)).trans cL0
    have cG := (Below.cell h0 (World.lt_of_cell cG0)).trans cG0
    have hOw := hR.lt
    have bd := (Below.refl w.heap.size w).drew
    have h0d : Below w0.heap.size w0 w.drew := h0.drew
    clear ht henc hE hpe hw hFO
    go_enter Try.func32, Try.ntmps32
    go_upto_region 1 with fail
    refine wp_region_held_drew (S := (fun w' => w'.cell? ⟨LB, 0, none⟩ = some (.slice LA l.length lc) ∧ w'.cell? ⟨GB, 0, none⟩ = some (.string nm))) (by kernel_rfl) (⟨Sub.of_below bd _ _ cL, Sub.of_below bd _ _ cG⟩) (fun hHeld => ?_)
    refine wpAnyH_take (i := 1) (oi := _) (v := ?v1m1_1) rfl (by kernel_rfl) (by kernel_rfl) (by kernel_rfl) (fun _ _ _ h => h) (Or.inl ⟨by rfl, ?hy1m1_1⟩) hHeld ?_
    case hy1m1_1 => (intro wS hSw; (try dsimp only at hSw); obtain ⟨s0, s1⟩ := hSw; go_simp; try with_reducible rfl)
    try simp only [List.getElem_toArray, List.getElem_cons_succ, List.getElem_cons_zero, Act.put, List.setIfInBounds_toArray, List.set_cons_zero, List.set_cons_succ]
    refine wpAnyH_take (i := 2) (oi := _) (v := ?v1m1_2) rfl (by kernel_rfl) (by kernel_rfl) (by kernel_rfl) (fun _ _ _ h => h) (Or.inl ⟨by rfl, ?hy1m1_2⟩) hHeld ?_
    case hy1m1_2 => (intro wS hSw; (try dsimp only at hSw); obtain ⟨s0, s1⟩ := hSw; go_simp; try with_reducible rfl)
    try simp only [List.getElem_toArray, List.getElem_cons_succ, List.getElem_cons_zero, Act.put, List.setIfInBounds_toArray, List.set_cons_zero, List.set_cons_succ]
    refine wpAnyH_take (i := 3) (oi := _) (v := ?v1m1_3) rfl (by kernel_rfl) (by kernel_rfl) (by kernel_rfl) (fun _ _ _ h => h) (Or.inl ⟨by rfl, ?hy1m1_3⟩) hHeld ?_
    case hy1m1_3 => (intro wS hSw; (try dsimp only at hSw); obtain ⟨s0, s1⟩ := hSw; go_simp; try with_reducible rfl)
    try simp only [List.getElem_toArray, List.getElem_cons_succ, List.getElem_cons_zero, Act.put, List.setIfInBounds_toArray, List.set_cons_zero, List.set_cons_succ]
    refine wpAnyH_take (i := 4) (oi := _) (v := ?v1m1_4) rfl (by kernel_rfl) (by kernel_rfl) (by kernel_rfl) (fun _ _ _ h => h) (Or.inl ⟨by rfl, ?hy1m1_4⟩) hHeld ?_
    case hy1m1_4 => (intro wS hSw; (try dsimp only at hSw); obtain ⟨s0, s1⟩ := hSw; go_simp; try with_reducible rfl)
    try simp only [List.getElem_toArray, List.getElem_cons_succ, List.getElem_cons_zero, Act.put, List.setIfInBounds_toArray, List.set_cons_zero, List.set_cons_succ]
    refine wpAnyH_take (i := 5) (oi := _) (v := ?v1m1_5) rfl (by kernel_rfl) (by kernel_rfl) (by kernel_rfl) (fun _ _ _ h => h) (Or.inl ⟨by rfl, ?hy1m1_5⟩) hHeld ?_
    case hy1m1_5 => (intro wS hSw; (try dsimp only at hSw); obtain ⟨s0, s1⟩ := hSw; go_simp; try with_reducible rfl)
    try simp only [List.getElem_toArray, List.getElem_cons_succ, List.getElem_cons_zero, Act.put, List.setIfInBounds_toArray, List.set_cons_zero, List.set_cons_succ]
    refine wpAnyH_take (i := 6) (oi := _) (v := ?v1m1_6) rfl (by kernel_rfl) (by kernel_rfl) (by kernel_rfl) (fun _ _ _ h => h) (Or.inl ⟨by rfl, ?hy1m1_6⟩) hHeld ?_
    case hy1m1_6 => (intro wS hSw; (try dsimp only at hSw); obtain ⟨s0, s1⟩ := hSw; go_simp; try with_reducible rfl)
    try simp only [List.getElem_toArray, List.getElem_cons_succ, List.getElem_cons_zero, Act.put, List.setIfInBounds_toArray, List.set_cons_zero, List.set_cons_succ]
    refine wpAnyH_take (i := 7) (oi := _) (v := ?v1m1_7) rfl (by kernel_rfl) (by kernel_rfl) (by kernel_rfl) (fun _ _ _ h => h) (Or.inl ⟨by rfl, ?hy1m1_7⟩) hHeld ?_
    case hy1m1_7 => (intro wS hSw; (try dsimp only at hSw); obtain ⟨s0, s1⟩ := hSw; go_simp; try with_reducible rfl)
    try simp only [List.getElem_toArray, List.getElem_cons_succ, List.getElem_cons_zero, Act.put, List.setIfInBounds_toArray, List.set_cons_zero, List.set_cons_succ]
    refine wpAnyH_ready (rs := [0, 8]) (by kernel_rfl) (by simp) ?_
    refine (AllReadyH.cons (o := _) rfl (fun K hK => ?_) (AllReadyH.cons (o := _) rfl (fun K hK => ?_) AllReadyH.nil))
    · go_simp
      refine hK.out _ _ (hHeld) (fun hHeld8 => ?_)
      clear hK K hHeld
      try simp only [List.getElem_toArray, List.getElem_cons_succ, List.getElem_cons_zero, Act.put, List.setIfInBounds_toArray, List.set_cons_zero, List.set_cons_succ]
      refine wpAnyH_ready (rs := [8]) (by kernel_rfl) (by simp) ?_
      refine (AllReadyH.cons (o := _) rfl (fun K hK => ?_) AllReadyH.nil)
      go_simp
      refine (wof_calls LA lc l nm i t _ (Kd.C_mono h0d hC) HW.out hl).mono ?_
      rintro e w4 ⟨rfl, hb4⟩
      have b4 : Below w.heap.size w w4 := (Below.refl _ _).drew.trans hb4
      have q4 := Sub.of_below b4 _ _ q0
      have cL4 := Sub.of_below b4 _ _ cL
      have cG4 := Sub.of_below b4 _ _ cG
      go_wp2_with fail
      refine hK.out _ _ (⟨cL4, cG4⟩) (fun hHeld9 => ?_)
      clear hK K hHeld8
      try simp only [List.getElem_toArray, List.getElem_cons_succ, List.getElem_cons_zero, Act.put, List.setIfInBounds_toArray, List.set_cons_zero, List.set_cons_succ]
      refine wpAnyH_take (i := 9) (oi := _) (v := ?v1m1_10) rfl (by kernel_rfl) (by kernel_rfl) (by kernel_rfl) (fun _ _ _ h => h) (Or.inl ⟨by rfl, ?hy1m1_10⟩) hHeld9 ?_
      case hy1m1_10 => (intro wS hSw; (try dsimp only at hSw); obtain ⟨s0, s1⟩ := hSw; go_simp; try with_reducible rfl)
      try simp only [List.getElem_toArray, List.getElem_cons_succ, List.getElem_cons_zero, Act.put, List.setIfInBounds_toArray, List.set_cons_zero, List.set_cons_succ]
      refine wpAnyH_ready (rs := [10]) (by kernel_rfl) (by simp) ?_
      refine (AllReadyH.cons (o := _) rfl (fun K hK => ?_) AllReadyH.nil)
      go_simp
      have b8 := below_alloc' w4 (.cells #[.int .i64 i, .int .i64 t, .float .f64 (sumW (edgeIs nm i t) l)] 55)
      have q8 := Sub.of_below b8 _ _ q4
      have cL8 := Sub.of_below b8 _ _ cL4
      have cG8 := Sub.of_below b8 _ _ cG4
      have hY : YF oEdg (w4.alloc (.cells #[.int .i64 i, .int .i64 t, .float .f64 (sumW (edgeIs nm i t) l)] 55)) (some ⟨w4.heap.size, 0, none⟩) [E] noF := YF.one rfl ⟨fun _ h => h, HE.out⟩
      refine hK.out _ _ (⟨cL8, cG8⟩) (fun hHeld11 => ?_)
      clear hK K hHeld9
      try simp only [List.getElem_toArray, List.getElem_cons_succ, List.getElem_cons_zero, Act.put, List.setIfInBounds_toArray, List.set_cons_zero, List.set_cons_succ]
      refine wpAnyH_ready (rs := [11]) (by kernel_rfl) (by simp) ?_
      refine (AllReadyH.cons (o := _) rfl (fun K hK => ?_) AllReadyH.nil)
      refine step_append_f (k := oEdg) elEdg rfl _ _ rfl (ys := [E]) ((ho.below b4).below b8) hY (fun _ _ h => h) rfl rfl (by simp; omega) ?_
      intro v9 w9 hg9
      obtain ⟨⟨F9, own9, hF9⟩, hgr9⟩ := hg9
      have b48 := b4.trans (b8.mono b4.size)
      have t9 : Below w0.heap.size w0 w9 := (h0.trans (b48.mono h0.size)).grown hgr9 (Nat.le_trans h0.size b48.size) (fun j hj => hF j (ho.row hj))
      have cL9 := (Below.cell t9 (World.lt_of_cell cL0)).trans cL0
      have cG9 := (Below.cell t9 (World.lt_of_cell cG0)).trans cG0
      have hF9' : ∀ b, F9 b → w0.heap.size < b := fun b hb => by (rcases hF9 b hb with h | h | h; exact HFO.out b h; exact h.elim; exact Nat.lt_of_lt_of_le hOw (Nat.le_trans b48.size h))
      have R9 : Row w9 w0.heap.size 52 [v] := ((hR.below b4).below b8).grown hgr9 (fun e => by have := HFO.out _ (ho.row e); omega)
      have z9 := R9.cell (j := 0) rfl
      have f9 := R9.frozen 0
      refine hK.out _ _ (⟨cL9, cG9⟩) (fun hHeld12 => ?_)
      clear hK K hHeld11
      try simp only [List.getElem_toArray, List.getElem_cons_succ, List.getElem_cons_zero, Act.put, List.setIfInBounds_toArray, List.set_cons_zero, List.set_cons_succ]
      refine wpAnyH_ready (rs := [12]) (by kernel_rfl) (by simp) ?_
      refine (AllReadyH.cons (o := _) rfl (fun K hK => ?_) AllReadyH.nil)
      obtain ⟨A9, c9, rfl, l9, m9, -⟩ := own9.read
      rw [show (xs ++ [E]).length = xs.length + 1 from by simp] at own9
      rw [show (xs ++ [E]).length = xs.length + 1 from by simp]
      go_simp
      have R11 := R9.set 0 (.slice A9 (xs.length + 1) c9)
      have g11 := grown_set w9 w0.heap.size 0 (.slice A9 (xs.length + 1) c9)
      refine hK.out _ _ (⟨g11.cell cL9 (fun e => by have := World.lt_of_cell cL0; injection e with e; omega), g11.cell cG9 (fun e => by have := World.lt_of_cell cG0; injection e with e; omega)⟩) (fun hHeld13 => ?_)
      clear hK K hHeld12
      try simp only [List.getElem_toArray, List.getElem_cons_succ, List.getElem_cons_zero, Act.put, List.setIfInBounds_toArray, List.set_cons_zero, List.set_cons_succ]
      refine wpAnyH_done (by kernel_rfl) ?_ _
      go_wp2_with fail
      go_end0
      exact ⟨rfl, _, F9, R11, HPE.out ▸ own9.grown g11 (fun b hb e => by injection e with e; have := hF9' b hb; omega), hF9', t9.grown g11 t9.size (fun j hj => by injection hj with hj; omega), fun j hj hj0 hjF => (g11.block j (Nat.lt_of_lt_of_le hj (Nat.le_trans b48.size hgr9.size)) (fun e => hj0 (by injection e))).trans ((hgr9.block j (Nat.lt_of_lt_of_le hj b48.size) (fun e => hjF (ho.row e.symm))).trans (b48.block j hj))⟩
    · go_simp
      refine (wof_calls LA lc l nm i t _ (Kd.C_mono h0d hC) HW.out hl).mono ?_
      rintro e w4 ⟨rfl, hb4⟩
      have b4 : Below w.heap.size w w4 := (Below.refl _ _).drew.trans hb4
      have q4 := Sub.of_below b4 _ _ q0
      have cL4 := Sub.of_below b4 _ _ cL
      have cG4 := Sub.of_below b4 _ _ cG
      go_wp2_with fail
      refine hK.out _ _ (⟨cL4, cG4⟩) (fun hHeld14 => ?_)
      clear hK K hHeld
      try simp only [List.getElem_toArray, List.getElem_cons_succ, List.getElem_cons_zero, Act.put, List.setIfInBounds_toArray, List.set_cons_zero, List.set_cons_succ]
      refine wpAnyH_take (i := 9) (oi := _) (v := ?v1m1_15) rfl (by kernel_rfl) (by kernel_rfl) (by kernel_rfl) (fun _ _ _ h => h) (Or.inl ⟨by rfl, ?hy1m1_15⟩) hHeld14 ?_
      case hy1m1_15 => (intro wS hSw; (try dsimp only at hSw); obtain ⟨s0, s1⟩ := hSw; go_simp; try with_reducible rfl)
      try simp only [List.getElem_toArray, List.getElem_cons_succ, List.getElem_cons_zero, Act.put, List.setIfInBounds_toArray, List.set_cons_zero, List.set_cons_succ]
      refine wpAnyH_ready (rs := [0, 10]) (by kernel_rfl) (by simp) ?_
      refine (AllReadyH.cons (o := _) rfl (fun K hK => ?_) (AllReadyH.cons (o := _) rfl (fun K hK => ?_) AllReadyH.nil))
      · go_simp
        refine hK.out _ _ (hHeld14) (fun hHeld16 => ?_)
        clear hK K hHeld14
        try simp only [List.getElem_toArray, List.getElem_cons_succ, List.getElem_cons_zero, Act.put, List.setIfInBounds_toArray, List.set_cons_zero, List.set_cons_succ]
        refine wpAnyH_ready (rs := [10]) (by kernel_rfl) (by simp) ?_
        refine (AllReadyH.cons (o := _) rfl (fun K hK => ?_) AllReadyH.nil)
        go_simp
        have b8 := below_alloc' w4 (.cells #[.int .i64 i, .int .i64 t, .float .f64 (sumW (edgeIs nm i t) l)] 55)
        have q8 := Sub.of_below b8 _ _ q4
        have cL8 := Sub.of_below b8 _ _ cL4
        have cG8 := Sub.of_below b8 _ _ cG4
        have hY : YF oEdg (w4.alloc (.cells #[.int .i64 i, .int .i64 t, .float .f64 (sumW (edgeIs nm i t) l)] 55)) (some ⟨w4.heap.size, 0, none⟩) [E] noF := YF.one rfl ⟨fun _ h => h, HE.out⟩
        refine hK.out _ _ (⟨cL8, cG8⟩) (fun hHeld17 => ?_)
        clear hK K hHeld16
        try simp only [List.getElem_toArray, List.getElem_cons_succ, List.getElem_cons_zero, Act.put, List.setIfInBounds_toArray, List.set_cons_zero, List.set_cons_succ]
        refine wpAnyH_ready (rs := [11]) (by kernel_rfl) (by simp) ?_
        refine (AllReadyH.cons (o := _) rfl (fun K hK => ?_) AllReadyH.nil)
        refine step_append_f (k := oEdg) elEdg rfl _ _ rfl (ys := [E]) ((ho.below b4).below b8) hY (fun _ _ h => h) rfl rfl (by simp; omega) ?_
        intro v9 w9 hg9
        obtain ⟨⟨F9, own9, hF9⟩, hgr9⟩ := hg9
        have b48 := b4.trans (b8.mono b4.size)
        have t9 : Below w0.heap.size w0 w9 := (h0.trans (b48.mono h0.size)).grown hgr9 (Nat.le_trans h0.size b48.size) (fun j hj => hF j (ho.row hj))
        have cL9 := (Below.cell t9 (World.lt_of_cell cL0)).trans cL0
        have cG9 := (Below.cell t9 (World.lt_of_cell cG0)).trans cG0
        have hF9' : ∀ b, F9 b → w0.heap.size < b := fun b hb => by (rcases hF9 b hb with h | h | h; exact HFO.out b h; exact h.elim; exact Nat.lt_of_lt_of_le hOw (Nat.le_trans b48.size h))
        have R9 : Row w9 w0.heap.size 52 [v] := ((hR.below b4).below b8).grown hgr9 (fun e => by have := HFO.out _ (ho.row e); omega)
        have z9 := R9.cell (j := 0) rfl
        have f9 := R9.frozen 0
        refine hK.out _ _ (⟨cL9, cG9⟩) (fun hHeld18 => ?_)
        clear hK K hHeld17
        try simp only [List.getElem_toArray, List.getElem_cons_succ, List.getElem_cons_zero, Act.put, List.setIfInBounds_toArray, List.set_cons_zero, List.set_cons_succ]
        refine wpAnyH_ready (rs := [12]) (by kernel_rfl) (by simp) ?_
        refine (AllReadyH.cons (o := _) rfl (fun K hK => ?_) AllReadyH.nil)
        obtain ⟨A9, c9, rfl, l9, m9, -⟩ := own9.read
        rw [show (xs ++ [E]).length = xs.length + 1 from by simp] at own9
        rw [show (xs ++ [E]).length = xs.length + 1 from by simp]
        go_simp
        have R11 := R9.set 0 (.slice A9 (xs.length + 1) c9)
        have g11 := grown_set w9 w0.heap.size 0 (.slice A9 (xs.length + 1) c9)
        refine hK.out _ _ (⟨g11.cell cL9 (fun e => by have := World.lt_of_cell cL0; injection e with e; omega), g11.cell cG9 (fun e => by have := World.lt_of_cell cG0; injection e with e; omega)⟩) (fun hHeld19 => ?_)
        clear hK K hHeld18
        try simp only [List.getElem_toArray, List.getElem_cons_succ, List.getElem_cons_zero, Act.put, List.setIfInBounds_toArray, List.set_cons_zero, List.set_cons_succ]
        refine wpAnyH_done (by kernel_rfl) ?_ _
        go_wp2_with fail
        go_end0
        exact ⟨rfl, _, F9, R11, HPE.out ▸ own9.grown g11 (fun b hb e => by injection e with e; have := hF9' b hb; omega), hF9', t9.grown g11 t9.size (fun j hj => by injection hj with hj; omega), fun j hj hj0 hjF => (g11.block j (Nat.lt_of_lt_of_le hj (Nat.le_trans b48.size hgr9.size)) (fun e => hj0 (by injection e))).trans ((hgr9.block j (Nat.lt_of_lt_of_le hj b48.size) (fun e => hjF (ho.row e.symm))).trans (b48.block j hj))⟩
      · go_simp
        have b8 := below_alloc' w4 (.cells #[.int .i64 i, .int .i64 t, .float .f64 (sumW (edgeIs nm i t) l)] 55)
        have q8 := Sub.of_below b8 _ _ q4
        have cL8 := Sub.of_below b8 _ _ cL4
        have cG8 := Sub.of_below b8 _ _ cG4
        have hY : YF oEdg (w4.alloc (.cells #[.int .i64 i, .int .i64 t, .float .f64 (sumW (edgeIs nm i t) l)] 55)) (some ⟨w4.heap.size, 0, none⟩) [E] noF := YF.one rfl ⟨fun _ h => h, HE.out⟩
        refine hK.out _ _ (⟨cL8, cG8⟩) (fun hHeld20 => ?_)
        clear hK K hHeld14
        try simp only [List.getElem_toArray, List.getElem_cons_succ, List.getElem_cons_zero, Act.put, List.setIfInBounds_toArray, List.set_cons_zero, List.set_cons_succ]
        refine wpAnyH_ready (rs := [0]) (by kernel_rfl) (by simp) ?_
        refine (AllReadyH.cons (o := _) rfl (fun K hK => ?_) AllReadyH.nil)
        go_simp
        refine hK.out _ _ (hHeld20) (fun hHeld21 => ?_)
        clear hK K hHeld20
        try simp only [List.getElem_toArray, List.getElem_cons_succ, List.getElem_cons_zero, Act.put, List.setIfInBounds_toArray, List.set_cons_zero, List.set_cons_succ]
        refine wpAnyH_ready (rs := [11]) (by kernel_rfl) (by simp) ?_
        refine (AllReadyH.cons (o := _) rfl (fun K hK => ?_) AllReadyH.nil)
        refine step_append_f (k := oEdg) elEdg rfl _ _ rfl (ys := [E]) ((ho.below b4).below b8) hY (fun _ _ h => h) rfl rfl (by simp; omega) ?_
        intro v9 w9 hg9
        obtain ⟨⟨F9, own9, hF9⟩, hgr9⟩ := hg9
        have b48 := b4.trans (b8.mono b4.size)
        have t9 : Below w0.heap.size w0 w9 := (h0.trans (b48.mono h0.size)).grown hgr9 (Nat.le_trans h0.size b48.size) (fun j hj => hF j (ho.row hj))
        have cL9 := (Below.cell t9 (World.lt_of_cell cL0)).trans cL0
        have cG9 := (Below.cell t9 (World.lt_of_cell cG0)).trans cG0
        have hF9' : ∀ b, F9 b → w0.heap.size < b := fun b hb => by (rcases hF9 b hb with h | h | h; exact HFO.out b h; exact h.elim; exact Nat.lt_of_lt_of_le hOw (Nat.le_trans b48.size h))
        have R9 : Row w9 w0.heap.size 52 [v] := ((hR.below b4).below b8).grown hgr9 (fun e => by have := HFO.out _ (ho.row e); omega)
        have z9 := R9.cell (j := 0) rfl
        have f9 := R9.frozen 0
        refine hK.out _ _ (⟨cL9, cG9⟩) (fun hHeld22 => ?_)
        clear hK K hHeld21
        try simp only [List.getElem_toArray, List.getElem_cons_succ, List.getElem_cons_zero, Act.put, List.setIfInBounds_toArray, List.set_cons_zero, List.set_cons_succ]
        refine wpAnyH_ready (rs := [12]) (by kernel_rfl) (by simp) ?_
        refine (AllReadyH.cons (o := _) rfl (fun K hK => ?_) AllReadyH.nil)
        obtain ⟨A9, c9, rfl, l9, m9, -⟩ := own9.read
        rw [show (xs ++ [E]).length = xs.length + 1 from by simp] at own9
        rw [show (xs ++ [E]).length = xs.length + 1 from by simp]
        go_simp
        have R11 := R9.set 0 (.slice A9 (xs.length + 1) c9)
        have g11 := grown_set w9 w0.heap.size 0 (.slice A9 (xs.length + 1) c9)
        refine hK.out _ _ (⟨g11.cell cL9 (fun e => by have := World.lt_of_cell cL0; injection e with e; omega), g11.cell cG9 (fun e => by have := World.lt_of_cell cG0; injection e with e; omega)⟩) (fun hHeld23 => ?_)
        clear hK K hHeld22
        try simp only [List.getElem_toArray, List.getElem_cons_succ, List.getElem_cons_zero, Act.put, List.setIfInBounds_toArray, List.set_cons_zero, List.set_cons_succ]
        refine wpAnyH_done (by kernel_rfl) ?_ _
        go_wp2_with fail
        go_end0
        exact ⟨rfl, _, F9, R11, HPE.out ▸ own9.grown g11 (fun b hb e => by injection e with e; have := hF9' b hb; omega), hF9', t9.grown g11 t9.size (fun j hj => by injection hj with hj; omega), fun j hj hj0 hjF => (g11.block j (Nat.lt_of_lt_of_le hj (Nat.le_trans b48.size hgr9.size)) (fun e => hj0 (by injection e))).trans ((hgr9.block j (Nat.lt_of_lt_of_le hj b48.size) (fun e => hjF (ho.row e.symm))).trans (b48.block j hj))⟩

  · have hpe : xs ++ putE l nm i t = xs := by unfold putE; rw [if_neg ht, List.append_nil]
    have HPE := Lib.hid hpe
    have HO := Lib.hid ho
    clear hpe ho
    by_cases h1 : t = 0
    · have z1 : (t != 0) = false := by simp [h1]
      clear h1 ht
      go_enter Try.func32, Try.ntmps32
      go_wp2_with fail
      go_end0
      exact ⟨rfl, v, F, hR, HPE.out.symm ▸ HO.out, hFO, h0, fun _ _ _ _ => rfl⟩
    · have z1 : (t != 0) = true := by simp [h1]
      have z2 : (t != i) = false := by
        have : t = i := by
          by_cases e : t = i
          · exact e
          · exact absurd ⟨h1, e⟩ ht
        simp [this]
      clear h1 ht
      go_enter Try.func32, Try.ntmps32
      go_wp2_with fail
      go_end0
      exact ⟨rfl, v, F, hR, HPE.out.symm ▸ HO.out, hFO, h0, fun _ _ _ _ => rfl⟩
end Go.Proofs.Ythnkikdbllkmkaa
