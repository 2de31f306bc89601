/- slices.Compact over edges: `==` of two, clearing. Printed by genYe.py of this repository. -/
import Derived.Test.YthnkikdbllkmkaaYd
import Derived.Laws.StructEq
import Derived.Laws.IdiomCopy
namespace Go.Proofs.Ythnkikdbllkmkaa
set_option linter.unusedVariables false
set_option linter.unusedSimpArgs false
open Go.RowKit
attribute [local go_sem] run_store_float

def sameE (x y : Edg) : Bool := decide (x.src = y.src ∧ x.dst = y.dst ∧ x.w.1 = y.w.1)
theorem sameE_iff (x y : Edg) : sameE x y = true ↔ x = y := by
  unfold sameE
  rw [decide_eq_true_eq]
  constructor
  · rintro ⟨h1, h2, h3⟩
    cases x
    cases y
    simp only at h1 h2 h3
    rw [h1, h2, Subtype.ext h3]
  · rintro rfl
    exact ⟨rfl, rfl, rfl⟩
instance : DecidableEq Edg := fun x y => decidable_of_iff _ (sameE_iff x y)
theorem eqF (d : Nat) (w : World) (x y : Nat) (hx : Fl.posW x) (hy : Fl.posW y) : (Op.equalIn (d + 1) 47 (.float .f64 x) (.float .f64 y)).run Try.prog w = .ok (decide (x = y)) w := by
  have ho : FloatKind.f64.format.order x y = some (compare x y) := Fl.order_pos hx hy
  have h : Op.floatEq .f64 x y = decide (x = y) := by
    unfold Op.floatEq
    rw [ho]
    rcases Nat.lt_trichotomy x y with h | h | h
    · rw [Nat.compare_eq_lt.2 h, decide_eq_false (by omega)]; rfl
    · rw [Nat.compare_eq_eq.2 h, decide_eq_true h]; rfl
    · rw [Nat.compare_eq_gt.2 h, decide_eq_false (by omega)]; rfl
  simp [Op.equalIn, run_underlying Try.underlying47, go_sem, h]
theorem eqEdg_v (d : Nat) (w : World) (x y : Edg) : (Op.equalIn (d + 3) 55 (.agg #[.int .i64 x.src, .int .i64 x.dst, .float .f64 x.w.1]) (.agg #[.int .i64 y.src, .int .i64 y.dst, .float .f64 y.w.1])).run Try.prog w = .ok (sameE x y) w := by
  have hF := fun d W => eqF d W x.w.1 y.w.1 x.w.2 y.w.2
  rw [run_equalIn_struct w (d + 2) 55 _ _ (by kernel_rfl) (by kernel_rfl)]
  unfold sameE
  simp [Try.underlying55, Program.fieldsOf, go_sem, hF]
  (repeat' split) <;> simp_all
attribute [local go_sem high] eqEdg_v

theorem run_clear_any {P : Program} (w : World) (t e ty : TypeId) (z : Value) (ht : P.underlying t = some (.slice e)) (hv : ∀ w, (zeroValue e).run P w = .ok z w) (b o n c : Nat) (hn : 0 < n)
    (h1 : ∀ v ∈ (Builtin.zeroCells z.cells n).toList, v.oneCell' = true) (hc : ∀ j, j < (Builtin.zeroCells z.cells n).size → (w.cell? ⟨b, o + j, none⟩).isSome = true) (hf : ∀ j, j < (Builtin.zeroCells z.cells n).size → w.frozen? ⟨b, o + j, none⟩ = false) :
    (Builtin.clear_ #[t] ty #[.slice (some ⟨b, o, none⟩) n c]).run P w = .ok (.tuple #[]) (w.setCells b o (Builtin.zeroCells z.cells n).toList) := by
  have hst := run_storeCells_cells (P := P) b o (Builtin.zeroCells z.cells n).toList 0 w (by simpa using hc) (by simpa using hf) h1
  simp only [Nat.add_zero] at hst
  obtain ⟨m, rfl⟩ : ∃ m, n = m + 1 := ⟨n - 1, by omega⟩
  simp [Builtin.clear_, run_underlying ht, hv, hst]
theorem zero_edge_size (n : Nat) : (Builtin.zeroCells zEdg.cells n).size = n * 3 := by simp [Builtin.zeroCells, zEdg, Value.cells]
theorem zero_edge_one (n : Nat) : ∀ v ∈ (Builtin.zeroCells zEdg.cells n).toList, v.oneCell' = true := by
  intro v hv
  rw [List.mem_iff_getElem?] at hv
  obtain ⟨i, hi⟩ := hv
  simp only [Builtin.zeroCells, zEdg, Value.cells, Array.toList_map, List.getElem?_map, Array.toList_range] at hi
  cases hr : (List.range (n * (#[Value.int .i64 0, .int .i64 0, .float .f64 0] : Array Value).size))[i]? with
  | none => rw [hr] at hi; cases hi
  | some q =>
    rw [hr] at hi
    injection hi with hi
    rw [← hi]
    have h3 : q % 3 < 3 := Nat.mod_lt _ (by decide)
    have key : ∀ m, m < 3 → ((#[Value.int .i64 0, .int .i64 0, .float .f64 0] : Array Value)[m]!).oneCell' = true := by
      intro m hm
      match m, hm with
      | 0, _ => rfl
      | 1, _ => rfl
      | 2, _ => rfl
    exact key _ h3

/-- A row of edges in a block of the call's own. -/
def RowE (w : World) (g cap : Nat) (ys : List Edg) : Prop := w.ownsRow 0 55 3 (.slice (some ⟨g, 0, none⟩) ys.length cap) ys.length (ys.map encE).flatten
theorem RowE.cells {w : World} {g cap : Nat} {ys : List Edg} (h : RowE w g cap ys) {i : Nat} {x : Edg} (hx : ys[i]? = some x) :
    w.cell? ⟨g, i * 3, none⟩ = some (.int .i64 x.src) ∧ w.cell? ⟨g, i * 3 + 1, none⟩ = some (.int .i64 x.dst) ∧ w.cell? ⟨g, i * 3 + 2, none⟩ = some (.float .f64 x.w.1) := by
  have hget : ∀ j v, (encE x)[j]? = some v → w.cell? ⟨g, i * 3 + j, none⟩ = some v := by
    intro j v hv
    have h4 := flatten_get (css := ys.map encE) (s := 3) (i := i) (cs := encE x) (j := j) (v := v) (fun c hc => by
      obtain ⟨z, -, rfl⟩ := List.mem_map.1 hc
      rfl) (by simp [hx]) hv
    have := World.ownsRow.cells h rfl _ _ h4
    rwa [show (⟨g, 0, none⟩ : Addr).add (i * 3 + j) = ⟨g, i * 3 + j, none⟩ from by
      unfold Addr.add
      split
      · rename_i e; rw [e]
      · simp] at this
  exact ⟨hget 0 _ rfl, hget 1 _ rfl, hget 2 _ rfl⟩
theorem RowE.frozen {w : World} {g cap : Nat} {ys : List Edg} (h : RowE w g cap ys) (j : Nat) : w.frozen? ⟨g, j, none⟩ = false := World.ownsRow.frozenAt h j
theorem RowE.isSome {w : World} {g cap : Nat} {ys : List Edg} (h : RowE w g cap ys) {q : Nat} (hq : q < ys.length * 3) : (w.cell? ⟨g, q, none⟩).isSome = true := by
  obtain ⟨v, hv⟩ := get_some ((ys.map encE).flatten) q (by rw [flat_len]; exact hq)
  have := World.ownsRow.cells h rfl _ _ hv
  rw [show (⟨g, 0, none⟩ : Addr).add q = ⟨g, q, none⟩ from by
    unfold Addr.add
    split
    · rename_i e; rw [e]
    · simp] at this
  rw [this]
  rfl
theorem RowE.drewN {w : World} {g cap : Nat} {ys : List Edg} (h : RowE w g cap ys) (n : Nat) : RowE (w.drewN n) g cap ys := h
theorem RowE.set {w : World} {g cap : Nat} {ys : List Edg} (h : RowE w g cap ys) {i : Nat} (hi : i < ys.length) (x : Edg) :
    RowE (((w.setCell ⟨g, i * 3, none⟩ (.int .i64 x.src)).setCell ⟨g, i * 3 + 1, none⟩ (.int .i64 x.dst)).setCell ⟨g, i * 3 + 2, none⟩ (.float .f64 x.w.1)) g cap (ys.set i x) ∧ w.grownBy (((w.setCell ⟨g, i * 3, none⟩ (.int .i64 x.src)).setCell ⟨g, i * 3 + 1, none⟩ (.int .i64 x.dst)).setCell ⟨g, i * 3 + 2, none⟩ (.float .f64 x.w.1)) (some g) := by
  obtain ⟨y, hy⟩ := get_some ys i hi
  obtain ⟨a1, b1⟩ := World.ownsRow.stored h (i * 3) (.int .i64 x.src)
  obtain ⟨a2, b2⟩ := World.ownsRow.stored a1 (i * 3 + 1) (.int .i64 x.dst)
  obtain ⟨a3, b3⟩ := World.ownsRow.stored a2 (i * 3 + 2) (.float .f64 x.w.1)
  refine ⟨?_, grown_trans (grown_trans b1 b2) b3⟩
  unfold RowE
  rw [List.length_set]
  have e3 : ∀ c ∈ ys.map encE, c.length = 3 := fun c hc => by
    obtain ⟨z, -, rfl⟩ := List.mem_map.1 hc
    rfl
  have hcs : (ys.map encE)[i]? = some (encE y) := by simp [hy]
  have f1 : (ys.map encE).flatten.set (i * 3) (.int .i64 x.src) = ((ys.map encE).set i ((encE y).set 0 (.int .i64 x.src))).flatten := flatten_set (s := 3) (j := 0) _ e3 hcs (by decide)
  have e3' : ∀ (c0 : List Value), c0.length = 3 → ∀ c ∈ (ys.map encE).set i c0, c.length = 3 := fun c0 h0 c hc => by
    rcases List.mem_or_eq_of_mem_set hc with h | h
    · exact e3 c h
    · rw [h]; exact h0
  have hl : i < (ys.map encE).length := by simpa using hi
  have f2 := flatten_set (s := 3) (j := 1) (.int .i64 x.dst) (e3' ((encE y).set 0 (.int .i64 x.src)) rfl) (List.getElem?_set_self hl) (by decide)
  have f3 := flatten_set (s := 3) (j := 2) (.float .f64 x.w.1) (e3' (((encE y).set 0 (.int .i64 x.src)).set 1 (.int .i64 x.dst)) rfl) (List.getElem?_set_self hl) (by decide)
  rw [List.set_set] at f2 f3
  rw [f1, f2, f3] at a3
  have e4 : (ys.set i x).map encE = (ys.map encE).set i ((((encE y).set 0 (.int .i64 x.src)).set 1 (.int .i64 x.dst)).set 2 (.float .f64 x.w.1)) := by
    rw [List.map_set]
    rfl
  rw [e4]
  exact a3
theorem ownsRow_setCells {base : Nat} {T : TypeId} {s g n cap : Nat} {xs : List Value} : ∀ (vs : List Value) (o : Nat) {w : World}, w.ownsRow base T s (.slice (some ⟨g, 0, none⟩) n cap) n xs → xs.length ≤ o → (w.setCells g o vs).ownsRow base T s (.slice (some ⟨g, 0, none⟩) n cap) n xs ∧ w.grownBy (w.setCells g o vs) (some g)
  | [], o, w, h, _ => ⟨h, grown_refl _ _⟩
  | v :: r, o, w, h, ho => by
    obtain ⟨a1, b1⟩ := World.ownsRow.stored h o v
    rw [List.set_eq_of_length_le ho] at a1
    obtain ⟨a2, b2⟩ := ownsRow_setCells r (o + 1) a1 (by omega)
    exact ⟨a2, grown_trans b1 b2⟩
theorem RowE.take {w : World} {g cap : Nat} {ys : List Edg} (h : RowE w g cap ys) {n : Nat} (hn : n ≤ ys.length) : RowE w g cap (ys.take n) := by
  unfold RowE at *
  obtain ⟨h0, ⟨hv, -⟩ | ⟨g', cap', cur, hv, hb, hh, h1, h2, h3, h4⟩⟩ := h
  · cases hv
  · injection hv with e1 e2 e3
    injection e1 with e1
    injection e1 with e1
    subst e1 e3
    have hl : (ys.take n).length = n := by simp; omega
    have hf : ∀ zs : List Edg, ((zs.map encE).flatten).length = zs.length * 3 := flat_len
    refine ⟨hf _, .inr ⟨g, cap, cur, rfl, hb, hh, by omega, h2, h3, ?_⟩⟩
    have e5 : ((ys.take n).map encE).flatten = ((ys.map encE).flatten).take (n * 3) := by
      have e6 : (ys.map encE).flatten = ((ys.take n).map encE).flatten ++ ((ys.drop n).map encE).flatten := by rw [← List.flatten_append, ← List.map_append, List.take_append_drop]
      conv => rhs; rw [e6]
      rw [List.take_append_of_le_length (by rw [hf, hl]; exact Nat.le_refl _)]
      exact (List.take_of_length_le (by rw [hf, hl]; exact Nat.le_refl _)).symm
    rw [e5, ← h4, List.take_take, hl, Nat.min_eq_left (by omega)]

/-- Of equal neighbours one. -/
def ddN (xs : List Edg) : Nat → List Edg
  | 0 => []
  | m + 1 => ddN xs m ++ (if 0 < m ∧ xs[m]? = xs[m - 1]? then [] else xs[m]?.toList)
theorem ddN_keep {xs : List Edg} {m : Nat} {x : Edg} (h : xs[m]? = some x) (hn : ¬ (0 < m ∧ xs[m]? = xs[m - 1]?)) : ddN xs (m + 1) = ddN xs m ++ [x] := by
  show ddN xs m ++ _ = _
  rw [if_neg hn, h]
  rfl
theorem ddN_skip {xs : List Edg} {m : Nat} (hm : 0 < m) (h : xs[m]? = xs[m - 1]?) : ddN xs (m + 1) = ddN xs m := by
  show ddN xs m ++ _ = _
  rw [if_pos ⟨hm, h⟩, List.append_nil]
theorem ddN_all {xs : List Edg} : ∀ {m : Nat}, m ≤ xs.length → (∀ j, 0 < j → j < m → xs[j]? ≠ xs[j - 1]?) → ddN xs m = xs.take m
  | 0, _, _ => rfl
  | m + 1, hl, h => by
    obtain ⟨x, hx⟩ := get_some xs m (by omega)
    rw [ddN_keep hx (fun e => h m e.1 (by omega) e.2), ddN_all (by omega) (fun j h0 hj => h j h0 (by omega)), take_snoc hx]
theorem take_set_snoc {α : Type} {ys : List α} {k : Nat} (hk : k < ys.length) (x : α) : (ys.set k x).take (k + 1) = ys.take k ++ [x] := by
  rw [take_snoc (x := x) (by rw [List.getElem?_set, if_pos rfl, if_pos hk]), List.take_set_of_le (Nat.le_refl _)]

set_option maxHeartbeats 4000000 in
set_option maxRecDepth 100000 in
theorem compact_row (g cap : Nat) (xs : List Edg) (w : World) (hR : RowE w g cap xs) (hl : xs.length ≤ 100000) (hcap : xs.length ≤ cap) (hp : 0 < xs.length) : Calls Try.prog 38 #[.slice (some ⟨g, 0, none⟩) xs.length cap] w fun e w' =>
    e = .returned (.slice (some ⟨g, 0, none⟩) (ddN xs xs.length).length cap) ∧ RowE w' g cap (ddN xs xs.length) ∧ w.grownBy w' (some g) := by
  have hlo : xs.length ≤ 9223372036854775807 := by omega
  by_cases h2 : xs.length < 2
  · have z1 : decide ((xs.length : Int) < 2) = true := decide_eq_true (by omega)
    have z1' : decide (xs.length < 2) = true := decide_eq_true h2
    have hd : ddN xs xs.length = xs := (ddN_all (Nat.le_refl _) (fun j h0 hj => by omega)).trans (List.take_length)
    have HD := Lib.hid hd
    have HR := Lib.hid hR
    clear hd hR
    go_enter Try.func38, Try.ntmps38
    go_wp2_with fail
    go_ret
    exact ⟨by rw [HD.out]; rfl, by rw [HD.out]; exact HR.out, grown_refl _ _⟩
  · have z1 : decide ((xs.length : Int) < 2) = false := decide_eq_false (by omega)
    have z1' : decide (xs.length < 2) = false := decide_eq_false h2
    have HR := Lib.hid hR
    clear hR
    go_enter Try.func38, Try.ntmps38
    go_wp2_with fail
    clear z1 z1'
    go_loopw [3] (fun i wr => ∃ m : Nat, m + 1 ≤ xs.length ∧ i = .int .i64 ((m : Int) + 1) ∧ RowE wr g cap xs ∧ w.grownBy wr (some g) ∧ ∀ j, 0 < j → j < m + 1 → xs[j]? ≠ xs[j - 1]?) (fun i _ => xs.length - (intOf i).toNat)
    case atStart => exact ⟨0, by omega, rfl, HR.out, grown_refl _ _, fun j h0 hj => by omega⟩
    case round =>
      obtain ⟨m, hm, rfl, hr, hgr, hall⟩ := hrel
      by_cases hlt : m + 1 < xs.length
      · obtain ⟨x, hx⟩ := get_some xs (m + 1) hlt
        obtain ⟨y, hy⟩ := get_some xs m (by omega)
        obtain ⟨c0, c1, c2⟩ := hr.cells hx
        obtain ⟨d0, d1, d2⟩ := hr.cells hy
        have HX := Lib.hid hx
        have HY := Lib.hid hy
        have HRW := Lib.hid hr
        have HALL := Lib.hid hall
        have hltI : (m : Int) + 1 < (xs.length : Int) := by omega
        have hm0 : (0 : Int) ≤ (m : Int) + 1 := by omega
        have hm1 : (m : Int) < (xs.length : Int) := by omega
        clear hx hy hr hall
        by_cases hxy : x = y
        · have zs : sameE x y = true := (sameE_iff x y).2 hxy
          have HXY := Lib.hid hxy
          clear hxy
          go_wp2_with fail
          go_quiet (fail)
          have hgq : w.grownBy (wr.drewN nq) (some g) := grown_trans hgr ⟨rfl, rfl, rfl, Nat.le_refl _, fun _ _ _ => rfl⟩
          have HRQ : Hid (RowE (wr.drewN nq) g cap xs) := Lib.hid (RowE.drewN HRW.out nq)
          clear c0 c1 c2 d0 d1 d2 HRW hgr
          generalize wr.drewN nq = wq at *
          have hcm : ¬ cap = m + 1 := by omega
          have hnm : xs.length - (m + 1) ≤ 9223372036854775807 := by omega
          obtain ⟨N2, hN2⟩ : ∃ N2, N2 = xs.length - (m + 1) := ⟨_, rfl⟩
          go_wp2_with fail
          rw [← hN2]
          rw [← hN2] at hnm
          have hN2' : m + 1 + N2 = xs.length := by omega
          have hNp : 1 ≤ N2 := by omega
          have hst : xs.take (m + 1) = ddN xs (m + 1 + (0 + 1)) := by
            rw [show m + 1 + (0 + 1) = m + 1 + 1 from rfl, ddN_skip (by omega) (by rw [HX.out, show m + 1 - 1 = m from rfl, HY.out, HXY.out])]
            exact (ddN_all (by omega) (fun j h0 hj => HALL.out j h0 hj)).symm
          have HST := Lib.hid hst
          clear hN2 hst HX HY HXY HALL zs hltI hm0 hm1
          go_loopw [3, 5] (fun a b wr => ∃ (kk p : Nat) (ys : List Edg), a = .int .i64 (kk : Int) ∧ b = .int .i64 ((p : Int) + 1) ∧ p + 1 ≤ N2 ∧ kk ≤ m + 1 + p ∧ 0 < kk ∧ ys.length = xs.length ∧ (∀ i, m + 1 + p ≤ i → ys[i]? = xs[i]?) ∧ ys.take kk = ddN xs (m + 1 + (p + 1)) ∧ RowE wr g cap ys ∧ w.grownBy wr (some g)) (fun _ b _ => N2 - (intOf b).toNat)
          case atStart => exact ⟨m + 1, 0, xs, by simp, rfl, by omega, by omega, by omega, rfl, fun _ _ => rfl, HST.out, HRQ.out, hgq⟩
          case round =>
            obtain ⟨kk, p, ys, rfl, rfl, hpN, hkk, hk0, hyl, hyi, hyt, hr, hgr⟩ := hrel
            have HYT := Lib.hid hyt
            have HYI := Lib.hid hyi
            have HYL := Lib.hid hyl
            have HRW := Lib.hid hr
            have hkl : kk < xs.length := by omega
            have hkI : (kk : Int) < (xs.length : Int) := by omega
            by_cases hlt2 : p + 1 < N2
            · obtain ⟨u, hu⟩ := get_some xs (m + 1 + (p + 1)) (by omega)
              obtain ⟨v, hv⟩ := get_some xs (m + 1 + p) (by omega)
              obtain ⟨c0, c1, c2⟩ := hr.cells ((hyi _ (by omega)).trans hu)
              obtain ⟨d0, d1, d2⟩ := hr.cells ((hyi _ (by omega)).trans hv)
              rw [show (m + 1 + (p + 1)) * 3 = (m + 1) * 3 + (p + 1) * 3 from by omega] at c0 c1 c2
              rw [show (m + 1 + p) * 3 = (m + 1) * 3 + p * 3 from by omega] at d0 d1 d2
              have hlt2I : (p : Int) + 1 < (N2 : Int) := by omega
              have hp0 : (0 : Int) ≤ (p : Int) + 1 := by omega
              have hp1 : (p : Int) < (N2 : Int) := by omega
              have HU := Lib.hid hu
              have HV := Lib.hid hv
              clear hyt hyi hyl hr hu hv hkl
              by_cases huv : u = v
              · have zs : (!sameE u v) = false := by rw [(sameE_iff u v).2 huv]; rfl
                have zs' : sameE u v = true := (sameE_iff u v).2 huv
                have HUV := Lib.hid huv
                clear huv
                go_wp2_with fail
                go_quiet (fail)
                go_wp2_with fail
                exact ⟨⟨kk, p + 1, ys, rfl, by go_num, by omega, by omega, hk0, HYL.out, fun i hi => HYI.out i (by omega), by rw [HYT.out]; exact (ddN_skip (by omega) (by rw [show m + 1 + (p + 1) - 1 = m + 1 + p from rfl, HU.out, HV.out, HUV.out])).symm, RowE.drewN HRW.out _, grown_trans hgr ⟨rfl, rfl, rfl, Nat.le_refl _, fun _ _ _ => rfl⟩⟩, by simp [intOf]; omega⟩
              · have zs' : sameE u v = false := by
                  cases h : sameE u v with
                  | false => rfl
                  | true => exact absurd ((sameE_iff u v).1 h) huv
                have HUV := Lib.hid huv
                obtain ⟨old, hold⟩ := get_some ys kk (by rw [HYL.out]; omega)
                clear huv
                go_wp2_with fail
                go_quiet (fail)
                have hgq : w.grownBy (wr.drewN nq) (some g) := grown_trans hgr ⟨rfl, rfl, rfl, Nat.le_refl _, fun _ _ _ => rfl⟩
                have hRQ := RowE.drewN HRW.out nq
                clear c0 c1 c2 d0 d1 d2 HRW hgr
                generalize wr.drewN nq = wq at *
                obtain ⟨o0, o1, o2⟩ := hRQ.cells hold
                obtain ⟨c0, c1, c2⟩ := hRQ.cells ((HYI.out _ (by omega)).trans HU.out)
                rw [show (m + 1 + (p + 1)) * 3 = (m + 1) * 3 + (p + 1) * 3 from by omega] at c0 c1 c2
                have f0 := hRQ.frozen (kk * 3)
                have f1 := hRQ.frozen (kk * 3 + 1)
                have f2 := hRQ.frozen (kk * 3 + 2)
                obtain ⟨hRS, hgS⟩ := hRQ.set (i := kk) (by rw [HYL.out]; omega) u
                have HRS := Lib.hid hRS
                have HGS := Lib.hid hgS
                have HOLD := Lib.hid hold
                clear hRS hgS hRQ hold
                go_wp2_with fail
                refine ⟨⟨kk + 1, p + 1, ys.set kk u, by go_num, by go_num, by omega, by omega, by omega, by rw [List.length_set]; exact HYL.out, fun i hi => ?_, ?_, HRS.out, grown_trans hgq HGS.out⟩, by simp [intOf]; omega⟩
                · rw [List.getElem?_set, if_neg (by omega)]
                  exact HYI.out i (by omega)
                · rw [take_set_snoc (by rw [HYL.out]; omega), HYT.out]
                  refine (ddN_keep HU.out (fun e => ?_)).symm
                  have e2 := e.2
                  rw [show m + 1 + (p + 1) - 1 = m + 1 + p from rfl, HU.out, HV.out] at e2
                  injection e2 with e2
                  exact HUV.out e2
            · have hpe : N2 = p + 1 := by omega
              have hz : ¬ cap = kk := by omega
              have hgt : 0 < xs.length - kk := by omega
              have hsome : ∀ q, q < xs.length * 3 → (wr.cell? ⟨g, q, none⟩).isSome = true := fun q hq => hr.isSome (by rw [hyl]; exact hq)
              have hcl : ∀ ty, (Builtin.clear_ #[52] ty #[.slice (some ⟨g, kk * 3, none⟩) (xs.length - kk) (cap - kk)]).run Try.prog wr = .ok (.tuple #[]) (wr.setCells g (kk * 3) (Builtin.zeroCells zEdg.cells (xs.length - kk)).toList) := fun ty =>
                run_clear_any wr _ _ ty zEdg Try.underlying52 Try.zeroValue55 g (kk * 3) _ _ hgt (zero_edge_one _) (fun j hj => hsome _ (by rw [zero_edge_size] at hj; omega)) (fun j hj => hr.frozen _)
              obtain ⟨k1, k2⟩ := ownsRow_setCells (Builtin.zeroCells zEdg.cells (xs.length - kk)).toList (kk * 3) (hr.take (n := kk) (by omega)) (by rw [flat_len]; simp; omega)
              have hlen : (ddN xs xs.length).length = kk := by
                rw [show xs.length = m + 1 + (p + 1) from by omega, ← hyt]
                simp
                omega
              have hdd : ys.take kk = ddN xs xs.length := by rw [hyt, show m + 1 + (p + 1) = xs.length from by omega]
              have hzp : decide ((p : Int) + 1 < (N2 : Int)) = false := decide_eq_false (by omega)
              generalize (Builtin.zeroCells zEdg.cells (xs.length - kk)).toList = Z at *
              have HK1 := Lib.hid k1
              have HK2 := Lib.hid k2
              have HLEN := Lib.hid hlen
              have HDD := Lib.hid hdd
              clear k1 k2 hlen hdd hyt hyi hr hsome HRW
              go_wp2_with fail
              go_ret
              refine ⟨by rw [HLEN.out]; rfl, ?_, grown_trans hgr HK2.out⟩
              have h1 := HK1.out
              rw [HDD.out] at h1
              exact h1
        · have zs : sameE x y = false := by
            cases h : sameE x y with
            | false => rfl
            | true => exact absurd ((sameE_iff x y).1 h) hxy
          have HXY := Lib.hid hxy
          clear hxy
          go_wp2_with fail
          go_quiet (fail)
          go_wp2_with fail
          refine ⟨⟨m + 1, by omega, by go_num, HRW.out, grown_trans hgr ⟨rfl, rfl, rfl, Nat.le_refl _, fun _ _ _ => rfl⟩, fun j h0 hj => ?_⟩, by simp [intOf]; omega⟩
          by_cases hjm : j = m + 1
          · subst hjm
            rw [HX.out, show m + 1 - 1 = m from rfl, HY.out]
            intro e
            injection e with e
            exact HXY.out e
          · exact HALL.out j h0 (by omega)
      · have hme : xs.length = m + 1 := by omega
        have z3 : decide ((m : Int) + 1 < (xs.length : Int)) = false := decide_eq_false (by omega)
        have hd : ddN xs xs.length = xs := (ddN_all (Nat.le_refl _) (fun j h0 hj => hall j h0 (by omega))).trans (List.take_length)
        have HD := Lib.hid hd
        have HRW := Lib.hid hr
        clear hd hr hall
        go_wp2_with fail
        go_ret
        exact ⟨by rw [HD.out]; rfl, by rw [HD.out]; exact HRW.out, hgr⟩
end Go.Proofs.Ythnkikdbllkmkaa
