/- chain.Funcs, where few are used. -/
import Derived.Test.YthnkikdbllkmkaaYm
import Derived.Test.YthnkikdbllkmkaaYk
import Derived.Laws.EntriesVeiled
namespace Go.Proofs.Ythnkikdbllkmkaa
set_option linter.unusedVariables false
set_option linter.unusedSimpArgs false
open Go.RowKit Go.Lib
open Go.Sort (grow putRow Holds putCells mapBlock onCells heap_grow_old insertionSort)

theorem sortWorld_grown {α : Type} [Inhabited α] (enc : α → Value) (w : World) (blk off q : Nat) (d : Array α) (os : Array Obj) : w.grownBy (sortWorld enc w blk off q d os) (some blk) := by
  refine ⟨rfl, rfl, rfl, by simp [sortWorld, grow, putRow, mapBlock, Go.Sort.ahead], fun k hk hne => ?_⟩
  unfold sortWorld
  rw [heap_grow_old _ _ (by simpa [putRow, mapBlock, Go.Sort.ahead] using hk)]
  have : blk ≠ k := fun e => hne (by rw [e])
  simp [putRow, mapBlock, Go.Sort.ahead, Array.getElem?_modify, this]
/-- Those that are used, but for the entry. -/
def selN (us : List Bool) (e : Nat) : Nat → List Nat
  | 0 => []
  | k + 1 => selN us e k ++ (if us[k]? = some true ∧ k ≠ e then [k] else [])
theorem selN_lt (us : List Bool) (e : Nat) : ∀ k, ∀ x ∈ selN us e k, x < k
  | 0, x, h => by cases h
  | k + 1, x, h => by
    rcases List.mem_append.1 h with h | h
    · have := selN_lt us e k x h; omega
    · split at h
      · rw [List.mem_singleton] at h; omega
      · cases h
theorem selN_len (us : List Bool) (e : Nat) : ∀ k, (selN us e k).length ≤ k
  | 0 => Nat.le_refl _
  | k + 1 => by
    have := selN_len us e k
    show (selN us e k ++ _).length ≤ _
    rw [List.length_append]
    split
    · simp; omega
    · simp; omega
def finL (m : Nat) (xs : List Nat) (h : ∀ x ∈ xs, x < m) : List (Fin m) := xs.pmap Fin.mk h
theorem finL_val {m : Nat} {xs : List Nat} (h : ∀ x ∈ xs, x < m) : (finL m xs h).map Fin.val = xs := by
  unfold finL
  rw [List.map_pmap]
  simp
theorem finL_len {m : Nat} {xs : List Nat} (h : ∀ x ∈ xs, x < m) : (finL m xs h).length = xs.length := by simp [finL]
theorem useB_at {w : World} {A : Option Addr} {us : List Bool} (h : Kd.bool.C w A us) {i : Nat} {u : Bool} (hu : us[i]? = some u) : ∃ ad, A = some ad ∧ w.cell? (ad.add i) = some (.bool u) := by
  obtain ⟨ad, cs, e, rfl, hc⟩ := h i u hu
  have := hc 0 _ rfl
  rw [show i * Kd.bool.size + 0 = i from by show i * 1 + 0 = i; omega] at this
  exact ⟨ad, e, this⟩
theorem ltOf_cfT (l : List Edge) (gs : List Graph) {m : Nat} (a b : Fin m) : ltOf (fun a b : Fin m => cfT l gs a.1 b.1) a b = decide (totN l gs b.1 < totN l gs a.1) := by
  unfold ltOf cfT cmpW
  by_cases h1 : totN l gs b.1 < totN l gs a.1
  · simp [h1]
  · by_cases h2 : totN l gs a.1 < totN l gs b.1 <;> simp [h1, h2]
theorem swoT (l : List Edge) (gs : List Graph) (m : Nat) : Go.Sort.SWO (ltOf (fun a b : Fin m => cfT l gs a.1 b.1)) where
  irrefl x := by rw [ltOf_cfT]; simp
  trans x y z h1 h2 := by rw [ltOf_cfT] at *; simp at *; omega
  ntrans x y z h1 h2 := by rw [ltOf_cfT] at *; simp at *; omega
/-- The rest of the order: sorted. -/
def sortT (l : List Edge) (gs : List Graph) (m : Nat) [Inhabited (Fin m)] (xs : List (Fin m)) : List (Fin m) := (insertionSort (ltOf (fun a b : Fin m => cfT l gs a.1 b.1)) xs.toArray 0 xs.length).toList

set_option maxHeartbeats 3000000 in
set_option maxRecDepth 100000 in
theorem funcs_small (GA : Option Addr) (gc : Nat) (gs : List Graph) (e : Nat) (LA : Option Addr) (lc : Nat) (l : List Edge) (UA : Option Addr) (uc : Nat) (us : List Bool) (w : World) [Inhabited (Fin gs.length)] (he : e < gs.length) (hG : kGraph.C w GA gs) (hL : kEdge.C w LA l) (hw : ∀ e ∈ l, e.wf) (hl : l.length ≤ maxLen) (hU : Kd.bool.C w UA us) (hul : us.length = gs.length) (hgl : gs.length ≤ 19) (hs1 : 1 ≤ (selN us e us.length).length) (hsel : ∀ x ∈ selN us e us.length, x < gs.length) :
    Calls Try.prog 12 #[.slice GA gs.length gc, .int .i64 (e : Int), .slice LA l.length lc, .slice UA us.length uc] w fun r w' =>
      ∃ v F, r = .returned v ∧ OwnF oN 3 w' v (e :: (sortT l gs gs.length (finL gs.length (selN us e us.length) hsel)).map Fin.val) F ∧ (∀ b, F b → w.heap.size ≤ b) ∧ Below w.heap.size w w' := by
  obtain ⟨W1, hW1, b1, hz1, rg, rl⟩ := two_rows w #[.slice GA gs.length gc] #[.slice LA l.length lc] 32 25
  have cG : W1.cell? ⟨w.heap.size, 0, none⟩ = some (.slice GA gs.length gc) := rg.cell (j := 0) rfl
  have cL : W1.cell? ⟨w.heap.size + 1, 0, none⟩ = some (.slice LA l.length lc) := rl.cell (j := 0) rfl
  have hmf : ∀ (fn : Fn) (first cap : Array Value) (w : World), (Instr.makeFunc fn first cap).run Try.prog w = .ok (.func fn first cap) w := fun _ _ _ _ => rfl
  have hL1 := Kd.C_mono b1 hL
  have hG1 := Kd.C_mono b1 hG
  have hU1 := Kd.C_mono b1 hU
  have hulo : us.length ≤ 9223372036854775807 := by omega
  have HW := Lib.hid hw
  have HW1 := Lib.hid hW1
  have HCG := Lib.hid cG
  have HCL := Lib.hid cL
  have HUL := Lib.hid hul
  have HS1 := Lib.hid hs1
  clear hW1 hz1 rg rl hw cG cL hL hG hU hul hs1
  go_enter Try.func12, Try.ntmps12
  go_upto_region 1 with fail
  rw [← HW1.out]
  have ow := litN 3 W1 e
  have bq := below_alloc' W1 (.cells #[.int .i64 (e : Int)] 3)
  go_upto_region 2 with fail
  generalize W1.alloc (.cells #[.int .i64 (e : Int)] 3) = W2 at *
  have HOW := Lib.hid ow
  clear ow
  go_wp2_with fail
  go_loopw [9, 16] (fun v i wr => ∃ (k : Nat) (F : Nat → Prop), k ≤ us.length ∧ i = .int .i64 (k : Int) ∧ OwnF oN 3 wr v (e :: selN us e k) F ∧ (∀ b, F b → W1.heap.size ≤ b) ∧ Below W1.heap.size W1 wr) (fun _ i _ => us.length - (intOf i).toNat)
  case atStart => exact ⟨0, _, Nat.zero_le _, rfl, HOW.out, fun b hb => Nat.le_of_eq hb.symm, bq⟩
  case round =>
    obtain ⟨k, F, hk, rfl, ho, hF, hbr⟩ := hrel
    by_cases hlt : k < us.length
    · obtain ⟨u, hu⟩ := get_some us k hlt
      obtain ⟨ad, rfl, cu⟩ := useB_at (Kd.C_mono hbr hU1) hu
      have hsl := selN_len us e k
      have hgl' := HUL.out
      have HU := Lib.hid hu
      have HF := Lib.hid hF
      cases u with
      | false =>
        have hss : selN us e (k + 1) = selN us e k := by
          show selN us e k ++ _ = _
          rw [if_neg (fun h => by rw [hu] at h; cases h.1), List.append_nil]
        have HSS := Lib.hid hss
        have HO := Lib.hid ho
        clear hu hss ho hF hgl' hsl
        go_wp2_with fail
        exact ⟨⟨k + 1, F, by omega, by go_num, by rw [HSS.out]; exact HO.out, HF.out, hbr⟩, by simp [intOf]; omega⟩
      | true =>
        by_cases hke : k = e
        · have z1 : ((k : Int) != (e : Int)) = false := by simp [hke]
          have z1' : (k != e) = false := by simp [hke]
          have hss : selN us e (k + 1) = selN us e k := by
            show selN us e k ++ _ = _
            rw [if_neg (fun h => h.2 hke), List.append_nil]
          have HSS := Lib.hid hss
          have HO := Lib.hid ho
          clear hu hss hke ho hF hgl' hsl
          go_wp2_with fail
          exact ⟨⟨k + 1, F, by omega, by go_num, by rw [HSS.out]; exact HO.out, HF.out, hbr⟩, by simp [intOf]; omega⟩
        · have z1 : ((k : Int) != (e : Int)) = true := bne_iff_ne.2 (by omega)
          have z1' : (k != e) = true := bne_iff_ne.2 hke
          have hss : e :: selN us e (k + 1) = (e :: selN us e k) ++ [k] := by
            show e :: (selN us e k ++ _) = _
            rw [if_pos ⟨hu, hke⟩]
            rfl
          have b6 := below_alloc' wr (.cells #[.int .i64 (k : Int)] 3)
          have hY : YF oN (wr.alloc (.cells #[.int .i64 (k : Int)] 3)) (some ⟨wr.heap.size, 0, none⟩) [k] noF := YF.one rfl ⟨fun _ h => h, rfl⟩
          have ho6 := ho.below b6
          have hap : (e :: selN us e k).length + [k].length ≤ 100000000 := by simp; omega
          obtain ⟨ys, hys⟩ : ∃ ys, ys = e :: selN us e k := ⟨_, rfl⟩
          rw [← hys] at hss ho6 hap ho
          have HSS := Lib.hid hss
          have HAP := Lib.hid hap
          have HO6 := Lib.hid ho6
          have HB6 := Lib.hid b6
          have HRO := Lib.hid (fun (g : Nat) (hg : u9.ownBlock = some g) => ho.row hg)
          clear hu hss hke hap hys ho6 ho hF b6 hgl' hsl
          go_wp2_with (refine wpList_append_f (k := oN) elN rfl _ _ rfl (v := u9) (xs := ys) (ys := [k]) (F := F) (G := noF) HO6.out hY (fun _ _ h => h) rfl rfl HAP.out ?_; intro v9 w9 hg9)
          obtain ⟨⟨F9, own9, hF9⟩, hgr9⟩ := hg9
          exact ⟨⟨k + 1, F9, by omega, by go_num, by rw [HSS.out]; exact own9, fun b hb => by (rcases hF9 b hb with h | h | h; exact HF.out b h; exact h.elim; exact Nat.le_trans hbr.size (Nat.le_trans HB6.out.size h)), (hbr.trans (HB6.out.mono hbr.size)).grown hgr9 (Nat.le_trans hbr.size HB6.out.size) (fun j hj => HF.out j (HRO.out j hj))⟩, by simp [intOf]; omega⟩
    · obtain rfl : k = us.length := by omega
      obtain ⟨h1, h2⟩ := ho.nums
      obtain ⟨xs, hxs⟩ : ∃ xs, xs = finL gs.length (selN us e us.length) hsel := ⟨_, rfl⟩
      have hval : xs.map Fin.val = selN us e us.length := by rw [hxs]; exact finL_val hsel
      have hxl : xs.length = (selN us e us.length).length := by rw [hxs]; exact finL_len _
      have hsl := selN_len us e us.length
      have hgl' := HUL.out
      have hs1' := HS1.out
      rw [← hval] at h1
      have hlen : (e :: xs.map Fin.val).length = xs.length + 1 := by simp
      rw [hlen] at h1
      have h0 := h1
      obtain ⟨-, ⟨hv, hn⟩ | ⟨g, cap, cur, hv, -, hb, hcap, hm, -⟩⟩ := h1
      · omega
      subst hv
      have hgF : F g := (h2 g).2 rfl
      have hglt := ho.lt g hgF
      have hn20 : xs.toArray.size < 20 := by simp; omega
      have T : ∀ (q : Nat) (dk : Array (Fin gs.length)) (os : Array Obj), Below W1.heap.size W1 (sortWorld encF wr g 1 q dk os) := fun q dk os => hbr.grown (sortWorld_grown encF wr g 1 q dk os) hbr.size (fun j hj => by injection hj with hj; have := hF g hgF; omega)
      have eg : ∀ args w, (callFunc 24 args).run Try.prog w = .ok (.enter 24 args) w := enters_of Try.func24 (by kernel_rfl) rfl
      have hcmp : CmpLays1 Try.prog 24 #[.pointer (some ⟨w.heap.size + 1, 0, none⟩), .pointer (some ⟨w.heap.size, 0, none⟩)] encF (fun a b : Fin gs.length => cfT l gs a.1 b.1) g 1 xs.toArray.size wr := fun q os dk hs x y =>
        cmpT_calls LA lc l GA gc gs x.1 y.1 _ (w.heap.size + 1) w.heap.size (Kd.C_mono (T q dk os) hL1) HW.out hl (Kd.C_mono (T q dk os) hG1) ((Below.cell (T q dk os) (World.lt_of_cell HCL.out)).trans HCL.out) ((Below.cell (T q dk os) (World.lt_of_cell HCG.out)).trans HCG.out) x.2 y.2
      have con := stable_small (fun a b : Fin gs.length => cfT l gs a.1 b.1) 24 #[.pointer (some ⟨w.heap.size + 1, 0, none⟩), .pointer (some ⟨w.heap.size, 0, none⟩)] g 1 (cap - 1) xs.toArray wr eg hcmp ⟨encF_one, holdsN h0, hglt⟩ hn20
      change Calls Try.prog 23 #[.slice (some ⟨g, 1, none⟩) xs.length (cap - 1), .func (.func 24) #[] #[.pointer (some ⟨w.heap.size + 1, 0, none⟩), .pointer (some ⟨w.heap.size, 0, none⟩)]] wr _ at con
      have hso : sortT l gs gs.length xs = (insertionSort (ltOf (fun a b : Fin gs.length => cfT l gs a.1 b.1)) xs.toArray 0 xs.toArray.size).toList := rfl
      have hsz : (insertionSort (ltOf (fun a b : Fin gs.length => cfT l gs a.1 b.1)) xs.toArray 0 xs.toArray.size).size = xs.length := by rw [(Go.Sort.insertionSort_holds (swoT l gs gs.length) xs.toArray 0 xs.toArray.size (Nat.zero_le _) (Nat.le_refl _)).1.1]; simp
      generalize insertionSort (ltOf (fun a b : Fin gs.length => cfT l gs a.1 b.1)) xs.toArray 0 xs.toArray.size = dd at *
      have hcap1 : ¬ cap = 1 := by omega
      have hcap0 : xs.length ≤ cap - 1 := by omega
      have CON := Lib.hid con
      have HSO := Lib.hid hso
      have HSZ := Lib.hid hsz
      have HXS := Lib.hid hxs
      have H0 := Lib.hid h0
      have H2 := Lib.hid h2
      have hN : xs.length + 1 ≤ 9223372036854775807 := by omega
      clear con hso hsz hxs h0 h2 hval hxl hsl hgl' hs1' hlen hcmp eg T ho hn20 hm hb
      go_wp2_with fail
      refine CON.out.mono ?_
      rintro r w' ⟨rfl, q, os, hsw⟩
      have HSW := Lib.hid hsw
      clear hsw
      go_wp2_with fail
      go_ret
      obtain ⟨k1, k2⟩ := sortedN (q := q) (os := os) (ts := dd.toList) (by rw [Array.length_toList]; exact HSZ.out) H0.out
      rw [Array.toArray_toList, ← HSW.out] at k1 k2
      refine ⟨_, F, rfl, ?_, fun b hb => Nat.le_trans b1.size (hF b hb), b1.trans ((hbr.grown k2 hbr.size (fun j hj => by injection hj with hj; have := hF g hgF; omega)).mono b1.size)⟩
      rw [← HXS.out, HSO.out]
      refine OwnF.ofNums ?_ H2.out
      have e1 : (e :: dd.toList.map Fin.val).length = xs.length + 1 := by simp [HSZ.out]
      rw [e1]
      exact k1
end Go.Proofs.Ythnkikdbllkmkaa
