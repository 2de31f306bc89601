/- chain.Funcs. -/
import Derived.Test.YthnkikdbllkmkaaYn
import Derived.Test.YthnkikdbllkmkaaZi
namespace Go.Proofs.Ythnkikdbllkmkaa
set_option linter.unusedVariables false
set_option linter.unusedSimpArgs false
open Go.RowKit Go.Lib
open Go.Sort (grow putRow Holds putCells mapBlock onCells heap_grow_old insertionSort PermIn)

/-- Heavier first, then in order. -/
def totR (l : List Edge) (gs : List Graph) (x y : Nat) : Prop := totN l gs y < totN l gs x ∨ (totN l gs x = totN l gs y ∧ x < y)
theorem stbT (l : List Edge) (gs : List Graph) {m : Nat} : Stb (ltOf (fun a b : Fin m => cfT l gs a.1 b.1)) (fun a b => totR l gs a.1 b.1) (fun a b => a.1 < b.1) where
  trans x y z h1 h2 := by unfold totR at *; omega
  yes x y h1 h2 := by rw [ltOf_cfT] at h2; left; exact of_decide_eq_true h2
  no x y h1 h2 := by rw [ltOf_cfT] at h2; have := of_decide_eq_false h2; unfold totR; omega
theorem selN_up (us : List Bool) (e : Nat) : ∀ k, (selN us e k).Pairwise (· < ·)
  | 0 => List.Pairwise.nil
  | k + 1 => by
    show (selN us e k ++ _).Pairwise _
    rw [List.pairwise_append]
    refine ⟨selN_up us e k, by split <;> simp, fun x hx y hy => ?_⟩
    split at hy
    · rw [List.mem_singleton] at hy
      subst hy
      exact selN_lt us e _ x hx
    · cases hy
theorem srt_toArray {α : Type} [Inhabited α] {q : α → α → Prop} {xs : List α} (h : xs.Pairwise q) : Srt q 0 xs.length xs.toArray := fun i j _ hij hj => by
  rw [List.pairwise_iff_getElem] at h
  have := h i j (by omega) hj hij
  simpa [getElem!_pos, hj, show i < xs.length by omega] using this
theorem srt_toList {α : Type} [Inhabited α] {r : α → α → Prop} {d : Array α} {n : Nat} (h : Srt r 0 n d) (hn : d.size = n) : d.toList.Pairwise r := by
  rw [List.pairwise_iff_getElem]
  intro i j hi hj hij
  rw [Array.length_toList] at hi hj
  have := h i j (Nat.zero_le _) hij (by omega)
  simpa [getElem!_pos, hi, hj] using this
theorem perm_toList {α : Type} [Inhabited α] {xs : List α} {d : Array α} (h : PermIn 0 xs.length xs.toArray d) (hn : d.size = xs.length) : d.toList.Perm xs := by
  have := h.2.2
  rw [show xs.toArray.extract 0 xs.length = xs.toArray from by simp, show d.extract 0 xs.length = d from by rw [← hn]; simp] at this
  exact this

set_option maxHeartbeats 3000000 in
set_option maxRecDepth 100000 in
theorem funcs_calls (GA : Option Addr) (gc : Nat) (gs : List Graph) (e : Nat) (LA : Option Addr) (lc : Nat) (l : List Edge) (UA : Option Addr) (uc : Nat) (us : List Bool) (w : World) (he : e < gs.length) (hG : kGraph.C w GA gs) (hL : kEdge.C w LA l) (hw : ∀ e ∈ l, e.wf) (hl : l.length ≤ maxLen) (hU : Kd.bool.C w UA us) (hul : us.length = gs.length) (hgl : gs.length ≤ 1000) :
    Calls Try.prog 12 #[.slice GA gs.length gc, .int .i64 (e : Int), .slice LA l.length lc, .slice UA us.length uc] w fun r w' =>
      ∃ v F ts, r = .returned v ∧ OwnF oN 3 w' v (e :: ts) F ∧ (∀ b, F b → w.heap.size ≤ b) ∧ Below w.heap.size w w' ∧ ts.Perm (selN us e us.length) ∧ ts.Pairwise (totR l gs) := by
  haveI hinh : Inhabited (Fin gs.length) := ⟨⟨e, he⟩⟩
  have hsel : ∀ x ∈ selN us e us.length, x < gs.length := fun x hx => by rw [← hul]; exact selN_lt us e _ x hx
  obtain ⟨W1, hW1, b1, hz1, rg, rl⟩ := two_rows w #[.slice GA gs.length gc] #[.slice LA l.length lc] 32 25
  have cG : W1.cell? ⟨w.heap.size, 0, none⟩ = some (.slice GA gs.length gc) := rg.cell (j := 0) rfl
  have cL : W1.cell? ⟨w.heap.size + 1, 0, none⟩ = some (.slice LA l.length lc) := rl.cell (j := 0) rfl
  have hmf : ∀ (fn : Fn) (first cap : Array Value) (w : World), (Instr.makeFunc fn first cap).run Try.prog w = .ok (.func fn first cap) w := fun _ _ _ _ => rfl
  have hL1 := Kd.C_mono b1 hL
  have hG1 := Kd.C_mono b1 hG
  have hU1 := Kd.C_mono b1 hU
  have hulo : us.length ≤ 9223372036854775807 := by omega
  have HW := Lib.hid hw
  have HW1 := Lib.hid hW1
  have HCG := Lib.hid cG
  have HCL := Lib.hid cL
  have HUL := Lib.hid hul
  clear hW1 hz1 rg rl hw cG cL hL hG hU hul
  go_enter Try.func12, Try.ntmps12
  go_upto_region 1 with fail
  rw [← HW1.out]
  have ow := litN 3 W1 e
  have bq := below_alloc' W1 (.cells #[.int .i64 (e : Int)] 3)
  go_upto_region 2 with fail
  generalize W1.alloc (.cells #[.int .i64 (e : Int)] 3) = W2 at *
  have HOW := Lib.hid ow
  clear ow
  go_wp2_with fail
  go_loopw [9, 16] (fun v i wr => ∃ (k : Nat) (F : Nat → Prop), k ≤ us.length ∧ i = .int .i64 (k : Int) ∧ OwnF oN 3 wr v (e :: selN us e k) F ∧ (∀ b, F b → W1.heap.size ≤ b) ∧ Below W1.heap.size W1 wr) (fun _ i _ => us.length - (intOf i).toNat)
  case atStart => exact ⟨0, _, Nat.zero_le _, rfl, HOW.out, fun b hb => Nat.le_of_eq hb.symm, bq⟩
  case round =>
    obtain ⟨k, F, hk, rfl, ho, hF, hbr⟩ := hrel
    by_cases hlt : k < us.length
    · obtain ⟨u, hu⟩ := get_some us k hlt
      obtain ⟨ad, rfl, cu⟩ := useB_at (Kd.C_mono hbr hU1) hu
      have hsl := selN_len us e k
      have hgl' := HUL.out
      have HU := Lib.hid hu
      have HF := Lib.hid hF
      cases u with
      | false =>
        have hss : selN us e (k + 1) = selN us e k := by
          show selN us e k ++ _ = _
          rw [if_neg (fun h => by rw [hu] at h; cases h.1), List.append_nil]
        have HSS := Lib.hid hss
        have HO := Lib.hid ho
        clear hu hss ho hF hgl' hsl
        go_wp2_with fail
        exact ⟨⟨k + 1, F, by omega, by go_num, by rw [HSS.out]; exact HO.out, HF.out, hbr⟩, by simp [intOf]; omega⟩
      | true =>
        by_cases hke : k = e
        · have z1 : ((k : Int) != (e : Int)) = false := by simp [hke]
          have z1' : (k != e) = false := by simp [hke]
          have hss : selN us e (k + 1) = selN us e k := by
            show selN us e k ++ _ = _
            rw [if_neg (fun h => h.2 hke), List.append_nil]
          have HSS := Lib.hid hss
          have HO := Lib.hid ho
          clear hu hss hke ho hF hgl' hsl
          go_wp2_with fail
          exact ⟨⟨k + 1, F, by omega, by go_num, by rw [HSS.out]; exact HO.out, HF.out, hbr⟩, by simp [intOf]; omega⟩
        · have z1 : ((k : Int) != (e : Int)) = true := bne_iff_ne.2 (by omega)
          have z1' : (k != e) = true := bne_iff_ne.2 hke
          have hss : e :: selN us e (k + 1) = (e :: selN us e k) ++ [k] := by
            show e :: (selN us e k ++ _) = _
            rw [if_pos ⟨hu, hke⟩]
            rfl
          have b6 := below_alloc' wr (.cells #[.int .i64 (k : Int)] 3)
          have hY : YF oN (wr.alloc (.cells #[.int .i64 (k : Int)] 3)) (some ⟨wr.heap.size, 0, none⟩) [k] noF := YF.one rfl ⟨fun _ h => h, rfl⟩
          have ho6 := ho.below b6
          have hap : (e :: selN us e k).length + [k].length ≤ 100000000 := by simp; omega
          obtain ⟨ys, hys⟩ : ∃ ys, ys = e :: selN us e k := ⟨_, rfl⟩
          rw [← hys] at hss ho6 hap ho
          have HSS := Lib.hid hss
          have HAP := Lib.hid hap
          have HO6 := Lib.hid ho6
          have HB6 := Lib.hid b6
          have HRO := Lib.hid (fun (g : Nat) (hg : u9.ownBlock = some g) => ho.row hg)
          clear hu hss hke hap hys ho6 ho hF b6 hgl' hsl
          go_wp2_with (refine wpList_append_f (k := oN) elN rfl _ _ rfl (v := u9) (xs := ys) (ys := [k]) (F := F) (G := noF) HO6.out hY (fun _ _ h => h) rfl rfl HAP.out ?_; intro v9 w9 hg9)
          obtain ⟨⟨F9, own9, hF9⟩, hgr9⟩ := hg9
          exact ⟨⟨k + 1, F9, by omega, by go_num, by rw [HSS.out]; exact own9, fun b hb => by (rcases hF9 b hb with h | h | h; exact HF.out b h; exact h.elim; exact Nat.le_trans hbr.size (Nat.le_trans HB6.out.size h)), (hbr.trans (HB6.out.mono hbr.size)).grown hgr9 (Nat.le_trans hbr.size HB6.out.size) (fun j hj => HF.out j (HRO.out j hj))⟩, by simp [intOf]; omega⟩
    · obtain rfl : k = us.length := by omega
      obtain ⟨h1, h2⟩ := ho.nums
      obtain ⟨xs, hxs⟩ : ∃ xs, xs = finL gs.length (selN us e us.length) hsel := ⟨_, rfl⟩
      have hval : xs.map Fin.val = selN us e us.length := by rw [hxs]; exact finL_val hsel
      have hxl : xs.length = (selN us e us.length).length := by rw [hxs]; exact finL_len _
      have hsl := selN_len us e us.length
      have hgl' := HUL.out
      rw [← hval] at h1
      have hlen : (e :: xs.map Fin.val).length = xs.length + 1 := by simp
      rw [hlen] at h1
      have h0 := h1
      obtain ⟨-, ⟨hv, hn⟩ | ⟨g, cap, cur, hv, -, hb, hcap, hm, -⟩⟩ := h1
      · omega
      subst hv
      have hgF : F g := (h2 g).2 rfl
      have hglt := ho.lt g hgF
      by_cases hx0 : xs.length = 0
      · have hxn : xs = [] := List.length_eq_zero_iff.1 hx0
        subst hxn
        have HO := Lib.hid ho
        have HV := Lib.hid hval
        have HF := Lib.hid hF
        have hnil : selN us e us.length = [] := HV.out.symm
        have HO' : Hid (OwnF oN 3 wr (.slice (some ⟨g, 0, none⟩) 1 cap) [e] F) := by
          have h := HO.out
          rw [hnil] at h
          exact Lib.hid h
        have HN := Lib.hid hnil
        clear hxs hval hxl hsl hgl' hlen hb hm h0 h2 ho hF HO HV hnil
        by_cases hc1 : cap = 1
        · subst hc1
          go_wp2_with fail
          refine (sortStable_none _ _ _ _).mono ?_
          rintro r w' ⟨rfl, rfl⟩
          go_wp2_with fail
          go_ret
          refine ⟨_, F, [], rfl, ?_, fun b hb => Nat.le_trans b1.size (HF.out b hb), b1.trans (hbr.mono b1.size), by rw [HN.out], List.Pairwise.nil⟩
          exact HO'.out
        · go_wp2_with fail
          refine (sortStable_none _ _ _ _).mono ?_
          rintro r w' ⟨rfl, rfl⟩
          go_wp2_with fail
          go_ret
          refine ⟨_, F, [], rfl, ?_, fun b hb => Nat.le_trans b1.size (HF.out b hb), b1.trans (hbr.mono b1.size), by rw [HN.out], List.Pairwise.nil⟩
          exact HO'.out
      have T : ∀ (q : Nat) (dk : Array (Fin gs.length)) (os : Array Obj), Below W1.heap.size W1 (sortWorld encF wr g 1 q dk os) := fun q dk os => hbr.grown (sortWorld_grown encF wr g 1 q dk os) hbr.size (fun j hj => by injection hj with hj; have := hF g hgF; omega)
      have eg : ∀ args w, (callFunc 24 args).run Try.prog w = .ok (.enter 24 args) w := enters_of Try.func24 (by kernel_rfl) rfl
      have hcmp : CmpLays1 Try.prog 24 #[.pointer (some ⟨w.heap.size + 1, 0, none⟩), .pointer (some ⟨w.heap.size, 0, none⟩)] encF (fun a b : Fin gs.length => cfT l gs a.1 b.1) g 1 xs.toArray.size wr := fun q os dk hs x y =>
        cmpT_calls LA lc l GA gc gs x.1 y.1 _ (w.heap.size + 1) w.heap.size (Kd.C_mono (T q dk os) hL1) HW.out hl (Kd.C_mono (T q dk os) hG1) ((Below.cell (T q dk os) (World.lt_of_cell HCL.out)).trans HCL.out) ((Below.cell (T q dk os) (World.lt_of_cell HCG.out)).trans HCG.out) x.2 y.2
      have hup : xs.Pairwise (fun a b => a.1 < b.1) := by
        have := selN_up us e us.length
        rw [← hval, List.pairwise_map] at this
        exact this
      have con := sortStable_calls encF (fun a b : Fin gs.length => cfT l gs a.1 b.1) (stbT l gs) 24 #[.pointer (some ⟨w.heap.size + 1, 0, none⟩), .pointer (some ⟨w.heap.size, 0, none⟩)] g 1 (cap - 1) xs.length xs.toArray wr eg hcmp ⟨encF_one, holdsN h0, hglt⟩ (by simp) (by omega) (srt_toArray hup)
      have CON := Lib.hid con
      have HXS := Lib.hid hval
      have H0 := Lib.hid h0
      have H2 := Lib.hid h2
      have hN : xs.length + 1 ≤ 9223372036854775807 := by omega
      have hcap1 : ¬ cap = 1 := by omega
      have hcap0 : xs.length ≤ cap - 1 := by omega
      clear con h0 h2 hval hxl hsl hgl' hlen hcmp eg T ho hm hb hxs hup
      go_wp2_with fail
      refine CON.out.mono ?_
      rintro r w' ⟨rfl, dd, ⟨hp, hs⟩, q, os, hsw⟩
      have HSW := Lib.hid hsw
      have HP := Lib.hid hp
      have HSS := Lib.hid hs
      clear hsw hp hs
      go_wp2_with fail
      go_ret
      have hsz : dd.size = xs.length := by rw [HP.out.1]; simp
      obtain ⟨k1, k2⟩ := sortedN (q := q) (os := os) (ts := dd.toList) (by rw [Array.length_toList]; exact hsz) H0.out
      rw [Array.toArray_toList, ← HSW.out] at k1 k2
      refine ⟨_, F, dd.toList.map Fin.val, rfl, ?_, fun b hb => Nat.le_trans b1.size (hF b hb), b1.trans ((hbr.grown k2 hbr.size (fun j hj => by injection hj with hj; have := hF g hgF; omega)).mono b1.size), ?_, ?_⟩
      · refine OwnF.ofNums ?_ H2.out
        have e1 : (e :: dd.toList.map Fin.val).length = xs.length + 1 := by simp [hsz]
        rw [e1]
        exact k1
      · rw [← HXS.out]
        exact (perm_toList HP.out hsz).map _
      · rw [List.pairwise_map]
        exact srt_toList HSS.out hsz
end Go.Proofs.Ythnkikdbllkmkaa
