/- Layer 22's awake: its memory, and what becomes of its graph. Printed by genNl.py of this repository. -/
import Derived.Test.YtokkngfgppikkaaNk
import Derived.Test.YtokkngfgppikkaaDh
namespace Go.Proofs.Ytokkngfgppikkaa
set_option linter.unusedVariables false
set_option linter.unusedSimpArgs false
open Go.RowKit

/- What is reached, and what is live, by trying. -/
def edgesOf (bs : List Block) (x : Nat) : List Nat := match bs[x]? with
  | some b => (if b.fin.kind = 1 ∨ b.fin.kind = 2 then [b.fin.to.toNat] else []) ++ (if b.fin.kind = 2 then [b.fin.els.toNat] else [])
  | none => []
theorem tedge_iff {bs : List Block} (hl : Leads bs) {x y : Nat} : TEdge bs x y ↔ y ∈ edgesOf bs x := by
  unfold edgesOf TEdge
  cases hb : bs[x]? with
  | none => simp
  | some b =>
    have h := hl b (List.mem_of_getElem? hb)
    simp only [Option.some.injEq]
    rw [List.mem_append]
    constructor
    · rintro ⟨b', rfl, ⟨hk, e⟩ | ⟨hk, e⟩⟩
      · exact .inl (by rw [if_pos hk]; simp; omega)
      · exact .inr (by rw [if_pos hk]; simp; omega)
    · rintro (h1 | h1)
      · split at h1
        · rename_i hk
          have := h.1 hk
          simp at h1
          exact ⟨b, rfl, .inl ⟨hk, by omega⟩⟩
        · simp at h1
      · split at h1
        · rename_i hk
          have := h.2 hk
          simp at h1
          exact ⟨b, rfl, .inr ⟨hk, by omega⟩⟩
        · simp at h1
def reachOrd (bs : List Block) : List Nat → List Nat → Bool
  | _, [] => true
  | done, x :: r => done.any (fun y => (edgesOf bs y).contains x) && reachOrd bs (x :: done) r
theorem reachOrd_ok {bs : List Block} (hl : Leads bs) : ∀ (l done : List Nat), (∀ y ∈ done, ReachE (TEdge bs) 0 y) → reachOrd bs done l = true → ∀ x ∈ l, ReachE (TEdge bs) 0 x
  | [], _, _, _, x, hx => by simp at hx
  | z :: r, done, hd, h, x, hx => by
    unfold reachOrd at h
    rw [Bool.and_eq_true, List.any_eq_true] at h
    obtain ⟨⟨y, hy, he⟩, h2⟩ := h
    have hz : ReachE (TEdge bs) 0 z := (hd y hy).step ((tedge_iff hl).2 (by simpa using he))
    rw [List.mem_cons] at hx
    rcases hx with rfl | hx
    · exact hz
    · exact reachOrd_ok hl r (z :: done) (fun y hy => by
        rw [List.mem_cons] at hy
        rcases hy with rfl | hy
        · exact hz
        · exact hd y hy) h2 x hx
def reachC (bs : List Block) (seen : List Bool) (ord : List Nat) : Bool :=
  decide (seen.length = bs.length) && seen.getD 0 false && (List.range seen.length).all (fun x => !seen.getD x false || ((edgesOf bs x).all (fun y => seen.getD y false) && (x == 0 || ord.contains x))) && reachOrd bs [0] ord
theorem on_getD {xs : List Bool} {i : Nat} : On xs i ↔ xs.getD i false = true := by
  unfold On
  rw [List.getD_eq_getElem?_getD]
  cases xs[i]? with
  | none => simp
  | some b => simp
theorem reachC_ok {bs : List Block} (hl : Leads bs) {seen : List Bool} {ord : List Nat} (h : reachC bs seen ord = true) : IsReachE (TEdge bs) bs.length 0 seen := by
  unfold reachC at h
  rw [Bool.and_eq_true, Bool.and_eq_true, Bool.and_eq_true, decide_eq_true_eq, List.all_eq_true] at h
  obtain ⟨⟨⟨h1, h2⟩, h3⟩, h4⟩ := h
  have hord := reachOrd_ok hl ord [0] (fun y hy => by simp at hy; subst hy; exact .refl) h4
  have hall : ∀ x, On seen x → (∀ y, TEdge bs x y → On seen y) ∧ (x = 0 ∨ x ∈ ord) := fun x hx => by
    have := h3 x (by simp; exact hx.lt)
    rw [on_getD.1 hx] at this
    simp at this
    refine ⟨fun y hy => on_getD.2 ?_, this.2⟩
    have h5 := this.1 y ((tedge_iff hl).1 hy)
    rw [List.getD_eq_getElem?_getD]
    simpa using h5
  refine RSE.isReach ⟨h1, on_getD.2 h2, fun x hx => ?_⟩ (fun x y hx he => (hall x hx).1 y he)
  rcases (hall x hx).2 with rfl | h
  · exact .refl
  · exact hord x h
def liveRun (bs : List Block) : List Nat → List Nat → List Nat
  | [], ins => ins
  | k :: r, ins => liveRun bs r (match bs[k]? with | some b => ins.set k (aheadN b ins) | none => ins)
theorem liveRun_inv {bs : List Block} (hok : BsOk bs) : ∀ (l ins : List Nat), LiveI bs ins → LiveI bs (liveRun bs l ins)
  | [], _, h => h
  | k :: r, ins, h => by
    unfold liveRun
    cases hb : bs[k]? with
    | none => exact liveRun_inv hok r ins h
    | some b => exact liveRun_inv hok r _ (h.set hok hb)
def liveOf (bs : List Block) (l : List Nat) : List Nat := liveRun bs l (List.replicate bs.length 0)
def fixC (bs : List Block) (ins : List Nat) : Bool := (List.range bs.length).all (fun k => match bs[k]? with | some b => ins[k]? == some (aheadN b ins) | none => true)
theorem liveC_ok {bs : List Block} (hok : BsOk bs) (l : List Nat) (h : fixC bs (liveOf bs l) = true) : IsLive bs (liveOf bs l) := by
  refine ⟨liveRun_inv hok l _ (LiveI.start bs), fun k b hb => ?_⟩
  unfold fixC at h
  rw [List.all_eq_true] at h
  have := h k (by simp; exact (List.getElem?_eq_some_iff.1 hb).1)
  rw [hb] at this
  simpa using this
def cleanC (bs : List Block) (ins : List Nat) : Bool := bs.all (fun b => (List.range b.ops.length).all (fun q => match b.ops[q]? with | some o => !decide (idleO o (aheadOps (b.ops.drop (q + 1)) (endN b.fin ins))) | none => true))
theorem cleanC_ok {bs : List Block} {ins : List Nat} (hL : IsLive bs ins) (h : cleanC bs ins = true) : Normal bs := by
  refine normal_of_clean hL (fun k b hb p o q e => ?_)
  unfold cleanC at h
  rw [List.all_eq_true] at h
  have := h b (List.mem_of_getElem? hb)
  rw [List.all_eq_true] at this
  have := this p.length (by rw [e]; simp)
  rw [e] at this
  simp at this
  exact this

def aTwo : Op := ⟨⟨8, 1, 0, 0, 2⟩, false, 0, 0, 0⟩
def aThree : Op := ⟨⟨8, 1, 0, 0, 3⟩, false, 0, 0, 0⟩
def aB0 : Block := ⟨[aTwo, aThree], ⟨1, 0, 0, 0, 2, 0, ⟨0, 0, 0, 0, 0⟩⟩⟩
def aB1 : Block := ⟨[], ⟨1, 0, 0, 0, 0, 0, ⟨0, 0, 0, 0, 0⟩⟩⟩
def aB2 : Block := ⟨[], ⟨1, 0, 0, 0, 3, 0, ⟨0, 0, 0, 0, 0⟩⟩⟩
def aB3 : Block := ⟨[], ⟨3, 0, 0, 0, 0, 0, ⟨0, 1, 0, 0, 0⟩⟩⟩
def aBs : List Block := [aB0, aB1, aB2, aB3]
/-- Threaded. -/
def aT : List Block := [⟨[aTwo, aThree], jumpTo 3⟩, ⟨[], jumpTo 0⟩, ⟨[], jumpTo 3⟩, aB3]
/-- Trimmed. -/
def aU : List Block := [⟨[aTwo, aThree], jumpTo 1⟩, aB3]
/-- Swept. -/
def aOut : List Block := [⟨[aThree], jumpTo 1⟩, aB3]
theorem aOk : BsOk aBs := ⟨1000, 1000, by decide +kernel⟩
theorem aOkT : BsOk aT := ⟨1000, 1000, by decide +kernel⟩
theorem aOkU : BsOk aU := ⟨1000, 1000, by decide +kernel⟩
theorem aOkOut : BsOk aOut := ⟨1000, 1000, by decide +kernel⟩
theorem aFew : blocksFew aBs = true := by decide +kernel
theorem aThread : threadBs aBs = aT := by decide +kernel
theorem aThread2 : threadBs aOut = aOut := by decide +kernel
theorem aReach : IsReachE (TEdge aBs) aBs.length 0 [true, false, true, true] := reachC_ok aOk.leads (ord := [2, 3]) (by decide +kernel)
theorem aReachT : IsReachE (TEdge aT) aT.length 0 [true, false, false, true] := reachC_ok aOkT.leads (ord := [3]) (by decide +kernel)
theorem aReachOut : IsReachE (TEdge aOut) aOut.length 0 [true, true] := reachC_ok aOkOut.leads (ord := [1]) (by decide +kernel)
theorem aTrimT : trimBs [true, false, false, true] aT = aU := by decide +kernel
theorem aTrimOut : trimBs [true, true] aOut = aOut := by decide +kernel
theorem aTrim3 : (trimBs [true, false, true, true] aBs).length = 3 := by decide +kernel
theorem sweep_one {bs out : List Block} (hok : BsOk bs) (hok2 : BsOk out) (k : Nat) (b : Block) (p : List Op) (o : Op) (q : List Op) (l l2 : List Nat) (hb : bs[k]? = some b) (e : b.ops = p ++ o :: q) (h1 : fixC bs (liveOf bs l) = true) (h2 : idleO o (aheadOps q (endN b.fin (liveOf bs l)))) (e2 : bs.set k ⟨p ++ q, b.fin⟩ = out) (h3 : fixC out (liveOf out l2) = true) (h4 : cleanC out (liveOf out l2) = true) : Swept bs out :=
  ⟨SwR.refl.step ⟨k, b, p, o, q, _, hb, e, liveC_ok hok l h1, h2, e2.symm⟩, cleanC_ok (liveC_ok hok2 l2 h3) h4⟩
theorem aSweptU : Swept aU aOut := sweep_one aOkU aOkOut 0 ⟨[aTwo, aThree], jumpTo 1⟩ [] aTwo [aThree] [1, 0] [1, 0] rfl rfl (by decide +kernel) (by decide +kernel) rfl (by decide +kernel) (by decide +kernel)
def aSw : List Block := [⟨[aThree], aB0.fin⟩, aB1, aB2, aB3]
theorem aOkSw : BsOk aSw := ⟨1000, 1000, by decide +kernel⟩
theorem aSwept : Swept aBs aSw := sweep_one aOk aOkSw 0 aB0 [] aTwo [aThree] [3, 2, 1, 0, 1] [3, 2, 1, 0, 1] rfl rfl (by decide +kernel) (by decide +kernel) rfl (by decide +kernel) (by decide +kernel)
theorem aDead : DeadG aBs aOut := by
  refine ⟨[true, false, false, true], [true, true], aOut, ?_, ?_, ?_, ?_⟩
  · rw [aThread]; exact aReachT
  · rw [aThread, aTrimT]; exact aSweptU
  · rw [aThread2]; exact aReachOut
  · rw [aThread2, aTrimOut]
set_option maxRecDepth 100000 in
theorem awake22_mem (w : World) : ∃ W : World, W = (((((w.alloc (.cells #[.int .i64 8, .int .i64 1, .int .i64 0, .int .i64 0, .int .i64 2, .bool false, .int .i64 0, .int .i64 0, .int .i64 0] 44)).alloc (.cells #[.int .i64 8, .int .i64 1, .int .i64 0, .int .i64 0, .int .i64 3, .bool false, .int .i64 0, .int .i64 0, .int .i64 0] 44)).alloc (.cells #[.int .i64 8, .int .i64 1, .int .i64 0, .int .i64 0, .int .i64 2, .bool false, .int .i64 0, .int .i64 0, .int .i64 0, .int .i64 8, .int .i64 1, .int .i64 0, .int .i64 0, .int .i64 3, .bool false, .int .i64 0, .int .i64 0, .int .i64 0] 44)).alloc (.cells #[.slice (some ⟨w.heap.size + 1 + 1, 0, none⟩) 2 2, .int .i64 1, .int .i64 0, .int .i64 0, .int .i64 0, .int .i64 2, .int .i64 0, .int .i64 0, .int .i64 0, .int .i64 0, .int .i64 0, .int .i64 0, .slice none 0 0, .int .i64 1, .int .i64 0, .int .i64 0, .int .i64 0, .int .i64 0, .int .i64 0, .int .i64 0, .int .i64 0, .int .i64 0, .int .i64 0, .int .i64 0, .slice none 0 0, .int .i64 1, .int .i64 0, .int .i64 0, .int .i64 0, .int .i64 3, .int .i64 0, .int .i64 0, .int .i64 0, .int .i64 0, .int .i64 0, .int .i64 0, .slice none 0 0, .int .i64 3, .int .i64 0, .int .i64 0, .int .i64 0, .int .i64 0, .int .i64 0, .int .i64 0, .int .i64 1, .int .i64 0, .int .i64 0, .int .i64 0] 42)).alloc (.cells #[.string (⟨#[]⟩ : ByteArray), .bool false, .bool false, .slice (some ⟨w.heap.size + 1 + 1 + 1, 0, none⟩) 4 4] 33)) ∧ Row W (w.heap.size) 44 [.int .i64 8, .int .i64 1, .int .i64 0, .int .i64 0, .int .i64 2, .bool false, .int .i64 0, .int .i64 0, .int .i64 0] ∧ Row W (w.heap.size + 1) 44 [.int .i64 8, .int .i64 1, .int .i64 0, .int .i64 0, .int .i64 3, .bool false, .int .i64 0, .int .i64 0, .int .i64 0] ∧ kOp.C W (some ⟨w.heap.size + 1 + 1, 0, none⟩) [aTwo, aThree] ∧ kBlock.C W (some ⟨w.heap.size + 1 + 1 + 1, 0, none⟩) [aB0, aB1, aB2, aB3] ∧ Row W (w.heap.size + 1 + 1 + 1 + 1) 33 [.string (⟨#[]⟩ : ByteArray), .bool false, .bool false, .slice (some ⟨w.heap.size + 1 + 1 + 1, 0, none⟩) 4 4] ∧ Below w.heap.size w W ∧ W.heap.size = w.heap.size + 1 + 1 + 1 + 1 + 1 := by
  have e1 : (w.alloc (.cells #[.int .i64 8, .int .i64 1, .int .i64 0, .int .i64 0, .int .i64 2, .bool false, .int .i64 0, .int .i64 0, .int .i64 0] 44)).heap.size = w.heap.size + 1 := by simp
  have b1 := below_alloc' w (.cells #[.int .i64 8, .int .i64 1, .int .i64 0, .int .i64 0, .int .i64 2, .bool false, .int .i64 0, .int .i64 0, .int .i64 0] 44)
  have r0 : Row (w.alloc (.cells #[.int .i64 8, .int .i64 1, .int .i64 0, .int .i64 0, .int .i64 2, .bool false, .int .i64 0, .int .i64 0, .int .i64 0] 44)) (w.heap.size) 44 [.int .i64 8, .int .i64 1, .int .i64 0, .int .i64 0, .int .i64 2, .bool false, .int .i64 0, .int .i64 0, .int .i64 0] := Row.new w _ _
  generalize (w.alloc (.cells #[.int .i64 8, .int .i64 1, .int .i64 0, .int .i64 0, .int .i64 2, .bool false, .int .i64 0, .int .i64 0, .int .i64 0] 44)) = W1 at *
  have e2 : (W1.alloc (.cells #[.int .i64 8, .int .i64 1, .int .i64 0, .int .i64 0, .int .i64 3, .bool false, .int .i64 0, .int .i64 0, .int .i64 0] 44)).heap.size = w.heap.size + 1 + 1 := by simp [e1]
  have b2 := below_alloc' W1 (.cells #[.int .i64 8, .int .i64 1, .int .i64 0, .int .i64 0, .int .i64 3, .bool false, .int .i64 0, .int .i64 0, .int .i64 0] 44)
  have r1 : Row (W1.alloc (.cells #[.int .i64 8, .int .i64 1, .int .i64 0, .int .i64 0, .int .i64 3, .bool false, .int .i64 0, .int .i64 0, .int .i64 0] 44)) (w.heap.size + 1) 44 [.int .i64 8, .int .i64 1, .int .i64 0, .int .i64 0, .int .i64 3, .bool false, .int .i64 0, .int .i64 0, .int .i64 0] := by have := Row.new W1 44 #[.int .i64 8, .int .i64 1, .int .i64 0, .int .i64 0, .int .i64 3, .bool false, .int .i64 0, .int .i64 0, .int .i64 0]; rw [e1] at this; exact this
  replace r0 := r0.below b2
  generalize (W1.alloc (.cells #[.int .i64 8, .int .i64 1, .int .i64 0, .int .i64 0, .int .i64 3, .bool false, .int .i64 0, .int .i64 0, .int .i64 0] 44)) = W2 at *
  have e3 : (W2.alloc (.cells #[.int .i64 8, .int .i64 1, .int .i64 0, .int .i64 0, .int .i64 2, .bool false, .int .i64 0, .int .i64 0, .int .i64 0, .int .i64 8, .int .i64 1, .int .i64 0, .int .i64 0, .int .i64 3, .bool false, .int .i64 0, .int .i64 0, .int .i64 0] 44)).heap.size = w.heap.size + 1 + 1 + 1 := by simp [e2]
  have b3 := below_alloc' W2 (.cells #[.int .i64 8, .int .i64 1, .int .i64 0, .int .i64 0, .int .i64 2, .bool false, .int .i64 0, .int .i64 0, .int .i64 0, .int .i64 8, .int .i64 1, .int .i64 0, .int .i64 0, .int .i64 3, .bool false, .int .i64 0, .int .i64 0, .int .i64 0] 44)
  have c2 : kOp.C (W2.alloc (.cells #[.int .i64 8, .int .i64 1, .int .i64 0, .int .i64 0, .int .i64 2, .bool false, .int .i64 0, .int .i64 0, .int .i64 0, .int .i64 8, .int .i64 1, .int .i64 0, .int .i64 0, .int .i64 3, .bool false, .int .i64 0, .int .i64 0, .int .i64 0] 44)) (some ⟨w.heap.size + 1 + 1, 0, none⟩) [aTwo, aThree] := by
    refine C_lit kOp W2 _ e2.symm _ [aTwo, aThree] [[.int .i64 8, .int .i64 1, .int .i64 0, .int .i64 0, .int .i64 2, .bool false, .int .i64 0, .int .i64 0, .int .i64 0], [.int .i64 8, .int .i64 1, .int .i64 0, .int .i64 0, .int .i64 3, .bool false, .int .i64 0, .int .i64 0, .int .i64 0]] _ rfl rfl ?_
    intro i x cs hx hc
    match i with
    | 0 => simp at hx hc; subst hx hc; exact kOp_mk W2 aTwo (by unfold Op.wf; decide)
    | 1 => simp at hx hc; subst hx hc; exact kOp_mk W2 aThree (by unfold Op.wf; decide)
    | i + 2 => simp at hx
  replace r0 := r0.below b3
  replace r1 := r1.below b3
  generalize (W2.alloc (.cells #[.int .i64 8, .int .i64 1, .int .i64 0, .int .i64 0, .int .i64 2, .bool false, .int .i64 0, .int .i64 0, .int .i64 0, .int .i64 8, .int .i64 1, .int .i64 0, .int .i64 0, .int .i64 3, .bool false, .int .i64 0, .int .i64 0, .int .i64 0] 44)) = W3 at *
  have e4 : (W3.alloc (.cells #[.slice (some ⟨w.heap.size + 1 + 1, 0, none⟩) 2 2, .int .i64 1, .int .i64 0, .int .i64 0, .int .i64 0, .int .i64 2, .int .i64 0, .int .i64 0, .int .i64 0, .int .i64 0, .int .i64 0, .int .i64 0, .slice none 0 0, .int .i64 1, .int .i64 0, .int .i64 0, .int .i64 0, .int .i64 0, .int .i64 0, .int .i64 0, .int .i64 0, .int .i64 0, .int .i64 0, .int .i64 0, .slice none 0 0, .int .i64 1, .int .i64 0, .int .i64 0, .int .i64 0, .int .i64 3, .int .i64 0, .int .i64 0, .int .i64 0, .int .i64 0, .int .i64 0, .int .i64 0, .slice none 0 0, .int .i64 3, .int .i64 0, .int .i64 0, .int .i64 0, .int .i64 0, .int .i64 0, .int .i64 0, .int .i64 1, .int .i64 0, .int .i64 0, .int .i64 0] 42)).heap.size = w.heap.size + 1 + 1 + 1 + 1 := by simp [e3]
  have b4 := below_alloc' W3 (.cells #[.slice (some ⟨w.heap.size + 1 + 1, 0, none⟩) 2 2, .int .i64 1, .int .i64 0, .int .i64 0, .int .i64 0, .int .i64 2, .int .i64 0, .int .i64 0, .int .i64 0, .int .i64 0, .int .i64 0, .int .i64 0, .slice none 0 0, .int .i64 1, .int .i64 0, .int .i64 0, .int .i64 0, .int .i64 0, .int .i64 0, .int .i64 0, .int .i64 0, .int .i64 0, .int .i64 0, .int .i64 0, .slice none 0 0, .int .i64 1, .int .i64 0, .int .i64 0, .int .i64 0, .int .i64 3, .int .i64 0, .int .i64 0, .int .i64 0, .int .i64 0, .int .i64 0, .int .i64 0, .slice none 0 0, .int .i64 3, .int .i64 0, .int .i64 0, .int .i64 0, .int .i64 0, .int .i64 0, .int .i64 0, .int .i64 1, .int .i64 0, .int .i64 0, .int .i64 0] 42)
  have c3 : kBlock.C (W3.alloc (.cells #[.slice (some ⟨w.heap.size + 1 + 1, 0, none⟩) 2 2, .int .i64 1, .int .i64 0, .int .i64 0, .int .i64 0, .int .i64 2, .int .i64 0, .int .i64 0, .int .i64 0, .int .i64 0, .int .i64 0, .int .i64 0, .slice none 0 0, .int .i64 1, .int .i64 0, .int .i64 0, .int .i64 0, .int .i64 0, .int .i64 0, .int .i64 0, .int .i64 0, .int .i64 0, .int .i64 0, .int .i64 0, .slice none 0 0, .int .i64 1, .int .i64 0, .int .i64 0, .int .i64 0, .int .i64 3, .int .i64 0, .int .i64 0, .int .i64 0, .int .i64 0, .int .i64 0, .int .i64 0, .slice none 0 0, .int .i64 3, .int .i64 0, .int .i64 0, .int .i64 0, .int .i64 0, .int .i64 0, .int .i64 0, .int .i64 1, .int .i64 0, .int .i64 0, .int .i64 0] 42)) (some ⟨w.heap.size + 1 + 1 + 1, 0, none⟩) [aB0, aB1, aB2, aB3] := by
    refine C_lit kBlock W3 _ e3.symm _ [aB0, aB1, aB2, aB3] [[.slice (some ⟨w.heap.size + 1 + 1, 0, none⟩) 2 2, .int .i64 1, .int .i64 0, .int .i64 0, .int .i64 0, .int .i64 2, .int .i64 0, .int .i64 0, .int .i64 0, .int .i64 0, .int .i64 0, .int .i64 0], [.slice none 0 0, .int .i64 1, .int .i64 0, .int .i64 0, .int .i64 0, .int .i64 0, .int .i64 0, .int .i64 0, .int .i64 0, .int .i64 0, .int .i64 0, .int .i64 0], [.slice none 0 0, .int .i64 1, .int .i64 0, .int .i64 0, .int .i64 0, .int .i64 3, .int .i64 0, .int .i64 0, .int .i64 0, .int .i64 0, .int .i64 0, .int .i64 0], [.slice none 0 0, .int .i64 3, .int .i64 0, .int .i64 0, .int .i64 0, .int .i64 0, .int .i64 0, .int .i64 0, .int .i64 1, .int .i64 0, .int .i64 0, .int .i64 0]] _ rfl rfl ?_
    intro i x cs hx hc
    match i with
    | 0 => simp at hx hc; subst hx hc; exact kBlock_mk W3 aB0 (c0 := 2) (by unfold Block.wf; decide) (by decide) (by decide) c2
    | 1 => simp at hx hc; subst hx hc; exact kBlock_mk W3 aB1 (A0 := none) (c0 := 0) (by unfold Block.wf; decide) (by decide) (by decide) (C_nil kOp W3 none)
    | 2 => simp at hx hc; subst hx hc; exact kBlock_mk W3 aB2 (A0 := none) (c0 := 0) (by unfold Block.wf; decide) (by decide) (by decide) (C_nil kOp W3 none)
    | 3 => simp at hx hc; subst hx hc; exact kBlock_mk W3 aB3 (A0 := none) (c0 := 0) (by unfold Block.wf; decide) (by decide) (by decide) (C_nil kOp W3 none)
    | i + 4 => simp at hx
  replace r0 := r0.below b4
  replace r1 := r1.below b4
  replace c2 := Kd.C_mono b4 c2
  generalize (W3.alloc (.cells #[.slice (some ⟨w.heap.size + 1 + 1, 0, none⟩) 2 2, .int .i64 1, .int .i64 0, .int .i64 0, .int .i64 0, .int .i64 2, .int .i64 0, .int .i64 0, .int .i64 0, .int .i64 0, .int .i64 0, .int .i64 0, .slice none 0 0, .int .i64 1, .int .i64 0, .int .i64 0, .int .i64 0, .int .i64 0, .int .i64 0, .int .i64 0, .int .i64 0, .int .i64 0, .int .i64 0, .int .i64 0, .slice none 0 0, .int .i64 1, .int .i64 0, .int .i64 0, .int .i64 0, .int .i64 3, .int .i64 0, .int .i64 0, .int .i64 0, .int .i64 0, .int .i64 0, .int .i64 0, .slice none 0 0, .int .i64 3, .int .i64 0, .int .i64 0, .int .i64 0, .int .i64 0, .int .i64 0, .int .i64 0, .int .i64 1, .int .i64 0, .int .i64 0, .int .i64 0] 42)) = W4 at *
  have e5 : (W4.alloc (.cells #[.string (⟨#[]⟩ : ByteArray), .bool false, .bool false, .slice (some ⟨w.heap.size + 1 + 1 + 1, 0, none⟩) 4 4] 33)).heap.size = w.heap.size + 1 + 1 + 1 + 1 + 1 := by simp [e4]
  have b5 := below_alloc' W4 (.cells #[.string (⟨#[]⟩ : ByteArray), .bool false, .bool false, .slice (some ⟨w.heap.size + 1 + 1 + 1, 0, none⟩) 4 4] 33)
  have r4 : Row (W4.alloc (.cells #[.string (⟨#[]⟩ : ByteArray), .bool false, .bool false, .slice (some ⟨w.heap.size + 1 + 1 + 1, 0, none⟩) 4 4] 33)) (w.heap.size + 1 + 1 + 1 + 1) 33 [.string (⟨#[]⟩ : ByteArray), .bool false, .bool false, .slice (some ⟨w.heap.size + 1 + 1 + 1, 0, none⟩) 4 4] := by have := Row.new W4 33 #[.string (⟨#[]⟩ : ByteArray), .bool false, .bool false, .slice (some ⟨w.heap.size + 1 + 1 + 1, 0, none⟩) 4 4]; rw [e4] at this; exact this
  replace r0 := r0.below b5
  replace r1 := r1.below b5
  replace c2 := Kd.C_mono b5 c2
  replace c3 := Kd.C_mono b5 c3
  generalize (W4.alloc (.cells #[.string (⟨#[]⟩ : ByteArray), .bool false, .bool false, .slice (some ⟨w.heap.size + 1 + 1 + 1, 0, none⟩) 4 4] 33)) = W5 at *
  exact ⟨_, rfl, r0, r1, c2, c3, r4, (b1.trans ((b2.trans ((b3.trans ((b4.trans (b5.mono b4.size)).mono b3.size)).mono b2.size)).mono b1.size)), e5⟩
end Go.Proofs.Ytokkngfgppikkaa
