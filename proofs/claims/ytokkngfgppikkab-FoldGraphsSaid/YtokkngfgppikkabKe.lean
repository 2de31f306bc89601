/- Plain: what is known of registers, joined; when it is right. -/
import Derived.Test.YtokkngfgppikkabKc
namespace Go.Proofs.Ytokkngfgppikkab
set_option linter.unusedVariables false
set_option linter.unusedSimpArgs false

def Known.isAt (k : Known) (r : Nat) : Bool := k.is.getD r false
def Known.wAt (k : Known) (r : Nat) : Nat := k.w.getD r 0
def mkK (re : Bool) (f : Nat → Bool) (g : Nat → Nat) : Known := ⟨re, (List.range 16).map f, (List.range 16).map g⟩
theorem mkK_wf {re : Bool} {f : Nat → Bool} {g : Nat → Nat} (h : ∀ r, r < 16 → g r < 4294967296) : (mkK re f g).wf := ⟨by simp [mkK], by simp [mkK], fun x hx => by
  obtain ⟨r, hr, rfl⟩ := List.mem_map.1 hx
  exact h r (List.mem_range.1 hr)⟩
theorem mkK_is (re : Bool) (f : Nat → Bool) (g : Nat → Nat) {r : Nat} (h : r < 16) : (mkK re f g).isAt r = f r := by
  unfold Known.isAt mkK
  rw [List.getD_eq_getElem?_getD, List.getElem?_map, List.getElem?_range h]
  rfl
theorem mkK_w (re : Bool) (f : Nat → Bool) (g : Nat → Nat) {r : Nat} (h : r < 16) : (mkK re f g).wAt r = g r := by
  unfold Known.wAt mkK
  rw [List.getD_eq_getElem?_getD, List.getElem?_map, List.getElem?_range h]
  rfl
theorem Known.is_get {k : Known} (h : k.wf) {r : Nat} (hr : r < 16) : k.is[r]? = some (k.isAt r) := by
  unfold Known.isAt
  obtain ⟨x, hx⟩ := get_some k.is r (by rw [h.1]; exact hr)
  rw [List.getD_eq_getElem?_getD, hx]
  rfl
theorem Known.w_get {k : Known} (h : k.wf) {r : Nat} (hr : r < 16) : k.w[r]? = some (k.wAt r) := by
  unfold Known.wAt
  obtain ⟨x, hx⟩ := get_some k.w r (by rw [h.2.1]; exact hr)
  rw [List.getD_eq_getElem?_getD, hx]
  rfl
theorem Known.w_lt {k : Known} (h : k.wf) (r : Nat) : k.wAt r < 4294967296 := by
  unfold Known.wAt
  rw [List.getD_eq_getElem?_getD]
  cases hx : k.w[r]? with
  | none => decide
  | some x => exact h.2.2 x (List.mem_of_getElem? hx)
theorem Known.ext16 {a b : Known} (ha : a.wf) (hb : b.wf) (h0 : a.reached = b.reached) (h1 : ∀ r, r < 16 → a.isAt r = b.isAt r) (h2 : ∀ r, r < 16 → a.wAt r = b.wAt r) : a = b := by
  have e1 : a.is = b.is := by
    apply List.ext_getElem?
    intro i
    by_cases hi : i < 16
    · rw [Known.is_get ha hi, Known.is_get hb hi, h1 i hi]
    · rw [List.getElem?_eq_none (by rw [ha.1]; omega), List.getElem?_eq_none (by rw [hb.1]; omega)]
  have e2 : a.w = b.w := by
    apply List.ext_getElem?
    intro i
    by_cases hi : i < 16
    · rw [Known.w_get ha hi, Known.w_get hb hi, h2 i hi]
    · rw [List.getElem?_eq_none (by rw [ha.2.1]; omega), List.getElem?_eq_none (by rw [hb.2.1]; omega)]
  cases a; cases b
  simp_all
/-- One register's knowledge written anew. -/
def Known.put (k : Known) (r : Nat) (b : Bool) (x : Nat) : Known := ⟨k.reached, k.is.set r b, k.w.set r x⟩
theorem Known.put_wf {k : Known} (h : k.wf) (r : Nat) (b : Bool) {x : Nat} (hx : x < 4294967296) : (k.put r b x).wf := Known.wf_setW (Known.wf_setIs h r b) r hx
theorem Known.put_cells {k : Known} (h : k.wf) {r : Nat} (hr : r < 16) (b : Bool) (x : Nat) : ((knownCells k).set (1 + r) (.bool b)).set (17 + r) (.int .u32 (x : Int)) = knownCells (k.put r b x) := by
  rw [knownCells_setIs h hr, knownCells_setW (Known.wf_setIs h r b)]
  rfl
theorem Known.put_is {k : Known} (h : k.wf) {r : Nat} (hr : r < 16) (b : Bool) (x s : Nat) : (k.put r b x).isAt s = if s = r then b else k.isAt s := by
  unfold Known.isAt Known.put
  show (k.is.set r b).getD s false = _
  rw [List.getD_eq_getElem?_getD, List.getElem?_set]
  by_cases e : s = r
  · subst e; rw [if_pos rfl, if_pos (by rw [h.1]; exact hr), if_pos rfl]; rfl
  · rw [if_neg (fun h => e h.symm), if_neg e, List.getD_eq_getElem?_getD]
theorem Known.put_w {k : Known} (h : k.wf) {r : Nat} (hr : r < 16) (b : Bool) (x s : Nat) : (k.put r b x).wAt s = if s = r then x else k.wAt s := by
  unfold Known.wAt Known.put
  show (k.w.set r x).getD s 0 = _
  rw [List.getD_eq_getElem?_getD, List.getElem?_set]
  by_cases e : s = r
  · subst e; rw [if_pos rfl, if_pos (by rw [h.2.1]; exact hr), if_pos rfl]; rfl
  · rw [if_neg (fun h => e h.symm), if_neg e, List.getD_eq_getElem?_getD]

/-- The program's joining. -/
def joinK (a b : Known) : Known :=
  if a.reached = false then b else if b.reached = false then a else
  mkK true (fun r => a.isAt r && (b.isAt r && a.wAt r == b.wAt r)) (fun r => if (b.isAt r && a.wAt r == b.wAt r) = true then a.wAt r else 0)
/-- The document's. -/
def refJoinK (a b : Known) : Known :=
  if a.reached = false then b else if b.reached = false then a else
  mkK true (fun r => a.isAt r && (b.isAt r && a.wAt r == b.wAt r)) (fun r => if (a.isAt r && (b.isAt r && a.wAt r == b.wAt r)) = true then a.wAt r else 0)
theorem joinK_wf {a b : Known} (ha : a.wf) (hb : b.wf) : (joinK a b).wf := by
  unfold joinK
  split
  · exact hb
  · split
    · exact ha
    · exact mkK_wf fun r _ => by split; exact Known.w_lt ha r; decide
theorem refJoinK_wf {a b : Known} (ha : a.wf) (hb : b.wf) : (refJoinK a b).wf := by
  unfold refJoinK
  split
  · exact hb
  · split
    · exact ha
    · exact mkK_wf fun r _ => by split; exact Known.w_lt ha r; decide
/-- The first k registers joined. -/
structure JoinTo (a b : Known) (k : Nat) (m : Known) : Prop where
  wf : m.wf
  re : m.reached = true
  is : ∀ r, r < 16 → m.isAt r = if r < k then (a.isAt r && (b.isAt r && a.wAt r == b.wAt r)) else a.isAt r
  w : ∀ r, r < 16 → m.wAt r = if r < k then (if (b.isAt r && a.wAt r == b.wAt r) = true then a.wAt r else 0) else a.wAt r
theorem JoinTo.start {a b : Known} (ha : a.wf) (h : a.reached = true) : JoinTo a b 0 a := ⟨ha, h, fun r _ => by rw [if_neg (by omega)], fun r _ => by rw [if_neg (by omega)]⟩
theorem JoinTo.keep {a b m : Known} {k : Nat} (h : JoinTo a b k m) (hk : k < 16) (hc : (b.isAt k && a.wAt k == b.wAt k) = true) : JoinTo a b (k + 1) m := by
  refine ⟨h.wf, h.re, fun r hr => ?_, fun r hr => ?_⟩
  · rw [h.is r hr]
    by_cases e : r = k
    · subst e; rw [if_neg (by omega), if_pos (by omega), hc, Bool.and_true]
    · by_cases l : r < k
      · rw [if_pos l, if_pos (show r < k + 1 by omega)]
      · rw [if_neg l, if_neg (by omega)]
  · rw [h.w r hr]
    by_cases e : r = k
    · subst e; rw [if_neg (by omega), if_pos (by omega), if_pos hc]
    · by_cases l : r < k
      · rw [if_pos l, if_pos (show r < k + 1 by omega)]
      · rw [if_neg l, if_neg (by omega)]
theorem JoinTo.drop {a b m : Known} {k : Nat} (h : JoinTo a b k m) (hk : k < 16) (hc : (b.isAt k && a.wAt k == b.wAt k) = false) : JoinTo a b (k + 1) (m.put k false 0) := by
  refine ⟨Known.put_wf h.wf k false (by decide), h.re, fun r hr => ?_, fun r hr => ?_⟩
  · rw [Known.put_is h.wf hk]
    by_cases e : r = k
    · subst e; rw [if_pos rfl, if_pos (by omega), hc, Bool.and_false]
    · rw [if_neg e, h.is r hr]
      by_cases l : r < k
      · rw [if_pos l, if_pos (show r < k + 1 by omega)]
      · rw [if_neg l, if_neg (by omega)]
  · rw [Known.put_w h.wf hk]
    by_cases e : r = k
    · subst e; rw [if_pos rfl, if_pos (by omega), if_neg (by rw [hc]; exact Bool.false_ne_true)]
    · rw [if_neg e, h.w r hr]
      by_cases l : r < k
      · rw [if_pos l, if_pos (show r < k + 1 by omega)]
      · rw [if_neg l, if_neg (by omega)]
theorem JoinTo.done {a b m : Known} (ha : a.wf) (hb : b.wf) (h1 : a.reached = true) (h2 : b.reached = true) (h : JoinTo a b 16 m) : m = joinK a b := by
  have e : joinK a b = mkK true (fun r => a.isAt r && (b.isAt r && a.wAt r == b.wAt r)) (fun r => if (b.isAt r && a.wAt r == b.wAt r) = true then a.wAt r else 0) := by
    unfold joinK
    rw [if_neg (by rw [h1]; decide), if_neg (by rw [h2]; decide)]
  refine Known.ext16 h.wf (joinK_wf ha hb) ?_ (fun r hr => ?_) (fun r hr => ?_)
  · rw [e, h.re]; rfl
  · rw [e, mkK_is _ _ _ hr, h.is r hr, if_pos hr]
  · rw [e, mkK_w _ _ _ hr, h.w r hr, if_pos hr]
structure RefJoinTo (a b : Known) (k : Nat) (m : Known) : Prop where
  wf : m.wf
  re : m.reached = true
  is : ∀ r, r < 16 → m.isAt r = (decide (r < k) && (a.isAt r && (b.isAt r && a.wAt r == b.wAt r)))
  w : ∀ r, r < 16 → m.wAt r = if (decide (r < k) && (a.isAt r && (b.isAt r && a.wAt r == b.wAt r))) = true then a.wAt r else 0
theorem some0_is (r : Nat) : Known.some0.isAt r = false := by
  show (List.replicate 16 false).getD r false = false
  rw [List.getD_eq_getElem?_getD, List.getElem?_replicate]
  split <;> rfl
theorem some0_w (r : Nat) : Known.some0.wAt r = 0 := by
  show (List.replicate 16 0).getD r 0 = 0
  rw [List.getD_eq_getElem?_getD, List.getElem?_replicate]
  split <;> rfl
theorem RefJoinTo.start (a b : Known) : RefJoinTo a b 0 Known.some0 := ⟨Known.some0_wf, rfl, fun r _ => by rw [some0_is]; rfl, fun r _ => by rw [some0_w]; rfl⟩
theorem RefJoinTo.skip {a b m : Known} {k : Nat} (h : RefJoinTo a b k m) (hk : k < 16) (hc : (a.isAt k && (b.isAt k && a.wAt k == b.wAt k)) = false) : RefJoinTo a b (k + 1) m := by
  have e : ∀ r, (decide (r < k) && (a.isAt r && (b.isAt r && a.wAt r == b.wAt r))) = (decide (r < k + 1) && (a.isAt r && (b.isAt r && a.wAt r == b.wAt r))) := fun r => by
    by_cases q : r = k
    · subst q; rw [hc, Bool.and_false, Bool.and_false]
    · rw [show decide (r < k + 1) = decide (r < k) from by simp; omega]
  exact ⟨h.wf, h.re, fun r hr => by rw [h.is r hr, e], fun r hr => by rw [h.w r hr, e]⟩
theorem RefJoinTo.take {a b m : Known} {k : Nat} (ha : a.wf) (h : RefJoinTo a b k m) (hk : k < 16) (hc : (a.isAt k && (b.isAt k && a.wAt k == b.wAt k)) = true) : RefJoinTo a b (k + 1) (m.put k true (a.wAt k)) := by
  refine ⟨Known.put_wf h.wf k true (Known.w_lt ha k), h.re, fun r hr => ?_, fun r hr => ?_⟩
  · rw [Known.put_is h.wf hk]
    by_cases e : r = k
    · subst e; rw [if_pos rfl, hc]; simp
    · rw [if_neg e, h.is r hr, show decide (r < k + 1) = decide (r < k) from by simp; omega]
  · rw [Known.put_w h.wf hk]
    by_cases e : r = k
    · subst e; rw [if_pos rfl, hc]; simp
    · rw [if_neg e, h.w r hr, show decide (r < k + 1) = decide (r < k) from by simp; omega]
theorem RefJoinTo.done {a b m : Known} (ha : a.wf) (hb : b.wf) (h1 : a.reached = true) (h2 : b.reached = true) (h : RefJoinTo a b 16 m) : m = refJoinK a b := by
  have e : refJoinK a b = mkK true (fun r => a.isAt r && (b.isAt r && a.wAt r == b.wAt r)) (fun r => if (a.isAt r && (b.isAt r && a.wAt r == b.wAt r)) = true then a.wAt r else 0) := by
    unfold refJoinK
    rw [if_neg (by rw [h1]; decide), if_neg (by rw [h2]; decide)]
  refine Known.ext16 h.wf (refJoinK_wf ha hb) ?_ (fun r hr => ?_) (fun r hr => ?_)
  · rw [e, h.re]; rfl
  · rw [e, mkK_is _ _ _ hr, h.is r hr, decide_eq_true hr, Bool.true_and]
  · rw [e, mkK_w _ _ _ hr, h.w r hr, decide_eq_true hr, Bool.true_and]

/-- Is it as the chapter says? -/
def rightK (k : Known) : Bool :=
  if k.reached = false then decide (k = Known.zero) else
  (List.range 16).all (fun r => k.isAt r || k.wAt r == 0) && (k.isAt 0 && k.wAt 0 == 0)
theorem rightK_un {k : Known} (h : rightK k = true) (hr : k.reached = false) : k = Known.zero := by
  unfold rightK at h
  rw [if_pos hr] at h
  simpa using h
theorem rightK_w {k : Known} (h : rightK k = true) (hr : k.reached = true) {r : Nat} (h16 : r < 16) (hi : k.isAt r = false) : k.wAt r = 0 := by
  unfold rightK at h
  rw [if_neg (by rw [hr]; decide), Bool.and_eq_true, List.all_eq_true] at h
  have := h.1 r (List.mem_range.2 h16)
  rw [hi] at this
  simpa using this
theorem rightK_0 {k : Known} (h : rightK k = true) (hr : k.reached = true) : k.isAt 0 = true ∧ k.wAt 0 = 0 := by
  unfold rightK at h
  rw [if_neg (by rw [hr]; decide), Bool.and_eq_true, Bool.and_eq_true] at h
  exact ⟨h.2.1, by simpa using h.2.2⟩
theorem joinK_ref {a b : Known} (ha : a.wf) (hb : b.wf) (h : rightK a = true) : joinK a b = refJoinK a b := by
  by_cases h1 : a.reached = false
  · unfold joinK refJoinK; rw [if_pos h1, if_pos h1]
  · by_cases h2 : b.reached = false
    · unfold joinK refJoinK; rw [if_neg h1, if_neg h1, if_pos h2, if_pos h2]
    · have h1' : a.reached = true := by simpa using h1
      refine Known.ext16 (joinK_wf ha hb) (refJoinK_wf ha hb) ?_ (fun r hr => ?_) (fun r hr => ?_)
      · unfold joinK refJoinK; rw [if_neg h1, if_neg h1, if_neg h2, if_neg h2]; rfl
      · unfold joinK refJoinK; rw [if_neg h1, if_neg h1, if_neg h2, if_neg h2, mkK_is _ _ _ hr, mkK_is _ _ _ hr]
      · unfold joinK refJoinK
        rw [if_neg h1, if_neg h1, if_neg h2, if_neg h2, mkK_w _ _ _ hr, mkK_w _ _ _ hr]
        cases hi : a.isAt r with
        | true => rw [Bool.true_and]
        | false => rw [rightK_w h h1' hr hi]; simp
/-- As little known or less: what a holds, b may doubt. -/
def LeK (a b : Known) : Prop := a.reached = true → b.reached = true ∧ ∀ r, r < 16 → b.isAt r = true → a.isAt r = true ∧ a.wAt r = b.wAt r
theorem LeK.refl (a : Known) : LeK a a := fun h => ⟨h, fun r _ hr => ⟨hr, rfl⟩⟩
theorem LeK.trans {a b c : Known} (h : LeK a b) (k : LeK b c) : LeK a c := fun ha => by
  obtain ⟨hb, h1⟩ := h ha
  obtain ⟨hc, h2⟩ := k hb
  exact ⟨hc, fun r hr hi => by
    obtain ⟨e1, e2⟩ := h2 r hr hi
    obtain ⟨e3, e4⟩ := h1 r hr e1
    exact ⟨e3, e4.trans e2⟩⟩
theorem LeK.antisymm {a b : Known} (wa : a.wf) (wb : b.wf) (ra : rightK a = true) (rb : rightK b = true) (h : LeK a b) (k : LeK b a) : a = b := by
  cases ha : a.reached with
  | false =>
    cases hb : b.reached with
    | false => rw [rightK_un ra ha, rightK_un rb hb]
    | true => have := (k hb).1; rw [ha] at this; cases this
  | true =>
    obtain ⟨hb, h1⟩ := h ha
    obtain ⟨-, h2⟩ := k hb
    refine Known.ext16 wa wb (by rw [ha, hb]) (fun r hr => ?_) (fun r hr => ?_)
    · rw [Bool.eq_iff_iff]
      exact ⟨fun e => (h2 r hr e).1, fun e => (h1 r hr e).1⟩
    · cases hi : b.isAt r with
      | true => exact (h1 r hr hi).2
      | false =>
        have : a.isAt r = false := by
          cases hx : a.isAt r with
          | false => rfl
          | true => have := (h2 r hr hx).1; rw [hi] at this; cases this
        rw [rightK_w ra ha hr this, rightK_w rb hb hr hi]
theorem joinK_left (a b : Known) : LeK a (joinK a b) := fun ha => by
  unfold joinK
  rw [if_neg (by rw [ha]; decide)]
  split
  · exact ⟨ha, fun r _ hr => ⟨hr, rfl⟩⟩
  · refine ⟨rfl, fun r hr hi => ?_⟩
    rw [mkK_is _ _ _ hr, Bool.and_eq_true] at hi
    rw [mkK_w _ _ _ hr, if_pos hi.2]
    exact ⟨hi.1, rfl⟩
theorem joinK_right (a b : Known) : LeK b (joinK a b) := fun hb => by
  unfold joinK
  split
  · exact ⟨hb, fun r _ hr => ⟨hr, rfl⟩⟩
  · rw [if_neg (by rw [hb]; decide)]
    refine ⟨rfl, fun r hr hi => ?_⟩
    rw [mkK_is _ _ _ hr, Bool.and_eq_true] at hi
    rw [mkK_w _ _ _ hr, if_pos hi.2]
    have h2 := hi.2
    rw [Bool.and_eq_true] at h2
    exact ⟨h2.1, (by simpa using h2.2 : a.wAt r = b.wAt r).symm⟩
theorem joinK_le {a b c : Known} (h : LeK a c) (k : LeK b c) : LeK (joinK a b) c := by
  unfold joinK
  split
  · exact k
  · rename_i ha
    split
    · exact h
    · rename_i hb
      intro _
      obtain ⟨hc, h1⟩ := h (by simpa using ha)
      obtain ⟨-, h2⟩ := k (by simpa using hb)
      refine ⟨hc, fun r hr hi => ?_⟩
      obtain ⟨e1, e2⟩ := h1 r hr hi
      obtain ⟨e3, e4⟩ := h2 r hr hi
      have e : (b.isAt r && a.wAt r == b.wAt r) = true := by rw [e3, e2, e4]; simp
      rw [mkK_is _ _ _ hr, mkK_w _ _ _ hr, if_pos e, e1, e]
      exact ⟨rfl, e2⟩
theorem joinK_rightK {a b : Known} (ha : rightK a = true) (hb : rightK b = true) : rightK (joinK a b) = true := by
  unfold joinK
  split
  · exact hb
  · rename_i h1
    split
    · exact ha
    · rename_i h2
      have h1' : a.reached = true := by simpa using h1
      have h2' : b.reached = true := by simpa using h2
      obtain ⟨a0, a1⟩ := rightK_0 ha h1'
      obtain ⟨b0, b1⟩ := rightK_0 hb h2'
      unfold rightK
      rw [if_neg (by show ¬ (true = false); decide), Bool.and_eq_true, List.all_eq_true]
      refine ⟨fun r hr => ?_, ?_⟩
      · have hr := List.mem_range.1 hr
        rw [mkK_is _ _ _ hr, mkK_w _ _ _ hr]
        cases hi : a.isAt r with
        | false => rw [rightK_w ha h1' hr hi]; simp
        | true => cases hc : (b.isAt r && a.wAt r == b.wAt r) <;> simp
      · rw [mkK_is _ _ _ (by decide), mkK_w _ _ _ (by decide), a0, a1, b0, b1]
        rfl
theorem joinK_comm {a b : Known} (wa : a.wf) (wb : b.wf) (ra : rightK a = true) (rb : rightK b = true) : joinK a b = joinK b a :=
  LeK.antisymm (joinK_wf wa wb) (joinK_wf wb wa) (joinK_rightK ra rb) (joinK_rightK rb ra) (joinK_le (joinK_right b a) (joinK_left b a)) (joinK_le (joinK_right a b) (joinK_left a b))
theorem joinK_self {a : Known} (wa : a.wf) (ra : rightK a = true) : joinK a a = a :=
  LeK.antisymm (joinK_wf wa wa) wa (joinK_rightK ra ra) ra (joinK_le (LeK.refl a) (LeK.refl a)) (joinK_left a a)
theorem joinK_assoc {a b c : Known} (wa : a.wf) (wb : b.wf) (wc : c.wf) (ra : rightK a = true) (rb : rightK b = true) (rc : rightK c = true) : joinK (joinK a b) c = joinK a (joinK b c) :=
  LeK.antisymm (joinK_wf (joinK_wf wa wb) wc) (joinK_wf wa (joinK_wf wb wc)) (joinK_rightK (joinK_rightK ra rb) rc) (joinK_rightK ra (joinK_rightK rb rc))
    (joinK_le (joinK_le (joinK_left _ _) ((joinK_left b c).trans (joinK_right _ _))) ((joinK_right b c).trans (joinK_right _ _)))
    (joinK_le ((joinK_left a b).trans (joinK_left _ _)) (joinK_le ((joinK_right a b).trans (joinK_left _ _)) (joinK_right _ _)))
end Go.Proofs.Ytokkngfgppikkab
