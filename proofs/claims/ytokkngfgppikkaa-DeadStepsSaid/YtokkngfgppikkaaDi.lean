/- Layer 23's awake answers true. Printed in part by genDi.py of this repository. -/
import Derived.Test.YtokkngfgppikkaaDh
import Derived.Test.YtokkngfgppikkaaGd
namespace Go.Proofs.Ytokkngfgppikkaa
set_option linter.unusedVariables false
set_option linter.unusedSimpArgs false
open Go.RowKit
attribute [local go_sem high] eqTerm_same eqOp_same

def AW23 (w : World) (ax bx ox ay by_ s4 s5 : Addr) (Ay : Option Addr) (cx dx cy dy b3 b4 b5 : Nat) : Prop := w.cell? ⟨ax.block, ax.off + 3, none⟩ = some (.slice (some bx) 1 cx) ∧ w.cell? bx = some (.slice (some ox) 1 dx) ∧ w.cell? ox = some (.int .i64 8) ∧ w.cell? ⟨ox.block, ox.off + 1, none⟩ = some (.int .i64 1) ∧ w.cell? ⟨ox.block, ox.off + 2, none⟩ = some (.int .i64 1) ∧ w.cell? ⟨ox.block, ox.off + 3, none⟩ = some (.int .i64 0) ∧ w.cell? ⟨ox.block, ox.off + 4, none⟩ = some (.int .i64 1) ∧ w.cell? ⟨ox.block, ox.off + 5, none⟩ = some (.bool false) ∧ w.cell? ⟨ox.block, ox.off + 6, none⟩ = some (.int .i64 0) ∧ w.cell? ⟨ox.block, ox.off + 7, none⟩ = some (.int .i64 0) ∧ w.cell? ⟨ox.block, ox.off + 8, none⟩ = some (.int .i64 0) ∧ w.cell? ⟨b3, 0, none⟩ = some (.int .i64 8) ∧ w.cell? ⟨b3, 1, none⟩ = some (.int .i64 1) ∧ w.cell? ⟨b3, 2, none⟩ = some (.int .i64 1) ∧ w.cell? ⟨b3, 3, none⟩ = some (.int .i64 0) ∧ w.cell? ⟨b3, 4, none⟩ = some (.int .i64 1) ∧ w.cell? ⟨b3, 5, none⟩ = some (.bool false) ∧ w.cell? ⟨b3, 6, none⟩ = some (.int .i64 0) ∧ w.cell? ⟨b3, 7, none⟩ = some (.int .i64 0) ∧ w.cell? ⟨b3, 8, none⟩ = some (.int .i64 0) ∧ w.cell? ⟨ay.block, ay.off + 3, none⟩ = some (.slice (some by_) 1 cy) ∧ w.cell? by_ = some (.slice Ay 0 dy) ∧ w.cell? ⟨by_.block, by_.off + 1, none⟩ = some (.int .i64 4) ∧ w.cell? ⟨by_.block, by_.off + 2, none⟩ = some (.int .i64 0) ∧ w.cell? ⟨by_.block, by_.off + 3, none⟩ = some (.int .i64 0) ∧ w.cell? ⟨by_.block, by_.off + 4, none⟩ = some (.int .i64 0) ∧ w.cell? ⟨by_.block, by_.off + 5, none⟩ = some (.int .i64 1) ∧ w.cell? ⟨by_.block, by_.off + 6, none⟩ = some (.int .i64 0) ∧ w.cell? ⟨by_.block, by_.off + 7, none⟩ = some (.int .i64 0) ∧ w.cell? ⟨by_.block, by_.off + 8, none⟩ = some (.int .i64 0) ∧ w.cell? ⟨by_.block, by_.off + 9, none⟩ = some (.int .i64 0) ∧ w.cell? ⟨by_.block, by_.off + 10, none⟩ = some (.int .i64 0) ∧ w.cell? ⟨by_.block, by_.off + 11, none⟩ = some (.int .i64 0) ∧ w.cell? ⟨b4, 0, none⟩ = some (.string (⟨#[]⟩ : ByteArray)) ∧ w.cell? ⟨b4, 1, none⟩ = some (.bool false) ∧ w.cell? ⟨b4, 2, none⟩ = some (.bool true) ∧ w.cell? ⟨b4, 3, none⟩ = some (.slice (some s4) 1 1) ∧ w.cell? ⟨b5, 0, none⟩ = some (.string (⟨#[]⟩ : ByteArray)) ∧ w.cell? ⟨b5, 1, none⟩ = some (.bool false) ∧ w.cell? ⟨b5, 2, none⟩ = some (.bool false) ∧ w.cell? ⟨b5, 3, none⟩ = some (.slice (some s5) 1 1)
theorem AW23.sub {w w' : World} {ax bx ox ay by_ s4 s5 : Addr} {Ay : Option Addr} {cx dx cy dy b3 b4 b5 : Nat} (h : AW23 w ax bx ox ay by_ s4 s5 Ay cx dx cy dy b3 b4 b5) (hs : Sub w w') : AW23 w' ax bx ox ay by_ s4 s5 Ay cx dx cy dy b3 b4 b5 := by
  obtain ⟨s0_, s1_, s2_, s3_, s4_, s5_, s6_, s7_, s8_, s9_, s10_, s11_, s12_, s13_, s14_, s15_, s16_, s17_, s18_, s19_, s20_, s21_, s22_, s23_, s24_, s25_, s26_, s27_, s28_, s29_, s30_, s31_, s32_, s33_, s34_, s35_, s36_, s37_, s38_, s39_, s40_⟩ := h
  exact ⟨hs _ _ s0_, hs _ _ s1_, hs _ _ s2_, hs _ _ s3_, hs _ _ s4_, hs _ _ s5_, hs _ _ s6_, hs _ _ s7_, hs _ _ s8_, hs _ _ s9_, hs _ _ s10_, hs _ _ s11_, hs _ _ s12_, hs _ _ s13_, hs _ _ s14_, hs _ _ s15_, hs _ _ s16_, hs _ _ s17_, hs _ _ s18_, hs _ _ s19_, hs _ _ s20_, hs _ _ s21_, hs _ _ s22_, hs _ _ s23_, hs _ _ s24_, hs _ _ s25_, hs _ _ s26_, hs _ _ s27_, hs _ _ s28_, hs _ _ s29_, hs _ _ s30_, hs _ _ s31_, hs _ _ s32_, hs _ _ s33_, hs _ _ s34_, hs _ _ s35_, hs _ _ s36_, hs _ _ s37_, hs _ _ s38_, hs _ _ s39_, hs _ _ s40_⟩
theorem iLeaf0 : leafB [iB0] = false := by
  unfold leafB
  rw [iOf0]
  decide
theorem iLeaf1 : leafB [iB1] = true := by
  unfold leafB
  rw [iOf1]
  decide
theorem add_zero4 (ad : Addr) : ad.add (0 * 4) = ad := by simp [Addr.add]
theorem add_zero9 (ad : Addr) : ad.add (0 * 9) = ad := by simp [Addr.add]
theorem gs2_lit {W : World} {a b : Nat} (h0 : kBlock.C W (some ⟨a, 0, none⟩) [iB0]) (h1 : kBlock.C W (some ⟨b, 0, none⟩) [iB1]) : kGraph.C (W.alloc (.cells #[.string (⟨#[]⟩ : ByteArray), .bool false, .bool true, .slice (some ⟨a, 0, none⟩) 1 1, .string (⟨#[]⟩ : ByteArray), .bool false, .bool false, .slice (some ⟨b, 0, none⟩) 1 1] 33)) (some ⟨W.heap.size, 0, none⟩) [iG0, iG1] := by
  refine C_lit kGraph W _ rfl _ [iG0, iG1] [[.string (⟨#[]⟩ : ByteArray), .bool false, .bool true, .slice (some ⟨a, 0, none⟩) 1 1], [.string (⟨#[]⟩ : ByteArray), .bool false, .bool false, .slice (some ⟨b, 0, none⟩) 1 1]] _ rfl rfl ?_
  intro i x cs hx hc
  match i with
  | 0 => simp at hx hc; subst hx hc; exact kGraph_mk W iG0 (c0 := 1) (by unfold Graph.wf maxLen; decide) (by decide) (by decide) h0
  | 1 => simp at hx hc; subst hx hc; exact kGraph_mk W iG1 (c0 := 1) (by unfold Graph.wf maxLen; decide) (by decide) (by decide) h1
  | i + 2 => simp at hx

end Go.Proofs.Ytokkngfgppikkaa
