/- slices.symMergeCmpFunc at numbers: a row of two sorted neighbours is sorted in place, those alike stay in their order. -/
import Derived.Test.YthnkikdbllkmkaaZf
namespace Go.Proofs.Ythnkikdbllkmkaa
set_option linter.unusedVariables false
open Go.Shelf Go.RowKit Go.Lib Go.Sort
variable {α : Type} [Inhabited α]

theorem sym_calls {r q : α → α → Prop} (enc : α → Value) (cf : α → α → Int) (O : Stb (ltOf cf) r q) (g : Nat) (cb : Array Value) (blk off cap : Nat) (d0 : Array α) (w0 : World)
    (eg : ∀ args w, (callFunc g args).run Try.prog w = .ok (.enter g args) w) (hcmp : CmpLays1 Try.prog g cb enc cf blk off d0.size w0) (R : Row1 enc w0 blk off d0) (hsz : d0.size < 1000000) :
    ∀ (n a m b : Nat) (d : Array α) (w : World), b - a < n → d0.size = d.size → SW enc w0 blk off d w → a < m → m < b → b ≤ d.size → Srt r a m d → Srt r m b d → Bef q a m b d →
      Calls Try.prog 50 #[.slice (some ⟨blk, off, none⟩) d0.size cap, .int .i64 (a : Int), .int .i64 (m : Int), .int .i64 (b : Int), .func (.func g) #[] cb] w fun e w' => e = .returned (.tuple #[]) ∧ ∃ d', (PermIn a b d d' ∧ Srt r a b d') ∧ SW enc w0 blk off d' w'
  | 0, a, m, b, d, w, hn, hs, S, h1, h2, h3, s1, s2, hb => by omega
  | n + 1, a, m, b, d, w, hn, hs, S, h1, h2, h3, s1, s2, hb => by
    by_cases c1 : m = a + 1
    · have h := sym_one enc cf O g cb blk off cap a m b d0 d w0 w eg hcmp R hs S c1 h2 h3 (by omega) s2 hb
      rw [← hs] at h
      exact h
    · by_cases c2 : b = m + 1
      · have h := sym_last enc cf O g cb blk off cap a m b d0 d w0 w eg hcmp R hs S (by omega) c2 h3 (by omega) s1 hb
        rw [← hs] at h
        exact h
      · exact sym_gen enc cf O g cb blk off cap d0 w0 eg hcmp R hsz a m b d w (fun a' m' b' d' w' hlt z S' x1 x2 x3 y1 y2 y3 => sym_calls enc cf O g cb blk off cap d0 w0 eg hcmp R hsz n a' m' b' d' w' (by omega) z S' x1 x2 x3 y1 y2 y3) hs S (by omega) (by omega) h3 s1 s2 hb
end Go.Proofs.Ythnkikdbllkmkaa
