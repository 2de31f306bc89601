/- slices.SortStableFunc at numbers: a row that stands in the order of its places is sorted, those alike stay in that order. -/
import Derived.Test.YthnkikdbllkmkaaZg
import Derived.Test.YthnkikdbllkmkaaZh
namespace Go.Proofs.Ythnkikdbllkmkaa
set_option linter.unusedVariables false
set_option linter.unusedSimpArgs false
open Go.Shelf Go.RowKit Go.Lib Go.Sort
variable {α : Type} [Inhabited α]

theorem SW.self {enc : α → Value} {w : World} {blk off : Nat} {d : Array α} (R : Row1 enc w blk off d) : SW enc w blk off d w := ⟨0, #[], by
  unfold sortWorld
  rw [Go.Sort.grow_empty, Go.Sort.ahead_zero]
  exact (Go.Sort.putRow_self enc w blk off d R.hH).symm⟩

set_option maxHeartbeats 4000000 in
set_option maxRecDepth 1000000 in
theorem stable_calls {r q : α → α → Prop} (enc : α → Value) (cf : α → α → Int) (O : Stb (ltOf cf) r q) (g : Nat) (cb : Array Value) (blk off cap n : Nat) (d : Array α) (w : World)
    (eg : ∀ args w, (callFunc g args).run Try.prog w = .ok (.enter g args) w) (hcmp : CmpLays1 Try.prog g cb enc cf blk off d.size w) (R : Row1 enc w blk off d) (hn : n = d.size) (hsz : n < 1000000) (hq : Srt q 0 n d) :
    Calls Try.prog 41 #[.slice (some ⟨blk, off, none⟩) n cap, .int .i64 (n : Int), .func (.func g) #[] cb] w fun e w' => e = .returned (.tuple #[]) ∧ ∃ d', (PermIn 0 n d d' ∧ Srt r 0 n d') ∧ SW enc w blk off d' w' := by
  have INS : ∀ (t a b : Nat) (dk : Array α) (u : World), a = t * 20 → PermIn 0 n d dk → Mix r q 20 never a n dk → SW enc w blk off dk u → a ≤ b → b ≤ n → b ≤ a + 20 →
      Calls Try.prog 49 #[.slice (some ⟨blk, off, none⟩) n cap, .int .i64 (a : Int), .int .i64 (b : Int), .func (.func g) #[] cb] u fun e w' => e = .returned (.tuple #[]) ∧ ∃ d', PermIn 0 n d d' ∧ Mix r q 20 never b n d' ∧ SW enc w blk off d' w' := by
    rintro t a b dk u rfl hp hm S h1 h2 h3
    have hz : dk.size = n := by rw [hp.1]; exact hn.symm
    have hi := Any.insertionSortCmpFunc_s Try.insI enc cf g cb blk off cap (t * 20) b d dk w u eg hcmp R (by omega) S h1 (by omega) (by omega)
    rw [hz] at hi
    change Calls Try.prog 49 #[.slice (some ⟨blk, off, none⟩) n cap, .int .i64 ((t * 20 : Nat) : Int), .int .i64 (b : Int), .func (.func g) #[] cb] u _ at hi
    refine hi.mono ?_
    rintro e w' ⟨rfl, hs⟩
    obtain ⟨p, s⟩ := insertion_srt O (a := t * 20) (b := b) (d := dk) h1 (by omega) (fun i j hi hij hj => (hm i j hij (by omega)).2 (fun e => by rcases e with ⟨e, _⟩ | ⟨_, e⟩; omega; exact e.elim))
    exact ⟨rfl, _, permIn_trans _ _ _ _ _ hp (permIn_mono _ _ _ _ _ _ (Nat.zero_le _) h2 (by omega) p), hm.step (by decide) h1 h2 (by omega) h3 p s (fun _ i j _ _ _ h => h), hs⟩
  have SYM : ∀ (V W t a m b : Nat) (dk : Array α) (u : World), 0 < V → W = 2 * V → a = t * W → m = a + V → PermIn 0 n d dk → Mix r q W (alike V) a n dk → SW enc w blk off dk u → m < b → b ≤ n → b ≤ a + W → (b < n → b = a + W) →
      Calls Try.prog 50 #[.slice (some ⟨blk, off, none⟩) n cap, .int .i64 (a : Int), .int .i64 (m : Int), .int .i64 (b : Int), .func (.func g) #[] cb] u fun e w' => e = .returned (.tuple #[]) ∧ ∃ d', PermIn 0 n d d' ∧ Mix r q W (alike V) b n d' ∧ SW enc w blk off d' w' := by
    rintro V W t a m b dk u hV rfl rfl rfl hp hm S h1 h2 h3 h4
    have hz : dk.size = n := by rw [hp.1]; exact hn.symm
    obtain ⟨s1, s2, s3⟩ := hm.halves hV rfl (Nat.le_of_lt h1) h3 h2
    have hi := sym_calls enc cf O g cb blk off cap d w eg hcmp R (by omega) (b - t * (2 * V) + 1) (t * (2 * V)) (t * (2 * V) + V) b dk u (by omega) (by omega) S (by omega) h1 (by omega) s1 s2 s3
    rw [← hn] at hi
    refine hi.mono ?_
    rintro e w' ⟨rfl, d', ⟨p, s⟩, hs⟩
    exact ⟨rfl, d', permIn_trans _ _ _ _ _ hp (permIn_mono _ _ _ _ _ _ (Nat.zero_le _) h2 (by omega) p), hm.step (by omega) (by omega) h2 (by omega) h3 p s (fun hlt i j _ hi hj => Mix.far hV (h4 hlt) i j hi hj), hs⟩
  have HIN := Lib.hid INS
  have HSY := Lib.hid SYM
  have HM0 : Hid (PermIn 0 n d d ∧ Mix r q 20 never 0 n d ∧ SW enc w blk off d w) := ⟨permIn_refl _ _ _, Mix.start hq, SW.self R⟩
  have HN := Lib.hid hn
  clear INS SYM eg hcmp R O hq hn
  go_enter Try.func41, Try.ntmps41
  go_wp2_with fail
  go_loopw [7, 8] (fun s7 s8 wr => ∃ (t a b : Nat) (dk : Array α), s7 = .int .i64 (a : Int) ∧ s8 = .int .i64 (b : Int) ∧ b = a + 20 ∧ a ≤ n ∧ Hid (a = t * 20) ∧ Hid (PermIn 0 n d dk ∧ Mix r q 20 never a n dk ∧ SW enc w blk off dk wr)) (fun _ s _ => n + 21 - (intOf s).toNat)
  case atStart => exact ⟨0, 0, 20, d, rfl, rfl, rfl, Nat.zero_le _, Lib.hid (by omega), HM0⟩
  case round =>
    clear HM0
    obtain ⟨t, a, b, dk, rfl, rfl, hb, ha, HT, HM⟩ := hrel
    by_cases hlt : b ≤ n
    · have hcall := HIN.out t a b dk wr HT.out HM.out.1 HM.out.2.1 HM.out.2.2 (by omega) hlt (by omega)
      have HCA := Lib.hid hcall
      have HB := Lib.hid hb
      clear hcall HM hb
      go_wp2_with fail
      refine HCA.out.mono ?_
      rintro e w' ⟨rfl, d', hm'⟩
      have HM' := Lib.hid hm'
      clear hm'
      go_wp2_with fail
      exact ⟨⟨t + 1, b, b + 20, d', rfl, by go_num, rfl, hlt, Lib.hid (by have := HT.out; have := HB.out; omega), HM'⟩, by have := HB.out; simp [intOf]; omega⟩
    · have hcall := HIN.out t a n dk wr HT.out HM.out.1 HM.out.2.1 HM.out.2.2 ha (Nat.le_refl _) (by omega)
      have HCA := Lib.hid hcall
      clear hcall HM HT HIN
      go_wp2_with fail
      refine HCA.out.mono ?_
      rintro e w' ⟨rfl, d', hm1, hm2, hm3⟩
      have HM' : Hid (PermIn 0 n d d' ∧ Mix r q (2 * 20) (alike 20) 0 n d' ∧ SW enc w blk off d' w') := ⟨hm1, hm2.turn, hm3⟩
      clear hm1 hm2 hm3 hb ha hlt HCA
      go_wp2_with fail
      go_loopw [6] (fun s6 wr => ∃ (V : Nat) (dk : Array α), s6 = .int .i64 (V : Int) ∧ 0 < V ∧ Hid (PermIn 0 n d dk ∧ Mix r q (2 * V) (alike V) 0 n dk ∧ SW enc w blk off dk wr)) (fun s _ => n - (intOf s).toNat)
      case atStart => exact ⟨20, d', rfl, by decide, HM'⟩
      case round =>
        clear HM'
        obtain ⟨V, dk, rfl, hV, HM⟩ := hrel
        by_cases hlt : V < n
        · obtain ⟨W, hW⟩ : ∃ W, W = 2 * V := ⟨_, rfl⟩
          have qW : (2 : Int) * (V : Int) = (W : Int) := by omega
          have qW2 : (V : Int) * 2 = (W : Int) := by omega
          have hWb : W < 2000000 := by omega
          have hVW : V < W := by omega
          have HM1 : Hid (PermIn 0 n d dk ∧ Mix r q W (alike V) 0 n dk ∧ SW enc w blk off dk wr) := ⟨HM.out.1, by rw [hW]; exact HM.out.2.1, HM.out.2.2⟩
          have HW := Lib.hid hW
          clear HM hW
          go_wp2_with fail
          go_loopw [7, 8] (fun s7 s8 wr => ∃ (t a b : Nat) (dk : Array α), s7 = .int .i64 (a : Int) ∧ s8 = .int .i64 (b : Int) ∧ b = a + W ∧ a ≤ n ∧ Hid (a = t * W) ∧ Hid (PermIn 0 n d dk ∧ Mix r q W (alike V) a n dk ∧ SW enc w blk off dk wr)) (fun _ s _ => n + W + 1 - (intOf s).toNat)
          case atStart => exact ⟨0, 0, W, dk, rfl, rfl, by omega, Nat.zero_le _, Lib.hid (by omega), HM1⟩
          case round =>
            clear HM1
            obtain ⟨t, a, b, dk, rfl, rfl, hb, ha, HT, HM⟩ := hrel
            obtain ⟨m, hm⟩ : ∃ m, m = a + V := ⟨_, rfl⟩
            have qm : (a : Int) + (V : Int) = (m : Int) := by omega
            by_cases hlt2 : b ≤ n
            · have hcall := HSY.out V W t a m b dk wr hV HW.out HT.out hm HM.out.1 HM.out.2.1 HM.out.2.2 (by omega) hlt2 (by omega) (fun _ => hb)
              have HCA := Lib.hid hcall
              have HB := Lib.hid hb
              obtain ⟨b2, hb2⟩ : ∃ x, x = b + W := ⟨_, rfl⟩
              have qb : (b : Int) + (W : Int) = (b2 : Int) := by omega
              have HB2 := Lib.hid hb2
              clear hcall HM hb hm hb2
              go_wp2_with fail
              refine HCA.out.mono ?_
              rintro e w' ⟨rfl, d', hm'⟩
              have HM' := Lib.hid hm'
              clear hm'
              go_wp2_with fail
              exact ⟨⟨t + 1, b, b2, d', rfl, rfl, HB2.out, hlt2, Lib.hid (by have := HT.out; have := HB.out; rw [Nat.add_mul, Nat.one_mul]; omega), HM'⟩, by have := HB2.out; simp [intOf]; omega⟩
            · by_cases hlt3 : m < n
              · have hcall := HSY.out V W t a m n dk wr hV HW.out HT.out hm HM.out.1 HM.out.2.1 HM.out.2.2 hlt3 (Nat.le_refl _) (by omega) (fun h => by omega)
                have HCA := Lib.hid hcall
                clear hcall HM hb hm HT
                go_wp2_with fail
                refine HCA.out.mono ?_
                rintro e w' ⟨rfl, d', hm1, hm2, hm3⟩
                have HM' : Hid (PermIn 0 n d d' ∧ Mix r q (2 * W) (alike W) 0 n d' ∧ SW enc w blk off d' w') := ⟨hm1, hm2.turn, hm3⟩
                clear hm1 hm2 hm3
                go_wp2_with fail
                exact ⟨⟨W, d', rfl, by omega, HM'⟩, by simp [intOf]; omega⟩
              · have HM' : Hid (PermIn 0 n d dk ∧ Mix r q (2 * W) (alike W) 0 n dk ∧ SW enc w blk off dk wr) := ⟨HM.out.1, by
                  have h0 := HM.out.2.1
                  rw [HT.out, HW.out] at h0
                  have hs := h0.one hV rfl (by rw [← HW.out, ← HT.out]; omega)
                  rw [← HW.out, ← HT.out] at h0 hs
                  have h1 : Mix r q W (alike V) (t * W) n dk := by rw [← HT.out]; exact h0
                  exact (h1.step (b := n) (by omega) (by rw [← HT.out]; exact ha) (Nat.le_refl _) (by have := HM.out.1.1; exact Nat.le_of_eq (by rw [this]; exact HN.out)) (by rw [← HT.out]; omega) (permIn_refl _ _ _) (by rw [← HT.out]; exact hs) (fun h => by omega)).turn, HM.out.2.2⟩
                clear HM hb hm HT
                go_wp2_with fail
                exact ⟨⟨W, dk, rfl, by omega, HM'⟩, by simp [intOf]; omega⟩
        · have hs : PermIn 0 n d dk ∧ Srt r 0 n dk := ⟨HM.out.1, by
            have h0 : Mix r q (2 * V) (alike V) (0 * (2 * V)) n dk := by rw [Nat.zero_mul]; exact HM.out.2.1
            have := h0.one hV rfl (by omega)
            rw [Nat.zero_mul] at this
            exact this⟩
          have HS := Lib.hid hs
          clear hs
          go_wp2_with fail
          go_end0
          exact ⟨rfl, dk, HS.out, HM.out.2.2⟩

theorem sortStable_calls {r q : α → α → Prop} (enc : α → Value) (cf : α → α → Int) (O : Stb (ltOf cf) r q) (g : Nat) (cb : Array Value) (blk off cap n : Nat) (d : Array α) (w : World)
    (eg : ∀ args w, (callFunc g args).run Try.prog w = .ok (.enter g args) w) (hcmp : CmpLays1 Try.prog g cb enc cf blk off d.size w) (R : Row1 enc w blk off d) (hn : n = d.size) (hsz : n < 1000000) (hq : Srt q 0 n d) :
    Calls Try.prog 23 #[.slice (some ⟨blk, off, none⟩) n cap, .func (.func g) #[] cb] w fun e w' => e = .returned (.tuple #[]) ∧ ∃ d', (PermIn 0 n d d' ∧ Srt r 0 n d') ∧ SW enc w blk off d' w' := by
  have HI := Lib.hid (stable_calls enc cf O g cb blk off cap n d w eg hcmp R hn hsz hq)
  clear eg hcmp R hn hq O
  go_enter Try.func23, Try.ntmps23
  go_wp2_with fail
  refine HI.out.mono ?_
  rintro e w' ⟨rfl, hsw⟩
  have HSW := Lib.hid hsw
  clear hsw
  go_wp2_with fail
  go_end0
  exact ⟨rfl, HSW.out⟩
theorem insertion_none (A : Option Addr) (cap : Nat) (v : Value) (w : World) : Calls Try.prog 49 #[.slice A 0 cap, .int .i64 0, .int .i64 0, v] w fun e w' => e = .returned (.tuple #[]) ∧ w' = w := by
  go_enter Try.func49, Try.ntmps49
  go_wp2_with fail
  refine wp_loop_rounds 1 ?_
  rw [rounds_succ]
  go_wp2_with fail
  go_end0
  exact ⟨rfl, rfl⟩
theorem stable_none (A : Option Addr) (cap : Nat) (v : Value) (w : World) : Calls Try.prog 41 #[.slice A 0 cap, .int .i64 0, v] w fun e w' => e = .returned (.tuple #[]) ∧ w' = w := by
  go_enter Try.func41, Try.ntmps41
  go_wp2_with fail
  refine wp_loop_rounds 1 ?_
  rw [rounds_succ]
  go_wp2_with fail
  refine (insertion_none _ _ _ _).mono ?_
  rintro e w' ⟨rfl, rfl⟩
  go_wp2_with fail
  refine wp_loop_rounds 1 ?_
  rw [rounds_succ]
  go_wp2_with fail
  go_end0
  exact ⟨rfl, rfl⟩
theorem sortStable_none (A : Option Addr) (cap : Nat) (v : Value) (w : World) : Calls Try.prog 23 #[.slice A 0 cap, v] w fun e w' => e = .returned (.tuple #[]) ∧ w' = w := by
  go_enter Try.func23, Try.ntmps23
  go_wp2_with fail
  refine (stable_none _ _ _ _).mono ?_
  rintro e w' ⟨rfl, rfl⟩
  go_wp2_with fail
  go_end0
  exact ⟨rfl, rfl⟩
end Go.Proofs.Ythnkikdbllkmkaa
