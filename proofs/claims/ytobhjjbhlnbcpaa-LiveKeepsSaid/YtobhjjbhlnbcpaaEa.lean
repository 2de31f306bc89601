/- Layer 19 (live) and its reference: what each small function answers. -/
import Derived.Test.YtobhjjbhlnbcpaaPm
import Derived.Test.YtobhjjbhlnbcpaaCf
import Derived.Test.YtobhjjbhlnbcpaaCg
import Derived.Test.YtobhjjbhlnbcpaaCh
import Derived.Test.YtobhjjbhlnbcpaaFd
import Derived.Laws.BitsAllLaws
namespace Go.Proofs.Ytobhjjbhlnbcpaa
set_option linter.unusedVariables false
set_option linter.unusedSimpArgs false
open Go.RowKit

theorem and_one (x : Nat) : x &&& 1 = x % 2 := Nat.and_one_is_mod x
theorem wrap_pow {n : Nat} (h : n ≤ 15) : IntKind.u16.wrap ((2 : Int) ^ n) = ((2 ^ n : Nat) : Int) := by
  have : ∀ n : Fin 16, IntKind.u16.wrap ((2 : Int) ^ n.val) = ((2 ^ n.val : Nat) : Int) := by decide
  exact this ⟨n, by omega⟩
theorem pow_lt {n : Nat} (h : n ≤ 15) : 2 ^ n < 65536 := Nat.lt_of_lt_of_le (Nat.pow_lt_pow_right (a := 2) (by decide) (show n < 16 by omega)) (by decide)
theorem or_pow {s n : Nat} (hs : s < 65536) (h : n ≤ 15) : bits BinOp.or IntKind.u16 (s : Int) (IntKind.u16.wrap ((2 : Int) ^ n)) = ((s ||| 2 ^ n : Nat) : Int) := by
  rw [wrap_pow h, u16_or_nat _ _ hs (pow_lt h)]
theorem andNot_pow {s n : Nat} (hs : s < 65536) (h : n ≤ 15) : bits BinOp.andNot IntKind.u16 (s : Int) (IntKind.u16.wrap ((2 : Int) ^ n)) = ((s &&& (65535 - 2 ^ n) : Nat) : Int) := by
  rw [wrap_pow h, u16_andNot_nat _ _ hs (pow_lt h)]
set_option maxHeartbeats 1000000 in
theorem has_calls (s r : Nat) (hs : s < 65536) (hr : r < 16) (w : World) : Calls Try.prog 30 #[.int .u16 (s : Int), .int .i64 (r : Int)] w fun e w' => e = .returned (.bool (s.testBit r)) ∧ w' = w := by
  go_enter Try.func30, Try.ntmps30
  go_wp2
  go_ret
  refine ⟨ret_bool ?_, rfl⟩
  show (bits BinOp.and IntKind.u16 ((s : Int) / 2 ^ r) 1 == 1) = _
  have e : ((s : Int) / 2 ^ r) = ((s / 2 ^ r : Nat) : Int) := by simp
  rw [e, show (1 : Int) = ((1 : Nat) : Int) from rfl, u16_and_nat _ _ (Nat.lt_of_le_of_lt (Nat.div_le_self _ _) hs) (by decide), and_one, Nat.testBit_eq_decide_div_mod_eq, Bool.eq_iff_iff]
  simp
  omega
set_option maxHeartbeats 2000000 in
set_option maxRecDepth 100000 in
theorem set_calls (A : Option Addr) (c : Nat) (l : List Int) (w : World) (hC : CellsI w A l) (h : ∀ x ∈ l, 0 ≤ x ∧ x ≤ 15) (hl : l.length ≤ 1000) : Calls Try.prog 51 #[.slice A l.length c] w fun e w' => e = .returned (.int .u16 (setN l : Int)) ∧ w' = w := by
  have H := Lib.hid h
  clear h
  go_enter Try.func51, Try.ntmps51
  go_wp2
  have hl0 : l.length ≤ 9223372036854775807 := by omega
  go_loopw [3, 8] (fun v i wr => ∃ k : Nat, k ≤ l.length ∧ i = .int .i64 k ∧ v = .int .u16 (setN (l.take k) : Int) ∧ wr = w) (fun _ i _ => l.length - (intOf i).toNat)
  case atStart => exact ⟨0, Nat.zero_le _, rfl, rfl, rfl⟩
  case round =>
    obtain ⟨k, hk, rfl, rfl, rfl⟩ := hrel
    by_cases hlt : k < l.length
    · obtain ⟨x, hx⟩ := get_some l k hlt
      have htk := take_snoc hx
      obtain ⟨hx0, hx1⟩ := H.out x (List.mem_of_getElem? hx)
      obtain ⟨ad, rfl, c0⟩ := hC k x hx
      obtain ⟨n, rfl⟩ := Int.eq_ofNat_of_zero_le hx0
      have hs := setN_take_lt l H.out k
      have hsn : setN (l.take (k + 1)) = setN (l.take k) ||| 2 ^ n := by rw [htk, setN_snoc]; rfl
      have HSN := Lib.hid hsn
      clear hsn htk hx
      generalize setN (l.take k) = s at *
      go_wp2
      exact ⟨⟨k + 1, by omega, by go_num, by rw [or_pow hs (by omega), HSN.out], by trivial⟩, by simp [intOf]; omega⟩
    · obtain rfl : k = l.length := by omega
      rw [List.take_length]
      go_wp2
      go_ret
      exact ⟨rfl, rfl⟩
set_option maxHeartbeats 4000000 in
set_option maxRecDepth 100000 in
theorem before_calls (o : Op) (hr : o.ins.right = true) (after : Nat) (ha : after < 65536) (w : World) : Calls Try.prog 33 #[.agg #[.int .i64 o.ins.op, .int .i64 o.ins.a, .int .i64 o.ins.b, .int .i64 o.ins.c, .int .i64 o.ins.imm, .bool o.rel, .int .i64 o.kind, .int .i64 o.to, .int .i64 o.add], .int .u16 (after : Int)] w fun e w' => e = .returned (.int .u16 (beforeN o after : Int)) ∧ Below w.heap.size w w' := by
  have b0 := below_alloc' w (.cells #[.int .i64 o.ins.op, .int .i64 o.ins.a, .int .i64 o.ins.b, .int .i64 o.ins.c, .int .i64 o.ins.imm, .bool o.rel, .int .i64 o.kind, .int .i64 o.to, .int .i64 o.add] 45)
  have r0 : Row (w.alloc (.cells #[.int .i64 o.ins.op, .int .i64 o.ins.a, .int .i64 o.ins.b, .int .i64 o.ins.c, .int .i64 o.ins.imm, .bool o.rel, .int .i64 o.kind, .int .i64 o.to, .int .i64 o.add] 45)) w.heap.size 45 (opCells o) := Row.new w _ _
  have hm := reads_mem hr
  have hw15 := writes_le hr
  have hrl := readsList_len o.ins.op o.ins.a o.ins.b o.ins.c
  have hsl := reads_setN hr
  have HM := Lib.hid hm
  have HSL := Lib.hid hsl
  clear hm hsl
  by_cases h4 : fkind o.ins.op = 4
  · have HB : Hid (beforeN o after = 65534) := Lib.hid (by unfold beforeN; rw [if_pos h4])
    have z4 : (fkind o.ins.op == 4) = true := by simp [h4]
    clear h4
    go_enter Try.func33, Try.ntmps33
    go_upto_region 1 with fail
    generalize w.alloc (.cells #[.int .i64 o.ins.op, .int .i64 o.ins.a, .int .i64 o.ins.b, .int .i64 o.ins.c, .int .i64 o.ins.imm, .bool o.rel, .int .i64 o.kind, .int .i64 o.to, .int .i64 o.add] 45) = W at *
    obtain ⟨x0, x1, x2, x3, x4, x5, x6, x7, x8⟩ := r0.op
    go_wp2_with fail
    refine (flowKind_calls _ _ _ _ _ _).mono ?_
    rintro e w1 ⟨rfl, hb1⟩
    go_wp2_with fail
    go_ret
    exact ⟨by rw [HB.out]; rfl, b0.trans (hb1.mono b0.size)⟩
  · have z4 : (fkind o.ins.op == 4) = false := by simp [h4]
    by_cases hp : 0 < writes o.ins.op o.ins.a
    · obtain ⟨n, hn⟩ := Int.eq_ofNat_of_zero_le (Int.le_of_lt hp)
      have hn15 : n ≤ 15 := by omega
      have HB : Hid (beforeN o after = (after &&& (65535 - 2 ^ n)) ||| setN (readsList o.ins.op o.ins.a o.ins.b o.ins.c)) := Lib.hid (by unfold beforeN; rw [if_neg h4, if_pos hp, hn]; rfl)
      have hlt2 : after &&& (65535 - 2 ^ n) < 65536 := Nat.and_lt_two_pow (n := 16) _ (Nat.lt_of_le_of_lt (Nat.sub_le _ _) (by decide))
      have zp : 0 < n := by omega
      have HN := Lib.hid hn
      have HA := andNot_pow ha hn15
      have HAN := Lib.hid HA
      have HL2 := Lib.hid hlt2
      clear h4 hp hn HA hlt2
      go_enter Try.func33, Try.ntmps33
      go_upto_region 1 with fail
      generalize w.alloc (.cells #[.int .i64 o.ins.op, .int .i64 o.ins.a, .int .i64 o.ins.b, .int .i64 o.ins.c, .int .i64 o.ins.imm, .bool o.rel, .int .i64 o.kind, .int .i64 o.to, .int .i64 o.add] 45) = W at *
      obtain ⟨x0, x1, x2, x3, x4, x5, x6, x7, x8⟩ := r0.op
      go_wp2_with fail
      refine (flowKind_calls _ _ _ _ _ _).mono ?_
      rintro e w1 ⟨rfl, hb1⟩
      have r1 := r0.below hb1
      clear x0 x1 x2 x3 x4 x5 x6 x7 x8
      obtain ⟨x0, x1, x2, x3, x4, x5, x6, x7, x8⟩ := r1.op
      go_wp2_with fail
      refine (flowWrites_calls _ _ _ _ _ _).mono ?_
      rw [HN.out]
      rintro e w2 ⟨rfl, hb2⟩
      have r2 := r1.below hb2
      clear x0 x1 x2 x3 x4 x5 x6 x7 x8
      obtain ⟨x0, x1, x2, x3, x4, x5, x6, x7, x8⟩ := r2.op
      have hz := HN.out
      clear hw15
      go_wp2_with fail
      refine (flowReads_calls _ _ _ _ _ _).mono ?_
      rintro e w3 ⟨v3, rfl, ho3, hb3⟩
      obtain ⟨A3, c3, rfl, l3, m3, hC3⟩ := ho3.read
      go_wp2_with fail
      refine (set_calls _ _ _ _ hC3 (fun x hx => by have := HM.out x hx; omega) (by omega)).mono ?_
      rintro e w4 ⟨rfl, rfl⟩
      rw [HAN.out]
      have HO := u16_or_nat _ _ HL2.out HSL.out
      rw [← HB.out] at HO
      go_wp2_with fail
      go_ret
      exact ⟨rfl, ((b0.trans (hb1.mono b0.size)).trans (hb2.mono (Nat.le_trans b0.size hb1.size))).trans (hb3.mono (Nat.le_trans b0.size (Nat.le_trans hb1.size hb2.size)))⟩
    · have HB : Hid (beforeN o after = after ||| setN (readsList o.ins.op o.ins.a o.ins.b o.ins.c)) := Lib.hid (by unfold beforeN; rw [if_neg h4, if_neg hp])
      have zp : decide (0 < writes o.ins.op o.ins.a) = false := by simp; omega
      clear h4 hp hw15
      go_enter Try.func33, Try.ntmps33
      go_upto_region 1 with fail
      generalize w.alloc (.cells #[.int .i64 o.ins.op, .int .i64 o.ins.a, .int .i64 o.ins.b, .int .i64 o.ins.c, .int .i64 o.ins.imm, .bool o.rel, .int .i64 o.kind, .int .i64 o.to, .int .i64 o.add] 45) = W at *
      obtain ⟨x0, x1, x2, x3, x4, x5, x6, x7, x8⟩ := r0.op
      go_wp2_with fail
      refine (flowKind_calls _ _ _ _ _ _).mono ?_
      rintro e w1 ⟨rfl, hb1⟩
      have r1 := r0.below hb1
      clear x0 x1 x2 x3 x4 x5 x6 x7 x8
      obtain ⟨x0, x1, x2, x3, x4, x5, x6, x7, x8⟩ := r1.op
      go_wp2_with fail
      refine (flowWrites_calls _ _ _ _ _ _).mono ?_
      rintro e w2 ⟨rfl, hb2⟩
      have r2 := r1.below hb2
      clear x0 x1 x2 x3 x4 x5 x6 x7 x8
      obtain ⟨x0, x1, x2, x3, x4, x5, x6, x7, x8⟩ := r2.op
      go_wp2_with fail
      refine (flowReads_calls _ _ _ _ _ _).mono ?_
      rintro e w3 ⟨v3, rfl, ho3, hb3⟩
      obtain ⟨A3, c3, rfl, l3, m3, hC3⟩ := ho3.read
      go_wp2_with fail
      refine (set_calls _ _ _ _ hC3 (fun x hx => by have := HM.out x hx; omega) (by omega)).mono ?_
      rintro e w4 ⟨rfl, rfl⟩
      have HO := u16_or_nat _ _ ha HSL.out
      rw [← HB.out] at HO
      go_wp2_with fail
      go_ret
      exact ⟨rfl, ((b0.trans (hb1.mono b0.size)).trans (hb2.mono (Nat.le_trans b0.size hb1.size))).trans (hb3.mono (Nat.le_trans b0.size (Nat.le_trans hb1.size hb2.size)))⟩
end Go.Proofs.Ytobhjjbhlnbcpaa
