/-
  ref32: Open.
-/
import Derived.Test.YtpiffapnbjnjiaaMetaRA
namespace Go.Proofs.Ytpiffapnbjnjiaa
set_option linter.unusedVariables false
open Go.RowKit
attribute [local go_sem] Oper.semAt_some

theorem rmeta_info : (Try.prog.info? 41).map (·.size) = some 4 := by kernel_rfl
set_option maxRecDepth 100000 in
theorem res_meta_tmp {fn : Func} {p u : Tmp} (h : fn.results = #[.cell p 41, .tmp u]) (tmps : Array Value) (W : World) (g : Nat) (a b c d : Value) (hp : tmps.getD p undef = .pointer (some ⟨g, 0, none⟩)) (hg : Cs W g 41 #[a, b, c, d]) :
    (results fn tmps).run Try.prog W = .ok (.tuple #[.agg #[a, b, c, d], tmps.getD u undef]) W := by
  have hl : (loadVar 41 ⟨g, 0, none⟩).run Try.prog W = .ok (.agg #[a, b, c, d]) W := run_loadVar_row W g 41 41 _ (0, 0) _ hg Try.underlying41 rfl rmeta_info
  have hp' : tmps[p]?.getD undef = .pointer (some ⟨g, 0, none⟩) := by simpa using hp
  simp [results, h, hp', asAddr, hl, Result.andThen]

/-- A word is clear and its field. -/
theorem clr_add (w : Nat) : w = clr w 21 + w / 2097152 % 65536 * 2097152 := by
  unfold clr
  simp only [Nat.reducePow, Nat.reduceAdd]
  omega
theorem rsum_add (w : Nat) (hw : w < 18446744073709551616) : rsum w 21 = clr w 21 + sumW (clr w 21) * 2097152 := by
  have hs := sumW_lt (clr w 21)
  unfold rsum
  generalize sumW (clr w 21) = q at *
  unfold clr
  simp only [Nat.reducePow, Nat.reduceAdd]
  have h := or_mid (w % 2097152) q (w / 137438953472) 21 37 (by omega) (by omega)
  simp only [Nat.reducePow] at h
  rw [h]
  omega
theorem form_iff (w : Nat) (hw : w < 18446744073709551616) : hform w = decide (w / 137438953472 % 65536 = 17219 ∧ w = rsum w 21) := by
  have h1 := clr_add w
  have h2 := rsum_add w hw
  unfold hform
  rw [decide_eq_decide, h2]
  generalize clr w 21 = c at *
  generalize sumW c = q at *
  generalize w / 2097152 % 65536 = f at *
  clear h2
  constructor
  · rintro ⟨a, b⟩
    exact ⟨a, h1.trans (by rw [b])⟩
  · rintro ⟨a, b⟩
    exact ⟨a, Nat.eq_of_mul_eq_mul_right (by decide) (Nat.add_left_cancel (h1.symm.trans b))⟩

def ROpenP (W : World) (ws : List Nat) (e : Ending) (W' : World) : Prop :=
  Below W.heap.size W W' ∧
    ((openE ws ≠ 0 ∧ e = .returned (.tuple #[.agg #[.slice none 0 0, .int .i64 0, .int .i64 0, .bool false], .int .i64 (openE ws)])) ∨
     (openE ws = 0 ∧ ∃ v, e = .returned (.tuple #[.agg #[v, .int .i64 (((ws[0]?.getD 0) / 2048 % 128 : Nat) : Int), .int .i64 (((ws[0]?.getD 0) / 262144 % 4 : Nat) : Int), .bool (decide ((ws[0]?.getD 0) / 1048576 % 2 = 0))], .int .i64 0]) ∧
      W'.ownsRow W.heap.size 50 4 v ((ws[0]?.getD 0) % 2048) (scs (slotsU ws ((ws[0]?.getD 0) % 2048)))))

theorem own_ne {W : World} {base base' : Nat} {e e' : TypeId} {s s' n n' : Nat} {v v' : Value} {xs xs' : List Value} (h : W.ownsRow base e s v n xs) (h' : W.ownsRow base' e' s' v' n' xs') (hne : e ≠ e') : v.ownBlock = none ∨ v.ownBlock ≠ v'.ownBlock := by
  rcases h.2 with ⟨rfl, _⟩ | ⟨g, cap, cur, rfl, _, hb, _⟩
  · exact .inl rfl
  · refine .inr fun ee => ?_
    rcases h'.2 with ⟨rfl, _⟩ | ⟨g', cap', cur', rfl, _, hb', _⟩
    · simp [Value.ownBlock] at ee
    · obtain rfl : g = g' := by simpa [Value.ownBlock] using ee
      rw [hb] at hb'
      simp at hb'
      exact hne hb'.2

theorem fr_put4 (W : World) (g : Nat) (a' b' c' d' : Value) : Fr (fun j => j = g) W ((((W.setCell ⟨g, 0, none⟩ a').setCell ⟨g, 1, none⟩ b').setCell ⟨g, 2, none⟩ c').setCell ⟨g, 3, none⟩ d') :=
  ((((Fr.refl (fun j => j = g) W).set (b := g) (.inl rfl) _).set (b := g) (.inl rfl) _).set (b := g) (.inl rfl) _).set (b := g) (.inl rfl) _

set_option maxRecDepth 100000 in
set_option maxHeartbeats 8000000 in
theorem ropen_any (W : World) (A : Option Addr) (c n : Nat) (ws : List Nat) (hA : Reads W A (uv ws)) (hn : ws.length = n) (h1 : 1 ≤ n) (hn2 : n ≤ 65536) (hw : W64 ws) :
    Calls Try.prog 13 #[.slice A n c] W (ROpenP W ws) := by
  have HN := Lib.hid hn
  have HW := Lib.hid hw
  obtain ⟨b, off, rfl, hbl, hc⟩ := hA.u (by omega)
  have HC := Lib.hid hc
  have c0 := hc 0 (by omega)
  rw [Nat.add_zero] at c0
  have hw0 := hw.at 0
  have HE : Hid (openE ws = if hform (ws[0]?.getD 0) = false then 2 else if hbad (ws[0]?.getD 0) n = true then 24 else if allOk ws ((ws[0]?.getD 0) % 2048) = false then 24 else 0) := by show _ = _; rw [← HN.out]; rfl
  generalize hwq : ws[0]?.getD 0 = w at *
  have HWQ := Lib.hid hwq
  clear hwq hc hw hn hA
  have t1 : ¬ (n : Int) < 1 := by omega
  have HF := Lib.hid (form_iff w hw0)
  have e37 : bits .and .u64 ((w : Int) / 137438953472) 65535 = ((w / 137438953472 % 65536 : Nat) : Int) := by
    have e := u64_and_nat (w / 137438953472) 65535 (by omega) (by omega)
    have e3 := Nat.and_two_pow_sub_one_eq_mod (w / 137438953472) 16
    simp only [Nat.reducePow, Nat.reduceSub] at e3
    rw [e3] at e
    exact e
  have e11 : bits .and .u64 ((w : Int) / 2048) 127 = ((w / 2048 % 128 : Nat) : Int) := by
    have e := u64_and_nat (w / 2048) 127 (by omega) (by omega)
    have e3 := Nat.and_two_pow_sub_one_eq_mod (w / 2048) 7
    simp only [Nat.reducePow, Nat.reduceSub] at e3
    rw [e3] at e
    exact e
  have e18 : bits .and .u64 ((w : Int) / 262144) 3 = ((w / 262144 % 4 : Nat) : Int) := by
    have e := u64_and_nat (w / 262144) 3 (by omega) (by omega)
    have e3 := Nat.and_two_pow_sub_one_eq_mod (w / 262144) 2
    simp only [Nat.reducePow, Nat.reduceSub] at e3
    rw [e3] at e
    exact e
  have e20 : bits .and .u64 ((w : Int) / 1048576) 1 = ((w / 1048576 % 2 : Nat) : Int) := by
    have e := u64_and_nat (w / 1048576) 1 (by omega) (by omega)
    rw [Nat.and_one_is_mod] at e
    exact e
  have e00 : bits .and .u64 (w : Int) 2047 = ((w % 2048 : Nat) : Int) := by
    have e := u64_and_nat w 2047 hw0 (by omega)
    have e3 := Nat.and_two_pow_sub_one_eq_mod w 11
    simp only [Nat.reducePow, Nat.reduceSub] at e3
    rw [e3] at e
    exact e
  have e53 : (w : Int) / 9007199254740992 = ((w / 9007199254740992 : Nat) : Int) := by omega
  have HBD : Hid (hbad w n = decide (w / 9007199254740992 ≠ 0 ∨ w % 2048 < 1 ∨ 1024 < w % 2048 ∨ w / 2048 % 128 < 1 ∨ 64 < w / 2048 % 128 ∨ w / 262144 % 4 = 3 ∨ n < w % 2048 + 1)) := rfl
  have ha : w % 2048 < 2048 := Nat.mod_lt _ (by omega)
  have hb : w / 2048 % 128 < 128 := Nat.mod_lt _ (by omega)
  have hcc : w / 262144 % 4 < 4 := Nat.mod_lt _ (by omega)
  have hdd : w / 1048576 % 2 < 2 := Nat.mod_lt _ (by omega)
  have HRS := Lib.hid (rsum21_any w)
  generalize w / 137438953472 % 65536 = tg at *
  generalize hqA : w % 2048 = Q at *
  generalize hqB : w / 2048 % 128 = Bc at *
  generalize hqM : w / 262144 % 4 = M at *
  generalize hqO : w / 1048576 % 2 = O at *
  generalize hqz : w / 9007199254740992 = z53 at *
  have HQ := Lib.hid (And.intro hqA (And.intro hqB (And.intro hqM hqO)))
  clear hqA hqB hqM hqO hqz
  generalize hrs : rsum w 21 = rs at *
  have n0 : IntKind.i64.wrap (Q : Int) = Q := IntWalk.i64_in _ (by omega)
  have n1 : IntKind.i64.wrap (Bc : Int) = Bc := IntWalk.i64_in _ (by omega)
  have n2 : IntKind.i64.wrap (M : Int) = M := IntWalk.i64_in _ (by omega)
  have hO0 : ((O : Int) == 0) = decide (O = 0) := by rw [Bool.eq_iff_iff]; simp
  have hbE : Below W.heap.size W (W.alloc (.cells #[.slice none 0 0, .int .i64 0, .int .i64 0, .bool false] 41)) := (Below.refl _ W).alloc (Nat.le_refl _) _
  have hCE := Cs.new W 41 #[.slice none 0 0, .int .i64 0, .int .i64 0, .bool false]
  have c0' := (hbE.cell (p := ⟨b, off, none⟩) hbl).trans c0
  go_enter Try.func13, Try.ntmps13
  go_upto_region 4 with (fail)
  generalize (W.alloc (.cells #[.slice none 0 0, .int .i64 0, .int .i64 0, .bool false] 41)) = W0 at *
  go_cut [28] (fun s28 wx => s28 = .bool (!hform w) ∧ Below W0.heap.size W0 wx)
  case first =>
    by_cases q1 : tg = 17219
    · have t2 : ((tg : Int) != 17219) = false := by rw [q1]; rfl
      by_cases q2 : w = rs
      · have t3 : ((w : Int) != (rs : Int)) = false := by simp; omega
        have Q2 := Lib.hid q2
        clear q2
        go_wp2_with (go_at_call 41; refine (HRS.out W0 hw0).mono ?_; rintro e w1 ⟨rfl, hb1⟩)
        go_meet
        case rel => exact ⟨by rw [HF.out]; simp [q1, Q2.out], hb1⟩
      · have t3 : ((w : Int) != (rs : Int)) = true := by simp; omega
        go_wp2_with (go_at_call 41; refine (HRS.out W0 hw0).mono ?_; rintro e w1 ⟨rfl, hb1⟩)
        go_meet
        case rel => exact ⟨by rw [HF.out]; simp [q1, q2], hb1⟩
    · have t2 : ((tg : Int) != 17219) = true := by simp; omega
      go_wp2_with fail
      go_meet
      case rel => exact ⟨by rw [HF.out]; simp [q1], Below.refl _ _⟩
  case rest =>
    obtain ⟨rfl, hbx⟩ := hcut
    have HBX := Lib.hid (hbE.trans (hbx.mono hbE.size))
    have HCE := Lib.hid (hCE.below hbx hCE.lt)
    clear hbE hCE hbx c0' HRS e37
    have z0 : wc.cell? ⟨W.heap.size, 0, none⟩ = some (.slice none 0 0) := HCE.out.cell 0
    have z1 : wc.cell? ⟨W.heap.size, 1, none⟩ = some (.int .i64 0) := HCE.out.cell 1
    have z2 : wc.cell? ⟨W.heap.size, 2, none⟩ = some (.int .i64 0) := HCE.out.cell 2
    have z3 : wc.cell? ⟨W.heap.size, 3, none⟩ = some (.bool false) := HCE.out.cell 3
    have f0 := HCE.out.free 0
    have f1 := HCE.out.free 1
    have f2 := HCE.out.free 2
    have f3 := HCE.out.free 3
    by_cases hf : hform w = true
    rotate_left
    · have hf2 : hform w = false := by simpa using hf
      rw [hf2]
      have hE2 : openE ws = 2 := by rw [HE.out, if_pos hf2]
      go_wp2_with fail
      (try simp only [Exit.inBlock, Exit.then])
      refine bodyPost_ret (res_meta_tmp rfl _ _ W.heap.size _ _ _ _ rfl (Cs.put4 HCE.out _ _ _ _)) rfl ?_
      exact ⟨below_put4 HBX.out (Nat.le_refl _) _ _ _ _, .inl ⟨by rw [hE2]; decide, by rw [hE2]; rfl⟩⟩
    · rw [hf]
      have HE3 : Hid (openE ws = if hbad w n = true then 24 else if allOk ws Q = false then 24 else 0) := by show _ = _; rw [HE.out, if_neg (by simp [hf])]
      clear HE hf HF z0 z1 z2 z3 f0 f1 f2 f3
      go_upto_region 8 with (fail)
      have hC5 := Cs.new wc 41 #[.slice none 0 0, .int .i64 (Bc : Int), .int .i64 (M : Int), .bool (decide (O = 0))]
      have hb5 : Below wc.heap.size wc (wc.alloc (.cells #[.slice none 0 0, .int .i64 (Bc : Int), .int .i64 (M : Int), .bool (decide (O = 0))] 41)) := (Below.refl _ _).alloc (Nat.le_refl _) _
      have HCE1 := Lib.hid (HCE.out.below hb5 HCE.out.lt)
      have HB1 := Lib.hid (HBX.out.trans (hb5.mono HBX.out.size))
      have hszs : (wc.alloc (.cells #[.slice none 0 0, .int .i64 (Bc : Int), .int .i64 (M : Int), .bool (decide (O = 0))] 41)).heap.size = wc.heap.size + 1 := World.size_alloc _ _
      have hWs : W.heap.size < wc.heap.size := HCE.out.lt
      generalize (wc.alloc (.cells #[.slice none 0 0, .int .i64 (Bc : Int), .int .i64 (M : Int), .bool (decide (O = 0))] 41)) = W1 at *
      generalize wc.heap.size = s5 at *
      have m1 : W1.cell? ⟨s5, 1, none⟩ = some (.int .i64 (Bc : Int)) := hC5.cell 1
      have m2 : W1.cell? ⟨s5, 2, none⟩ = some (.int .i64 (M : Int)) := hC5.cell 2
      have HC5 := Lib.hid hC5
      clear hb5 hC5 HCE HBX hO0 e11 e18 e20 e00
      go_cut [78] (fun s78 wx => s78 = .bool (hbad w n) ∧ wx = W1)
      case first =>
        by_cases q1 : z53 = 0
        rotate_left
        · have t2 : ((z53 : Int) != 0) = true := by simp; omega
          have HMS : Hid (mSize (Q : Int) = mSize (Q : Int)) := rfl
          go_wp2_with (go_at_call 22; refine (rsize_any (Q : Int) W1).mono ?_; rintro e w6 ⟨rfl, rfl⟩; rw [HMS.out])
          go_meet
          case rel => exact ⟨by rw [HBD.out, decide_eq_true (by omega)], rfl⟩
        · have t2 : ((z53 : Int) != 0) = false := by simp; omega
          by_cases q2 : Q < 1
          · have t3 : (Q : Int) < 1 := by omega
            have HMS : Hid (mSize (Q : Int) = mSize (Q : Int)) := rfl
            go_wp2_with (go_at_call 22; refine (rsize_any (Q : Int) W1).mono ?_; rintro e w6 ⟨rfl, rfl⟩; rw [HMS.out])
            go_meet
            case rel => exact ⟨by rw [HBD.out, decide_eq_true (by omega)], rfl⟩
          · have t3 : ¬ (Q : Int) < 1 := by omega
            by_cases q2b : 1024 < Q
            · have t3b : (1024 : Int) < (Q : Int) := by omega
              have HMS : Hid (mSize (Q : Int) = mSize (Q : Int)) := rfl
              go_wp2_with (go_at_call 22; refine (rsize_any (Q : Int) W1).mono ?_; rintro e w6 ⟨rfl, rfl⟩; rw [HMS.out])
              go_meet
              case rel => exact ⟨by rw [HBD.out, decide_eq_true (by omega)], rfl⟩
            · have t3b : ¬ (1024 : Int) < (Q : Int) := by omega
              have HMS : Hid (mSize (Q : Int) = (Q : Int) + 1) := by show _ = _; unfold mSize; rw [if_neg (by omega)]
              by_cases q3 : Bc < 1
              · have t4 : (Bc : Int) < 1 := by omega
                go_wp2_with (go_at_call 22; refine (rsize_any (Q : Int) W1).mono ?_; rintro e w6 ⟨rfl, rfl⟩; rw [HMS.out])
                go_meet
                case rel => exact ⟨by rw [HBD.out, decide_eq_true (by omega)], rfl⟩
              · have t4 : ¬ (Bc : Int) < 1 := by omega
                by_cases q4 : 64 < Bc
                · have t5 : (64 : Int) < (Bc : Int) := by omega
                  go_wp2_with (go_at_call 22; refine (rsize_any (Q : Int) W1).mono ?_; rintro e w6 ⟨rfl, rfl⟩; rw [HMS.out])
                  go_meet
                  case rel => exact ⟨by rw [HBD.out, decide_eq_true (by omega)], rfl⟩
                · have t5 : ¬ (64 : Int) < (Bc : Int) := by omega
                  by_cases q5 : M = 3
                  · have t6 : ((M : Int) == 3) = true := by simp; omega
                    go_wp2_with (go_at_call 22; refine (rsize_any (Q : Int) W1).mono ?_; rintro e w6 ⟨rfl, rfl⟩; rw [HMS.out])
                    go_meet
                    case rel => exact ⟨by rw [HBD.out, decide_eq_true (by omega)], rfl⟩
                  · have t6 : ((M : Int) == 3) = false := by simp; omega
                    by_cases q6 : n < Q + 1
                    · have t7 : (n : Int) < (Q : Int) + 1 := by omega
                      go_wp2_with (go_at_call 22; refine (rsize_any (Q : Int) W1).mono ?_; rintro e w6 ⟨rfl, rfl⟩; rw [HMS.out])
                      go_meet
                      case rel => exact ⟨by rw [HBD.out, decide_eq_true (by omega)], rfl⟩
                    · have t7 : ¬ (n : Int) < (Q : Int) + 1 := by omega
                      go_wp2_with (go_at_call 22; refine (rsize_any (Q : Int) W1).mono ?_; rintro e w6 ⟨rfl, rfl⟩; rw [HMS.out])
                      go_meet
                      case rel => exact ⟨by rw [HBD.out]; congr 1; rw [Bool.eq_iff_iff]; simp; omega, rfl⟩
      case rest =>
        obtain ⟨rfl, rfl⟩ := hcut
        by_cases hbd : hbad w n = true
        · rw [hbd]
          have hE24 : openE ws = 24 := by rw [HE3.out, if_pos hbd]
          have z0 : wc.cell? ⟨W.heap.size, 0, none⟩ = some (.slice none 0 0) := HCE1.out.cell 0
          have z1 : wc.cell? ⟨W.heap.size, 1, none⟩ = some (.int .i64 0) := HCE1.out.cell 1
          have z2 : wc.cell? ⟨W.heap.size, 2, none⟩ = some (.int .i64 0) := HCE1.out.cell 2
          have z3 : wc.cell? ⟨W.heap.size, 3, none⟩ = some (.bool false) := HCE1.out.cell 3
          have f0 := HCE1.out.free 0
          have f1 := HCE1.out.free 1
          have f2 := HCE1.out.free 2
          have f3 := HCE1.out.free 3
          go_wp2_with fail
          (try simp only [Exit.inBlock, Exit.then])
          refine bodyPost_ret (res_meta_tmp rfl _ _ W.heap.size _ _ _ _ rfl (Cs.put4 HCE1.out _ _ _ _)) rfl ?_
          exact ⟨below_put4 HB1.out (Nat.le_refl _) _ _ _ _, .inl ⟨by rw [hE24]; decide, by rw [hE24]; rfl⟩⟩
        · have hbd2 : hbad w n = false := by simpa using hbd
          rw [hbd2]
          have hq := HBD.out
          rw [hbd2] at hq
          have hq2 := of_decide_eq_false hq.symm
          have qA : 1 ≤ Q ∧ Q ≤ 1024 ∧ Q + 1 ≤ n := by omega
          have HE4 : Hid (openE ws = if allOk ws Q = false then 24 else 0) := by show _ = _; rw [HE3.out, if_neg hbd]
          obtain ⟨ii, hii, hy0, hy1, hy2⟩ := info_parts int_info
          obtain ⟨is, his, hz0, hz1, hz2⟩ := info_parts slot_info
          clear hq hq2 hbd hbd2 HE3 HBD n0 n1 n2 m1 m2 e53 hb hcc hdd t1 c0
          go_wp2_with fail
          go_loopw [7, 8] (fun v i wr => ∃ (k : Nat) (vs : Value), k ≤ Q ∧ i = .int .i64 k ∧ Cs wr s5 41 #[vs, .int .i64 (Bc : Int), .int .i64 (M : Int), .bool (decide (O = 0))] ∧ Cs wr W.heap.size 41 #[.slice none 0 0, .int .i64 0, .int .i64 0, .bool false] ∧ wr.ownsRow (s5 + 1) 50 4 vs k (scs (slotsU ws k)) ∧ wr.ownsRow (s5 + 1) 3 1 v (seenB ws k).length (iv (seenB ws k)) ∧ (seenB ws k).length ≤ k ∧ allOk ws k = true ∧ Below W.heap.size W wr ∧ s5 + 1 ≤ wr.heap.size) (fun _ i _ => Q - (intOf i).toNat)
          case atStart => exact ⟨0, _, Nat.zero_le _, rfl, HC5.out, HCE1.out, World.ownsRow_nil _ _ _ _, World.ownsRow_nil _ _ _ _, Nat.zero_le _, rfl, HB1.out, by omega⟩
          case round =>
            rename World => wx
            obtain ⟨k, vs, hk, rfl, hC, hZ, hown, hsn, hsl, hok, hb, hsz⟩ := hrel
            obtain ⟨A3, c3, rfl⟩ := own_form hown
            obtain ⟨A7, c7, hv7⟩ := own_form hsn
            subst hv7
            have HCk := Lib.hid hC
            have HZk := Lib.hid hZ
            have HOk := Lib.hid hown
            have HSk := Lib.hid hsn
            have HBk := Lib.hid hb
            have HOKk := Lib.hid hok
            clear hC hZ hown hsn hb hok HC5 HCE1 HB1
            by_cases hlt : k < Q
            · have hcw := (HBk.out.cell (p := ⟨b, off + (1 + k), none⟩) hbl).trans (HC.out (1 + k) (by rw [HN.out]; omega))
              have hxl := HW.out.at (1 + k)
              have HOKA : Hid (okAt ws k = (slotOk (ws[1 + k]?.getD 0) && !((slotS (ws[1 + k]?.getD 0)).valid && decide ((slotS (ws[1 + k]?.getD 0)).block ∈ seenB ws k)))) := rfl
              have HSBS : Hid (seenB ws (k + 1) = if (slotS (ws[1 + k]?.getD 0)).valid = true then seenB ws k ++ [(slotS (ws[1 + k]?.getD 0)).block] else seenB ws k) := rfl
              have HSUS := Lib.hid (slotsU_succ ws k)
              generalize ws[1 + k]?.getD 0 = x at *
              have e1 : IntKind.i64.wrap (1 + (k : Int)) = 1 + k := IntWalk.i64_in _ (by omega)
              go_wp2_with fail
              refine (rfrom_any x wx hxl).mono ?_
              rintro e w5 ⟨s', rfl, hs', hb5⟩
              have HSX := Lib.hid hs'
              obtain ⟨sv, sd, sb, sst⟩ := s'
              unfold Sl.v
              go_upto_region 15 with (fail)
              clear hs' hcw e1
              have hb6 : Below w5.heap.size w5 (w5.alloc (.cells #[.bool sv, .bool sd, .int .i64 sb, .int .i64 sst] 50)) := (Below.refl _ _).alloc (Nat.le_refl _) _
              have hb56 := hb5.trans (hb6.mono hb5.size)
              have hCs := Cs.new w5 50 #[.bool sv, .bool sd, .int .i64 sb, .int .i64 sst]
              have HC6 := Lib.hid (HCk.out.below hb56 HCk.out.lt)
              have HZ6 := Lib.hid (HZk.out.below hb56 HZk.out.lt)
              have HO6 := Lib.hid (own_keepB HOk.out hb56)
              have HS6 := Lib.hid (own_keepB HSk.out hb56)
              have HB6 := Lib.hid (HBk.out.trans (hb56.mono HBk.out.size))
              have hsz6 : s5 + 1 ≤ (w5.alloc (.cells #[.bool sv, .bool sd, .int .i64 sb, .int .i64 sst] 50)).heap.size := Nat.le_trans hsz hb56.size
              have HOB : Hid (∀ b', (Value.slice A3 k c3).ownBlock = some b' → s5 + 1 ≤ b' ∧ b' < w5.heap.size) := fun b' hb' => ⟨own_base HOk.out b' hb', Nat.lt_of_lt_of_le (own_lt HOk.out b' hb') hb5.size⟩
              have HOB7 : Hid (∀ b', (Value.slice A7 (seenB ws k).length c7).ownBlock = some b' → s5 + 1 ≤ b' ∧ b' < w5.heap.size) := fun b' hb' => ⟨own_base HSk.out b' hb', Nat.lt_of_lt_of_le (own_lt HSk.out b' hb') hb5.size⟩
              have hl6 : w5.heap.size < (w5.alloc (.cells #[.bool sv, .bool sd, .int .i64 sb, .int .i64 sst] 50)).heap.size := hCs.lt
              have hsz5 : s5 + 1 ≤ w5.heap.size := Nat.le_trans hsz hb5.size
              generalize (w5.alloc (.cells #[.bool sv, .bool sd, .int .i64 sb, .int .i64 sst] 50)) = V at *
              generalize w5.heap.size = s6 at *
              have k0 : V.cell? ⟨s6, 0, none⟩ = some (.bool sv) := hCs.cell 0
              have k1 : V.cell? ⟨s6, 1, none⟩ = some (.bool sd) := hCs.cell 1
              have k2 : V.cell? ⟨s6, 2, none⟩ = some (.int .i64 sb) := hCs.cell 2
              have k3 : V.cell? ⟨s6, 3, none⟩ = some (.int .i64 sst) := hCs.cell 3
              clear hb6 hb56 hb5 HCk HZk HOk HSk HBk hCs hsz
              by_cases hsok : slotOk x = true
              rotate_left
              · have hsok2 : slotOk x = false := by simpa using hsok
                rw [hsok2]
                have hE24 : openE ws = 24 := by rw [HE4.out, if_pos (allOk_false ws k Q hlt (by rw [HOKA.out, hsok2]; rfl))]
                have z0 : V.cell? ⟨W.heap.size, 0, none⟩ = some (.slice none 0 0) := HZ6.out.cell 0
                have z1 : V.cell? ⟨W.heap.size, 1, none⟩ = some (.int .i64 0) := HZ6.out.cell 1
                have z2 : V.cell? ⟨W.heap.size, 2, none⟩ = some (.int .i64 0) := HZ6.out.cell 2
                have z3 : V.cell? ⟨W.heap.size, 3, none⟩ = some (.bool false) := HZ6.out.cell 3
                have f0 := HZ6.out.free 0
                have f1 := HZ6.out.free 1
                have f2 := HZ6.out.free 2
                have f3 := HZ6.out.free 3
                go_wp2_with fail
                (try simp only [Exit.inBlock, Exit.then])
                refine bodyPost_ret (res_meta_tmp rfl _ _ W.heap.size _ _ _ _ rfl (Cs.put4 HZ6.out _ _ _ _)) rfl ?_
                exact ⟨below_put4 HB6.out (Nat.le_refl _) _ _ _ _, .inl ⟨by rw [hE24]; decide, by rw [hE24]; rfl⟩⟩
              · rw [hsok]
                have hsx := HSX.out hsok
                rw [← hsx] at HOKA HSBS HSUS
                have HOK2 : Hid (okAt ws k = !(sv && decide (sb ∈ seenB ws k))) := by show _ = _; rw [HOKA.out, hsok]; rfl
                clear hsx HSX HOKA hsok
                generalize hSB : seenB ws k = L at *
                cases sv
                · have hS2 : seenB ws (k + 1) = L := by rw [HSBS.out]; rfl
                  have HS2 := Lib.hid hS2
                  have hokn : allOk ws (k + 1) = true := by rw [allOk, HOKk.out, HOK2.out]; rfl
                  have HOKN := Lib.hid hokn
                  clear hS2 hokn HSBS
                  by_cases h0L : (0 : Int) < (L.length : Int)
                  · go_wp2_with fail
                    refine wp_loop_rounds 1 ?_
                    rw [rounds_succ]
                    have y1 : V.cell? ⟨s5, 0, none⟩ = some (.slice A3 k c3) := HC6.out.cell 0
                    go_wp2_with (at_builtin; refine wpList_append_reads _ (by rfl) (.tmp 123) (.tmp 125) _ (by rfl) (s5 + 1) 50 is _ 4 24 Try.underlying39 his hz0 hz1 hz2 (by rfl) (by omega) (.slice A3 k c3) k (scs (slotsU ws k)) (by rfl) (HO6.out.alloc _) (some ⟨V.heap.size, 0, none⟩) 1 1 [.bool false, .bool sd, .int .i64 sb, .int .i64 sst] (by rfl) (by rfl) (Reads.new _ _ _) (by simp [Value.oneCell']) (by simp only [maxLen]; omega) (by omega) (by simp; omega) ?_; intro v9 w9 hown9 hg9 hat9; obtain ⟨A9, c9, hv9⟩ := own_form hown9; subst hv9; have hm5 : some s5 ≠ (Value.slice A3 k c3).ownBlock := (fun e => by have := (HOB.out s5 e.symm).1; omega); have HC9 := Lib.hid ((HC6.out.alloc _).grown hg9 hm5); have c90 : w9.cell? ⟨s5, 0, none⟩ = some (.slice A3 k c3) := HC9.out.cell 0; have f90 := HC9.out.free 0)
                    have hmW : some W.heap.size ≠ (Value.slice A3 k c3).ownBlock := fun e => by have := (HOB.out _ e.symm).1; omega
                    have hrow : w9.ownsRow (s5 + 1) 50 4 (.slice A9 (k + 1) c9) (k + 1) (scs (slotsU ws (k + 1))) := by
                      have e : scs (slotsU ws (k + 1)) = scs (slotsU ws k) ++ [.bool false, .bool sd, .int .i64 sb, .int .i64 sst] := by rw [HSUS.out, scs_snoc]; rfl
                      rw [e]
                      exact hown9
                    have hdiff := own_ne (HS6.out.alloc (.cells #[.bool false, .bool sd, .int .i64 sb, .int .i64 sst] 50)) (HO6.out.alloc (.cells #[.bool false, .bool sd, .int .i64 sb, .int .i64 sst] 50)) (by decide)
                    have hs9 := (HS6.out.alloc _).kept hg9 hdiff
                    have hfs := fr_set w9 s5 0 (.slice A9 (k + 1) c9)
                    have HCF : Hid (Cs (w9.setCell ⟨s5, 0, none⟩ (.slice A9 (k + 1) c9)) s5 41 #[.slice A9 (k + 1) c9, .int .i64 (Bc : Int), .int .i64 (M : Int), .bool (decide (O = 0))]) := heap_setCell_same w9 s5 0 _ _ (.slice A9 (k + 1) c9) HC9.out
                    have HZF := Lib.hid (((HZ6.out.alloc _).grown hg9 hmW).fr hfs (by show ¬ _ = _; omega))
                    have HOF := Lib.hid (own_fr hrow hfs (fun b' hb' e => by have := own_base hrow b' hb'; omega))
                    have HSF := Lib.hid (own_fr hs9 hfs (fun b' hb' e => by have := own_base hs9 b' hb'; omega))
                    have hBA : Below W.heap.size W (V.alloc (.cells #[.bool false, .bool sd, .int .i64 sb, .int .i64 sst] 50)) := HB6.out.alloc HB6.out.size _
                    have HBF := Lib.hid ((hBA.grown hg9 hBA.size (fun j e => by have := (HOB.out j e).1; omega)).setCell (p := ⟨s5, 0, none⟩) (Nat.le_of_lt hWs) (.slice A9 (k + 1) c9))
                    have hszF : s5 + 1 ≤ (w9.setCell ⟨s5, 0, none⟩ (.slice A9 (k + 1) c9)).heap.size := by
                      rw [World.size_setCell]
                      exact Nat.le_trans (Nat.le_trans hsz6 (by simp)) hg9.size
                    clear hown9 hg9 hat9 hrow hs9 hfs hdiff hmW hm5 hBA
                    go_wp2_with fail
                    go_roundw
                    case rel => exact ⟨k + 1, _, by omega, by go_num, HCF.out, HZF.out, HOF.out, by rw [HS2.out]; exact HSF.out, by rw [HS2.out]; omega, HOKN.out, HBF.out, hszF⟩
                    case measure => simp [intOf]; omega
                  · go_wp2_with fail
                    refine wp_loop_rounds 1 ?_
                    rw [rounds_succ]
                    have y1 : V.cell? ⟨s5, 0, none⟩ = some (.slice A3 k c3) := HC6.out.cell 0
                    go_wp2_with (at_builtin; refine wpList_append_reads _ (by rfl) (.tmp 123) (.tmp 125) _ (by rfl) (s5 + 1) 50 is _ 4 24 Try.underlying39 his hz0 hz1 hz2 (by rfl) (by omega) (.slice A3 k c3) k (scs (slotsU ws k)) (by rfl) (HO6.out.alloc _) (some ⟨V.heap.size, 0, none⟩) 1 1 [.bool false, .bool sd, .int .i64 sb, .int .i64 sst] (by rfl) (by rfl) (Reads.new _ _ _) (by simp [Value.oneCell']) (by simp only [maxLen]; omega) (by omega) (by simp; omega) ?_; intro v9 w9 hown9 hg9 hat9; obtain ⟨A9, c9, hv9⟩ := own_form hown9; subst hv9; have hm5 : some s5 ≠ (Value.slice A3 k c3).ownBlock := (fun e => by have := (HOB.out s5 e.symm).1; omega); have HC9 := Lib.hid ((HC6.out.alloc _).grown hg9 hm5); have c90 : w9.cell? ⟨s5, 0, none⟩ = some (.slice A3 k c3) := HC9.out.cell 0; have f90 := HC9.out.free 0)
                    have hmW : some W.heap.size ≠ (Value.slice A3 k c3).ownBlock := fun e => by have := (HOB.out _ e.symm).1; omega
                    have hrow : w9.ownsRow (s5 + 1) 50 4 (.slice A9 (k + 1) c9) (k + 1) (scs (slotsU ws (k + 1))) := by
                      have e : scs (slotsU ws (k + 1)) = scs (slotsU ws k) ++ [.bool false, .bool sd, .int .i64 sb, .int .i64 sst] := by rw [HSUS.out, scs_snoc]; rfl
                      rw [e]
                      exact hown9
                    have hdiff := own_ne (HS6.out.alloc (.cells #[.bool false, .bool sd, .int .i64 sb, .int .i64 sst] 50)) (HO6.out.alloc (.cells #[.bool false, .bool sd, .int .i64 sb, .int .i64 sst] 50)) (by decide)
                    have hs9 := (HS6.out.alloc _).kept hg9 hdiff
                    have hfs := fr_set w9 s5 0 (.slice A9 (k + 1) c9)
                    have HCF : Hid (Cs (w9.setCell ⟨s5, 0, none⟩ (.slice A9 (k + 1) c9)) s5 41 #[.slice A9 (k + 1) c9, .int .i64 (Bc : Int), .int .i64 (M : Int), .bool (decide (O = 0))]) := heap_setCell_same w9 s5 0 _ _ (.slice A9 (k + 1) c9) HC9.out
                    have HZF := Lib.hid (((HZ6.out.alloc _).grown hg9 hmW).fr hfs (by show ¬ _ = _; omega))
                    have HOF := Lib.hid (own_fr hrow hfs (fun b' hb' e => by have := own_base hrow b' hb'; omega))
                    have HSF := Lib.hid (own_fr hs9 hfs (fun b' hb' e => by have := own_base hs9 b' hb'; omega))
                    have hBA : Below W.heap.size W (V.alloc (.cells #[.bool false, .bool sd, .int .i64 sb, .int .i64 sst] 50)) := HB6.out.alloc HB6.out.size _
                    have HBF := Lib.hid ((hBA.grown hg9 hBA.size (fun j e => by have := (HOB.out j e).1; omega)).setCell (p := ⟨s5, 0, none⟩) (Nat.le_of_lt hWs) (.slice A9 (k + 1) c9))
                    have hszF : s5 + 1 ≤ (w9.setCell ⟨s5, 0, none⟩ (.slice A9 (k + 1) c9)).heap.size := by
                      rw [World.size_setCell]
                      exact Nat.le_trans (Nat.le_trans hsz6 (by simp)) hg9.size
                    clear hown9 hg9 hat9 hrow hs9 hfs hdiff hmW hm5 hBA
                    go_wp2_with fail
                    go_roundw
                    case rel => exact ⟨k + 1, _, by omega, by go_num, HCF.out, HZF.out, HOF.out, by rw [HS2.out]; exact HSF.out, by rw [HS2.out]; omega, HOKN.out, HBF.out, hszF⟩
                    case measure => simp [intOf]; omega
                · have hS2 : seenB ws (k + 1) = L ++ [sb] := by rw [HSBS.out]; rfl
                  have HS2 := Lib.hid hS2
                  clear hS2 HSBS
                  go_wp2_with fail
                  go_loopw [11] (fun j wr => ∃ (jj q : Nat), jj ≤ L.length ∧ j = .int .i64 jj ∧ wr = V.drewN q ∧ Hid (∀ i, i < jj → L[i]?.getD 0 ≠ sb)) (fun j _ => L.length - (intOf j).toNat)
                  case atStart => exact ⟨0, 0, Nat.zero_le _, rfl, rfl, fun i hi => absurd hi (by omega)⟩
                  case round =>
                    obtain ⟨jj, q, hjj, rfl, rfl, hne⟩ := hrel
                    by_cases hjl : jj < L.length
                    · obtain ⟨b7, cap7, hA, -, hb7⟩ := HS6.out.form (by omega)
                      injection hA with hA2 _ hcap
                      subst hA2
                      subst hcap
                      have cj := (HS6.out.cellAt jj (by omega)).trans (iv_at L jj hjl)
                      have t1 : (jj : Int) < (L.length : Int) := by omega
                      have HIN : Hid (L[jj]?.getD 0 ∈ L) := by
                        show _ ∈ _
                        rw [List.getElem?_eq_getElem hjl, Option.getD_some]
                        exact List.getElem_mem _
                      have HNX : Hid (L[jj]?.getD 0 ≠ sb → ∀ i, i < jj + 1 → L[i]?.getD 0 ≠ sb) := fun h i hi => by
                        by_cases e : i = jj
                        · rw [e]; exact h
                        · exact hne.out i (by omega)
                      generalize L[jj]?.getD 0 = y at *
                      by_cases hy : y = sb
                      · have hyb : (y == sb) = true := by simpa using hy
                        have hE24 : openE ws = 24 := by
                          rw [HE4.out, if_pos (allOk_false ws k Q hlt _)]
                          rw [HOK2.out, decide_eq_true (hy ▸ HIN.out)]
                          rfl
                        clear hy
                        have z0 : V.cell? ⟨W.heap.size, 0, none⟩ = some (.slice none 0 0) := HZ6.out.cell 0
                        have f0 := HZ6.out.free 0
                        have z1 : V.cell? ⟨W.heap.size, 1, none⟩ = some (.int .i64 0) := HZ6.out.cell 1
                        have f1 := HZ6.out.free 1
                        have z2 : V.cell? ⟨W.heap.size, 2, none⟩ = some (.int .i64 0) := HZ6.out.cell 2
                        have f2 := HZ6.out.free 2
                        have z3 : V.cell? ⟨W.heap.size, 3, none⟩ = some (.bool false) := HZ6.out.cell 3
                        have f3 := HZ6.out.free 3
                        go_wp2_with fail
                        go_quiet (fail)
                        go_wp2_with fail
                        (try simp only [Exit.inBlock, Exit.then])
                        refine bodyPost_ret (res_meta_tmp rfl _ _ W.heap.size _ _ _ _ rfl (Cs.put4 (show Cs (V.drewN _) W.heap.size _ _ from HZ6.out) _ _ _ _)) rfl ?_
                        exact ⟨below_put4 (below_drewN HB6.out _) (Nat.le_refl _) _ _ _ _, .inl ⟨by rw [hE24]; decide, by rw [hE24]; rfl⟩⟩
                      · have hyb : (y == sb) = false := by simpa using hy
                        go_wp2_with fail
                        go_quiet (fail)
                        go_wp2_with fail
                        go_roundw
                        case rel => exact ⟨jj + 1, _, by omega, by go_num, rfl, HNX.out hy⟩
                        case measure => simp [intOf]; omega
                    · have hjL : jj = L.length := by omega
                      have hnm : ¬ sb ∈ L := by
                        intro hm
                        obtain ⟨i, hi, e⟩ := List.getElem_of_mem hm
                        have := hne.out i (by omega)
                        rw [List.getElem?_eq_getElem hi, Option.getD_some] at this
                        exact this e
                      have hokn : allOk ws (k + 1) = true := by rw [allOk, HOKk.out, HOK2.out, decide_eq_false hnm]; rfl
                      have HOKN := Lib.hid hokn
                      have hbq := below_drewN (Below.refl V.heap.size V) q
                      have HC7 := Lib.hid (HC6.out.below hbq HC6.out.lt)
                      have HZ7 := Lib.hid (HZ6.out.below hbq HZ6.out.lt)
                      have HO7 := Lib.hid (own_keepB HO6.out hbq)
                      have HS7 := Lib.hid (own_keepB HS6.out hbq)
                      have HB7 := Lib.hid (below_drewN HB6.out q)
                      have hsz7 : s5 + 1 ≤ (V.drewN q).heap.size := hsz6
                      have hl7 : s6 < (V.drewN q).heap.size := hl6
                      have l0 : (V.drewN q).cell? ⟨s6, 0, none⟩ = some (.bool true) := k0
                      have l1 : (V.drewN q).cell? ⟨s6, 1, none⟩ = some (.bool sd) := k1
                      have l2 : (V.drewN q).cell? ⟨s6, 2, none⟩ = some (.int .i64 sb) := k2
                      have l3 : (V.drewN q).cell? ⟨s6, 3, none⟩ = some (.int .i64 sst) := k3
                      clear hokn hbq k0 k1 k2 k3 HC6 HZ6 HO6 HS6 HB6 hsz6 hl6
                      generalize V.drewN q = U at *
                      have t1 : ¬ (jj : Int) < (L.length : Int) := by omega
                      go_upto_region 24 with (at_builtin; refine wpList_append_reads _ (by rfl) (.tmp 117) (.tmp 120) _ (by rfl) (s5 + 1) 3 ii _ 1 8 Try.underlying22 hii hy0 hy1 hy2 (by rfl) (by omega) (.slice A7 L.length c7) L.length (iv L) (by rfl) (HS7.out.alloc _) (some ⟨U.heap.size, 0, none⟩) 1 1 [.int .i64 sb] (by rfl) (by rfl) (Reads.new _ _ _) (by simp [Value.oneCell']) (by simp only [maxLen]; omega) (by omega) (by simp; omega) ?_; intro v8 w8 hown8 hg8 hat8; obtain ⟨A8, c8, hv8⟩ := own_form hown8; subst hv8)
                      have hm7 : some s5 ≠ (Value.slice A7 L.length c7).ownBlock := fun e => by have := (HOB7.out s5 e.symm).1; omega
                      have hz7 : some W.heap.size ≠ (Value.slice A7 L.length c7).ownBlock := fun e => by have := (HOB7.out _ e.symm).1; omega
                      have hs7 : some s6 ≠ (Value.slice A7 L.length c7).ownBlock := fun e => by have := (HOB7.out s6 e.symm).2; omega
                      have hdif := own_ne (HO7.out.alloc (.cells #[.int .i64 sb] 3)) (HS7.out.alloc (.cells #[.int .i64 sb] 3)) (by decide)
                      have hba : Below U.heap.size U (U.alloc (.cells #[.int .i64 sb] 3)) := (Below.refl _ _).alloc (Nat.le_refl _) _
                      have HC8 := Lib.hid ((HC7.out.alloc _).grown hg8 hm7)
                      have HZ8 := Lib.hid ((HZ7.out.alloc _).grown hg8 hz7)
                      have HO8 := Lib.hid ((HO7.out.alloc _).kept hg8 hdif)
                      have HS8 : Hid (w8.ownsRow (s5 + 1) 3 1 (.slice A8 (L.length + 1) c8) (L ++ [sb]).length (iv (L ++ [sb]))) := by
                        show w8.ownsRow _ _ _ _ _ _
                        rw [iv_append, List.length_append]
                        exact hown8
                      have hBA8 : Below W.heap.size W (U.alloc (.cells #[.int .i64 sb] 3)) := HB7.out.alloc HB7.out.size _
                      have HB8 := Lib.hid (hBA8.grown hg8 hBA8.size (fun j e => by have := (HOB7.out j e).1; omega))
                      have hsz8 : s5 + 1 ≤ w8.heap.size := Nat.le_trans (Nat.le_trans hsz7 hba.size) hg8.size
                      have k0 := hg8.cell (a := ⟨s6, 0, none⟩) ((hba.cell (p := ⟨s6, 0, none⟩) hl7).trans l0) hs7
                      have k1 := hg8.cell (a := ⟨s6, 1, none⟩) ((hba.cell (p := ⟨s6, 1, none⟩) hl7).trans l1) hs7
                      have k2 := hg8.cell (a := ⟨s6, 2, none⟩) ((hba.cell (p := ⟨s6, 2, none⟩) hl7).trans l2) hs7
                      have k3 := hg8.cell (a := ⟨s6, 3, none⟩) ((hba.cell (p := ⟨s6, 3, none⟩) hl7).trans l3) hs7
                      clear hown8 hg8 hat8 hm7 hz7 hs7 hdif hba hBA8 l0 l1 l2 l3 HC7 HZ7 HO7 HS7 HB7 hsz7
                      have y1 : w8.cell? ⟨s5, 0, none⟩ = some (.slice A3 k c3) := HC8.out.cell 0
                      go_wp2_with (at_builtin; refine wpList_append_reads _ (by rfl) (.tmp 123) (.tmp 125) _ (by rfl) (s5 + 1) 50 is _ 4 24 Try.underlying39 his hz0 hz1 hz2 (by rfl) (by omega) (.slice A3 k c3) k (scs (slotsU ws k)) (by rfl) (HO8.out.alloc _) (some ⟨w8.heap.size, 0, none⟩) 1 1 [.bool true, .bool sd, .int .i64 sb, .int .i64 sst] (by rfl) (by rfl) (Reads.new _ _ _) (by simp [Value.oneCell']) (by simp only [maxLen]; omega) (by omega) (by simp; omega) ?_; intro v9 w9 hown9 hg9 hat9; obtain ⟨A9, c9, hv9⟩ := own_form hown9; subst hv9; have hm5 : some s5 ≠ (Value.slice A3 k c3).ownBlock := (fun e => by have := (HOB.out s5 e.symm).1; omega); have HC9 := Lib.hid ((HC8.out.alloc _).grown hg9 hm5); have c90 : w9.cell? ⟨s5, 0, none⟩ = some (.slice A3 k c3) := HC9.out.cell 0; have f90 := HC9.out.free 0)
                      have hmW : some W.heap.size ≠ (Value.slice A3 k c3).ownBlock := fun e => by have := (HOB.out _ e.symm).1; omega
                      have hrow : w9.ownsRow (s5 + 1) 50 4 (.slice A9 (k + 1) c9) (k + 1) (scs (slotsU ws (k + 1))) := by
                        have e : scs (slotsU ws (k + 1)) = scs (slotsU ws k) ++ [.bool true, .bool sd, .int .i64 sb, .int .i64 sst] := by rw [HSUS.out, scs_snoc]; rfl
                        rw [e]
                        exact hown9
                      have hdiff := own_ne (HS8.out.alloc (.cells #[.bool true, .bool sd, .int .i64 sb, .int .i64 sst] 50)) (HO8.out.alloc (.cells #[.bool true, .bool sd, .int .i64 sb, .int .i64 sst] 50)) (by decide)
                      have hs9 := (HS8.out.alloc _).kept hg9 hdiff
                      have hfs := fr_set w9 s5 0 (.slice A9 (k + 1) c9)
                      have HCF : Hid (Cs (w9.setCell ⟨s5, 0, none⟩ (.slice A9 (k + 1) c9)) s5 41 #[.slice A9 (k + 1) c9, .int .i64 (Bc : Int), .int .i64 (M : Int), .bool (decide (O = 0))]) := heap_setCell_same w9 s5 0 _ _ (.slice A9 (k + 1) c9) HC9.out
                      have HZF := Lib.hid (((HZ8.out.alloc _).grown hg9 hmW).fr hfs (by show ¬ _ = _; omega))
                      have HOF := Lib.hid (own_fr hrow hfs (fun b' hb' e => by have := own_base hrow b' hb'; omega))
                      have HSF := Lib.hid (own_fr hs9 hfs (fun b' hb' e => by have := own_base hs9 b' hb'; omega))
                      have hBA : Below W.heap.size W (w8.alloc (.cells #[.bool true, .bool sd, .int .i64 sb, .int .i64 sst] 50)) := HB8.out.alloc HB8.out.size _
                      have HBF := Lib.hid ((hBA.grown hg9 hBA.size (fun j e => by have := (HOB.out j e).1; omega)).setCell (p := ⟨s5, 0, none⟩) (Nat.le_of_lt hWs) (.slice A9 (k + 1) c9))
                      have hszF : s5 + 1 ≤ (w9.setCell ⟨s5, 0, none⟩ (.slice A9 (k + 1) c9)).heap.size := by
                        rw [World.size_setCell]
                        exact Nat.le_trans (Nat.le_trans hsz8 (by simp)) hg9.size
                      clear hown9 hg9 hat9 hrow hs9 hfs hdiff hmW hm5 hBA
                      go_wp2_with fail
                      go_roundw
                      case rel => exact ⟨k + 1, _, by omega, by go_num, HCF.out, HZF.out, HOF.out, by rw [HS2.out]; exact HSF.out, by rw [HS2.out, List.length_append]; simp; omega, HOKN.out, HBF.out, hszF⟩
                      case measure => simp [intOf]; omega
            · have hkn : k = Q := by omega
              subst hkn
              have hok1 := HOKk.out
              obtain ⟨y0, y1, y2, y3⟩ := (⟨HCk.out.cell 0, HCk.out.cell 1, HCk.out.cell 2, HCk.out.cell 3⟩ : wx.cell? ⟨s5, 0, none⟩ = some (.slice A3 k c3) ∧ wx.cell? ⟨s5, 1, none⟩ = some (.int .i64 (Bc : Int)) ∧ wx.cell? ⟨s5, 2, none⟩ = some (.int .i64 (M : Int)) ∧ wx.cell? ⟨s5, 3, none⟩ = some (.bool (decide (O = 0))))
              have z0 : wx.cell? ⟨W.heap.size, 0, none⟩ = some (.slice none 0 0) := HZk.out.cell 0
              have z1 : wx.cell? ⟨W.heap.size, 1, none⟩ = some (.int .i64 0) := HZk.out.cell 1
              have z2 : wx.cell? ⟨W.heap.size, 2, none⟩ = some (.int .i64 0) := HZk.out.cell 2
              have z3 : wx.cell? ⟨W.heap.size, 3, none⟩ = some (.bool false) := HZk.out.cell 3
              have f0 := HZk.out.free 0
              have f1 := HZk.out.free 1
              have f2 := HZk.out.free 2
              have f3 := HZk.out.free 3
              go_wp2_with fail
              (try simp only [Exit.inBlock, Exit.then])
              refine bodyPost_ret (res_meta_tmp rfl _ _ W.heap.size _ _ _ _ rfl (Cs.put4 HZk.out _ _ _ _)) rfl ?_
              refine ⟨below_put4 HBk.out (Nat.le_refl _) _ _ _ _, .inr ⟨by rw [HE4.out, hok1]; rfl, .slice A3 k c3, ?_, ?_⟩⟩
              · have e := HWQ.out
                obtain ⟨q1, q2, q3, q4⟩ := HQ.out
                rw [e, q2, q3, q4]
                rfl
              · have e := HWQ.out
                obtain ⟨q1, q2, q3, q4⟩ := HQ.out
                rw [e, q1]
                exact own_lower (own_fr HOk.out (fr_put4 wx W.heap.size _ _ _ _) (fun b' hb' e => by have := own_base HOk.out b' hb'; omega)) (by omega)
end Go.Proofs.Ytpiffapnbjnjiaa
