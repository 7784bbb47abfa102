/-
  Merged texts (VolQ SndV SndW SndX RvS VpP VpQ RvT RvU RvV RowSV): what the row proofs use of them.
-/
import Derived.Test.YtogchafnnkajfaaGreatSb6
import Derived.BigQuiet
import Derived.Deep.QuietTactic
import Derived.Deep.Slices
import Derived.Deep.Fields
import Derived.ChangeSame
namespace Go.Proofs.YtogchafnnkajfaaGreat
set_option linter.unusedVariables false
open Go.RowKit
attribute [local go_sem] Oper.semAt_some m_write m_read m_flush m_size

theorem zero_fn (w : World) : (zeroValue 99).run Tryz.prog w = .ok .nilFunc w := by kernel_rfl
/-- A mode is looked up. -/
theorem modes_look (w : World) (b : Nat) (h : w.ownsMap Tryz.prog 3 fnR b 2 ModesD) (mode : Int) (hm : mode = 1 ∨ mode = 2) :
    (Instr.lookup 103 (.map (some b)) (.int .i64 mode) true).run Tryz.prog w = .ok (.tuple #[putV (decide (mode = 2)), .bool true]) w := by
  have key : ∀ (n : Nat) (mode : Int), ModesD.atKey (.int .i64 mode) (.lit (.bool false)) = .lit (.int .i64 (n : Int)) → Maps.has ModesD (.int .i64 mode) = true → -9223372036854775808 ≤ mode ∧ mode ≤ 9223372036854775807 →
      (Instr.lookup 103 (.map (some b)) (.int .i64 mode) true).run Tryz.prog w = .ok (.tuple #[.func (.func n) #[] #[], .bool true]) w := by
    intro n mode h1 h2 hb
    obtain ⟨v, ps, hrun, hv⟩ := h.look_ok (Maps.int_keyed Tryz.underlying3) Tryz.underlying103 (zero_fn w) (zd := .lit (.bool false)) (zp := []) rfl (Maps.keyOf_int_mk Tryz.underlying3 (i64_wf mode hb))
    rw [h1] at hv
    rw [fnR_inv hv, h2] at hrun
    exact hrun
  rcases hm with rfl | rfl
  · exact key _ 1 rfl rfl (by omega)
  · exact key _ 2 rfl rfl (by omega)
theorem modes_none (w : World) (b : Nat) (h : w.ownsMap Tryz.prog 3 fnR b 2 ModesD) (mode : Int) (h1 : mode ≠ 1) (h2 : mode ≠ 2) (hb : -9223372036854775808 ≤ mode ∧ mode ≤ 9223372036854775807) :
    ∃ v, (Instr.lookup 103 (.map (some b)) (.int .i64 mode) true).run Tryz.prog w = .ok (.tuple #[v, .bool false]) w := by
  obtain ⟨v, ps, hrun, hv⟩ := h.look_ok (Maps.int_keyed Tryz.underlying3) Tryz.underlying103 (zero_fn w) (zd := .lit (.bool false)) (zp := []) rfl (Maps.keyOf_int_mk Tryz.underlying3 (i64_wf mode hb))
  have hh : Maps.has ModesD (.int .i64 mode) = false := by
    unfold ModesD
    rw [Maps.has_put_other (by intro e; injection e with _ e; exact h2 e), Maps.has_put_other (by intro e; injection e with _ e; exact h1 e)]
    rfl
  rw [hh] at hrun
  exact ⟨v, hrun⟩

/-- What Open leaves. -/
def OpnP (W : World) (F0 : Nat → Prop) (g s0 s1 s2 n0 n1 n2 : Nat) (S : DS) (mode : Int) (e : Ending) (w : World) : Prop :=
  (opnE (S.now 2) n0 n1 mode ≠ 0 ∧ e = .returned (.tuple #[.pointer none, .int .i64 (opnE (S.now 2) n0 n1 mode)]) ∧ ∃ F', Turn F0 F' W w) ∨
  (opnE (S.now 2) n0 n1 mode = 0 ∧ ∃ m v Fv', e = .returned (.tuple #[.pointer (some ⟨v, 0, none⟩), .int .i64 0]) ∧ VolAt w Fv' ⟨g, s0, s1, s2, m, v, n0, n1, n2, opC (S.now 2)⟩ ((opn0 S mode).bgn ⟨g, s0, s1, s2, m, v, n0, n1, n2, opC (S.now 2)⟩ mode) ∧ Turn F0 Fv' W w)

set_option maxRecDepth 100000 in
set_option maxHeartbeats 8000000 in
theorem vopen_any (W : World) (F F0 : Nat → Prop) (g s0 s1 s2 n0 n1 n2 : Nat) (S : DS) (mode : Int) (h : DskAt W F g S) (hs0 : SpanAt W s0 g 0 n0) (hs1 : SpanAt W s1 g 1 n1) (hs2 : SpanAt W s2 g 2 n2) (hf : ∀ j, F j → F0 j) (hf0 : F0 s0) (hf1 : F0 s1) (hf2 : F0 s2) (hF0 : ¬ F s0) (hF1 : ¬ F s1) (hF2 : ¬ F s2) (h02 : s0 ≠ s2) (h12 : s1 ≠ s2)
    (hea : Hea S [n0, n1, n2]) (hdn : S.down = false) (hfu : S.fuse = 0) (hw : W64 (S.now 2)) (hn0 : n0 ≤ 65536) (hn1 : n1 ≤ 65536) (hn2 : n2 ≤ 65536) (hn2' : 1 ≤ n2) (hlog : S.log.length ≤ 700000) (hwr : S.wr ≤ 700000) (hmo : -9223372036854775808 ≤ mode ∧ mode ≤ 9223372036854775807) :
    Calls Tryz.prog 24 #[spanV s0, spanV s1, spanV s2, .int .i64 mode] W (OpnP W F0 g s0 s1 s2 n0 n1 n2 S mode) := by
  have HMD := Lib.hid (modes_any W)
  have HD := Lib.hid h
  have HS0 := Lib.hid hs0
  have HS1 := Lib.hid hs1
  have HS2 := Lib.hid hs2
  have HNF : Hid (∀ c, NF ⟨g, s0, s1, s2, c, c, n0, n1, n2, c⟩ S) := fun c => ⟨hea, hdn, hfu⟩
  have HL2 : Hid ((S.now 2).length = n2) := (hea.nn 2 n2 rfl).1
  have HE : Hid (opnE (S.now 2) n0 n1 mode = if mode ≠ 1 ∧ mode ≠ 2 then 1 else if openE (S.now 2) ≠ 0 then openE (S.now 2) else if n1 < opK (S.now 2) * opC (S.now 2) then 3 else if badS (slotsU (S.now 2) (opK (S.now 2))) (n0 / opC (S.now 2)) = true then 24 else 0) := rfl
  have HF : Hid (∀ j, F j → F0 j) := hf
  have HW64 := Lib.hid hw
  clear h hs0 hs1 hs2 hf hea hdn hfu hw
  unfold spanV
  go_enter Tryz.func24, Tryz.ntmps24
  by_cases hm : mode ≠ 1 ∧ mode ≠ 2
  · have HE1 : Hid (opnE (S.now 2) n0 n1 mode = 1) := HE.out.trans (if_pos hm)
    go_upto_region 2 with (go_at_call 56; refine HMD.out.mono ?_; rintro e w1 ⟨rfl, ho1, hb1⟩; have HB1 := Lib.hid hb1; obtain ⟨vz, hlk⟩ := modes_none w1 _ ho1 mode hm.1 hm.2 hmo; clear ho1 hb1)
    go_wp2_with fail
    go_ret2
    refine .inl ?_
    rw [HE1.out]
    exact ⟨by decide, rfl, F0, Turn.of_below HB1.out⟩
  · have HE1 := Lib.hid (HE.out.trans (if_neg hm))
    have hm12 : mode = 1 ∨ mode = 2 := by
      by_cases e1 : mode = 1
      · exact .inl e1
      · by_cases e2 : mode = 2
        · exact .inr e2
        · exact absurd ⟨e1, e2⟩ hm
    have HM := Lib.hid hm12
    obtain ⟨N, hN⟩ : ∃ N : Nat, (if decide (mode = 2) = true then 102 else 101) = N := ⟨_, rfl⟩
    have HN : Hid (putV (decide (mode = 2)) = .func (.func N) #[] #[]) := by show _ = _; unfold putV; rw [hN]
    clear hm hm12 HE hN
    go_upto_region 4 with (go_at_call 56; refine HMD.out.mono ?_; rintro e w1 ⟨rfl, ho1, hb1⟩; have HB1 := Lib.hid hb1; have hlk := modes_look w1 _ ho1 mode HM.out; rw [HN.out] at hlk; clear ho1 hb1)
    have HD1 := Lib.hid (HD.out.keep HB1.out)
    have HS01 := Lib.hid (Cs.below HS0.out HB1.out HS0.out.lt)
    have HS11 := Lib.hid (Cs.below HS1.out HB1.out HS1.out.lt)
    have HS21 := Lib.hid (Cs.below HS2.out HB1.out HS2.out.lt)
    have HOP := Lib.hid (openK w1 F g s2 n2 (S.now 2) S HD1.out HS21.out hF2 ((HNF.out 0).fl (i := 2) (n := n2) rfl).1 (by
      intro a h1 h2
      obtain ⟨-, hN, hs, -⟩ := (HNF.out 0).fl (i := 2) (n := n2) rfl
      have := (rd_out hN.hea hN.dn (i := 2) (n := n2) rfl a.toNat (by omega)).1
      rw [show ((a.toNat : Nat) : Int) = a by omega] at this
      exact this) (by
      intro a h1 h2
      obtain ⟨-, hN, hs, -⟩ := (HNF.out 0).fl (i := 2) (n := n2) rfl
      have := (rd_out hN.hea hN.dn (i := 2) (n := n2) rfl a.toNat (by omega)).2
      rw [show ((a.toNat : Nat) : Int) = a by omega, hs.now] at this
      rw [this]
      rfl) HL2.out hn2' hn2 HW64.out (by omega))
    unfold spanV at HOP
    clear hlk HMD
    go_wp2_with fail
    refine HOP.out.mono ?_
    rintro e w2 ⟨F2, hd2, ht2, ⟨hne, rfl⟩ | ⟨hz, m, base, rfl, hWm, hmb, hFm, hMt⟩⟩
    · have HE2 : Hid (opnE (S.now 2) n0 n1 mode = openE (S.now 2)) := HE1.out.trans (if_pos hne)
      have HT2 := Lib.hid ((Turn.of_below (F := F0) HB1.out).trans (turn_wide HF.out ht2))
      have hq : (openE (S.now 2) != 0) = true := by simpa using hne
      clear HE1 hd2 ht2 HOP HS01 HS11 HS21 HD1
      go_wp2_with fail
      go_ret2
      refine .inl ?_
      rw [HE2.out]
      exact ⟨hne, rfl, _, HT2.out⟩
    · obtain ⟨Am, cm, hC, hrow⟩ := hMt
      obtain ⟨o1, o2, o3, o4, o5⟩ := open_cs (S.now 2) hz
      have HE2 : Hid (opnE (S.now 2) n0 n1 mode = if n1 < opK (S.now 2) * opC (S.now 2) then 3 else if badS (slotsU (S.now 2) (opK (S.now 2))) (n0 / opC (S.now 2)) = true then 24 else 0) := HE1.out.trans (if_neg (fun e => e hz))
      have hC : Cs w2 m 160 #[spanV s2, .slice Am (slotsU (S.now 2) (opK (S.now 2))).length cm, .int .i64 (opC (S.now 2) : Int), .int .i64 (opM (S.now 2)), .bool (opO (S.now 2))] := hC
      have hrow : w2.ownsRow base 31 4 (.slice Am (slotsU (S.now 2) (opK (S.now 2))).length cm) (slotsU (S.now 2) (opK (S.now 2))).length (scs (slotsU (S.now 2) (opK (S.now 2)))) := hrow
      have HNB : Hid (∀ v, ¬ n1 < opK (S.now 2) * opC (S.now 2) → badS (slotsU (S.now 2) (opK (S.now 2))) (n0 / opC (S.now 2)) = false → NB ⟨g, s0, s1, s2, m, v, n0, n1, n2, opC (S.now 2)⟩ (opn0 S mode)) := fun v h1 h2 => opn_nb (C := ⟨g, s0, s1, s2, m, v, n0, n1, n2, opC (S.now 2)⟩) ⟨(HNF.out 0).hea, (HNF.out 0).dn, (HNF.out 0).fu⟩ hz rfl h1 h2
      have HO0 : Hid (opn0 S mode = ⟨S.flush 2, ⟨slotsU (S.now 2) (opK (S.now 2)), 0, []⟩, slotsU (S.now 2) (opK (S.now 2)), opM (S.now 2), opO (S.now 2), decide (mode = 2), false, false⟩) := rfl
      have hl := slotsU_length (S.now 2) (opK (S.now 2))
      have hln := o1.len
      change 1 ≤ (slotsU (S.now 2) (opK (S.now 2))).length ∧ (slotsU (S.now 2) (opK (S.now 2))).length ≤ 1024 at hln
      have hblk : ∀ (k : Nat) (x : Sl), (slotsU (S.now 2) (opK (S.now 2)))[k]? = some x → x.valid = true → 0 ≤ x.block ∧ x.block ≤ 16777215 := fun k x hx hv => (o1.blk x (List.mem_of_getElem? hx) hv).1
      have hqz : (openE (S.now 2) != 0) = false := by simpa using hz
      have HBGN : Hid (∀ C : VC, (opn0 S mode).bgn C mode = (opn0 S mode).bgn C mode) := fun _ => rfl
      generalize slotsU (S.now 2) (opK (S.now 2)) = ss at *
      generalize hCE : opC (S.now 2) = ch at *
      have HCE := Lib.hid hCE
      clear hCE
      generalize opK (S.now 2) = K at *
      subst hl
      generalize hRE : opnE (S.now 2) n0 n1 mode = rE at *
      have HRE := Lib.hid hRE
      clear hRE
      generalize hVE : opn0 S mode = V0 at *
      have HVE0 := Lib.hid hVE
      clear hVE
      generalize opM (S.now 2) = md at *
      generalize opO (S.now 2) = op at *
      have HMB : Hid (w1.heap.size ≤ m ∧ m < base) := ⟨hWm, hmb⟩
      have hsz1 : W.heap.size ≤ w1.heap.size := HB1.out.size
      have hca : CacheAt w2 (fun j => F2 j ∨ j = s2 ∨ m ≤ j) g s2 m n2 (S.flush 2) ss (ch : Int) md op := by
        have h2m : s2 < m := Nat.lt_of_lt_of_le HS21.out.lt hWm
        refine ⟨F2, Am, cm, hd2, fun j hj => .inl hj, Cs.fr HS21.out ht2.1 hF2, ht2.out HS21.out.lt hF2, .inr (.inl rfl), by omega, fun e => by have := hFm _ e; omega, .inr (.inr (Nat.le_refl _)), hC, own_lower hrow (Nat.zero_le _), fun b hb => ?_⟩
        have hbb := (hrow.lt b hb).1
        exact ⟨fun e => by have := hFm _ e; omega, by omega, by omega, .inr (.inr (by omega))⟩
      have HCA := Lib.hid hca.tight
      have HFM := Lib.hid hFm
      have HS02 := Lib.hid (Cs.fr HS01.out ht2.1 hF0)
      have HS12 := Lib.hid (Cs.fr HS11.out ht2.1 hF1)
      have HNS : Hid (¬ (F2 s0 ∨ s0 = s2 ∨ m ≤ s0) ∧ ¬ (F2 s1 ∨ s1 = s2 ∨ m ≤ s1)) := by
        have q0 := HS01.out.lt
        have q1 := HS11.out.lt
        exact ⟨fun e => e.elim (ht2.out q0 hF0) (fun e => e.elim h02 (fun e => by omega)), fun e => e.elim (ht2.out q1 hF1) (fun e => e.elim h12 (fun e => by omega))⟩
      have HT2 := Lib.hid ((Turn.of_below (F := F0) HB1.out).trans (turn_wide HF.out ht2))
      have HCH := Lib.hid (chunk_any w2 m _ _ _ _ _ hC)
      have HC := Lib.hid hC
      have HROW := Lib.hid hrow
      have HLN := Lib.hid hln
      have HBLK := Lib.hid hblk
      have hml : m < w2.heap.size := hC.lt
      clear hca hFm ht2 hC hrow hln hblk hd2 HOP HS01 HS11 HS21 HD1 o1 o2 o5 HE1 hWm hmb hz HBGN
      go_upto_region 8 with (go_at_call 58; refine HCH.out.mono ?_; rintro e wz ⟨rfl, rfl⟩)
      have hCv := Cs.new w2 101 #[.pointer (some ⟨m, 0, none⟩), .slice none 0 0, .int .i64 0, .slice none 0 0, .int .i64 (ch : Int), .iface 176 (.pointer (some ⟨s0, 0, none⟩)), .iface 176 (.pointer (some ⟨s1, 0, none⟩)), .func (.func N) #[] #[], .bool false, .bool false]
      have hb3 : Below w2.heap.size w2 (w2.alloc (.cells #[.pointer (some ⟨m, 0, none⟩), .slice none 0 0, .int .i64 0, .slice none 0 0, .int .i64 (ch : Int), .iface 176 (.pointer (some ⟨s0, 0, none⟩)), .iface 176 (.pointer (some ⟨s1, 0, none⟩)), .func (.func N) #[] #[], .bool false, .bool false] 101)) := (Below.refl _ w2).alloc (Nat.le_refl _) _
      have HSZ3 : Hid ((w2.alloc (.cells #[.pointer (some ⟨m, 0, none⟩), .slice none 0 0, .int .i64 0, .slice none 0 0, .int .i64 (ch : Int), .iface 176 (.pointer (some ⟨s0, 0, none⟩)), .iface 176 (.pointer (some ⟨s1, 0, none⟩)), .func (.func N) #[] #[], .bool false, .bool false] 101)).heap.size = w2.heap.size + 1) := by show _ = _; simp
      obtain ⟨v, hv⟩ : ∃ v, w2.heap.size = v := ⟨_, rfl⟩
      have HVE := Lib.hid hv
      rw [hv] at hCv HSZ3 ⊢
      clear hv
      generalize (w2.alloc (.cells #[.pointer (some ⟨m, 0, none⟩), .slice none 0 0, .int .i64 0, .slice none 0 0, .int .i64 (ch : Int), .iface 176 (.pointer (some ⟨s0, 0, none⟩)), .iface 176 (.pointer (some ⟨s1, 0, none⟩)), .func (.func N) #[] #[], .bool false, .bool false] 101)) = w3 at *
      have HSL := Lib.hid (slots_any w3 base m cm ss.length Am ss _ _ _ _ rfl (HC.out.below hb3 (by rw [HVE.out]; have := hml; rw [HVE.out] at this; exact this)) (own_keepB HROW.out hb3) (by have := HLN.out; omega))
      have HCV := Lib.hid hCv
      have HB3 := Lib.hid hb3
      clear hCv hb3 HCH
      go_upto_region 9 with (go_at_call 59; refine HSL.out.mono ?_; rintro e w4 ⟨vs, rfl, hown4, hb4⟩; obtain ⟨A4, c4, hv4⟩ := own_form hown4; subst hv4; have HO4 := Lib.hid hown4; have HB4 := Lib.hid hb4; clear hown4 hb4)
      have HC4 := Lib.hid (HCV.out.below HB4.out HCV.out.lt)
      have HB24 := Lib.hid (HB3.out.trans (HB4.out.mono (by rw [HSZ3.out, HVE.out]; omega)))
      have HS03 := Lib.hid (Cs.below HS02.out HB24.out HS02.out.lt)
      have HS13 := Lib.hid (Cs.below HS12.out HB24.out HS12.out.lt)
      have HSQ1 : Hid (∀ q, Calls Tryz.prog 191 #[.pointer (some ⟨s1, 0, none⟩)] (w4.drewN q) fun e w' => e = .returned (.int .i64 (n1 : Int)) ∧ ∃ m, w' = (w4.drewN q).drewN m) := fun q => (ssize_any (w4.drewN q) s1 g 1 n1 HS13.out).mono fun e w' he => ⟨he.1, 0, he.2.symm⟩
      obtain ⟨-, -, -, -, c4c, -, -, -, -, -⟩ : w4.cell? ⟨v, 0, none⟩ = some (.pointer (some ⟨m, 0, none⟩)) ∧ w4.cell? ⟨v, 1, none⟩ = some (.slice none 0 0) ∧ w4.cell? ⟨v, 2, none⟩ = some (.int .i64 0) ∧ w4.cell? ⟨v, 3, none⟩ = some (.slice none 0 0) ∧ w4.cell? ⟨v, 4, none⟩ = some (.int .i64 (ch : Int)) ∧ True ∧ True ∧ True ∧ True ∧ True := ⟨HC4.out.cell 0, HC4.out.cell 1, HC4.out.cell 2, HC4.out.cell 3, HC4.out.cell 4, trivial, trivial, trivial, trivial, trivial⟩
      have hln := HLN.out
      have hmul : ss.length * ch ≤ 1024 * 64 := Nat.mul_le_mul (by omega) o4
      have em : IntKind.i64.wrap ((ss.length : Int) * (ch : Int)) = ((ss.length * ch : Nat) : Int) := by
        rw [← Int.natCast_mul]; exact IntWalk.i64_in _ (by omega)
      generalize hP : ss.length * ch = P at *
      clear HSL hP
      go_quiet ((go_at_call 191; exact Calls.quiet_of (HSQ1.out _)))
      have HB5 : Hid (Below w2.heap.size w2 (w4.drewN nq)) := below_drewN HB24.out nq
      have HC5 : Hid (Cs (w4.drewN nq) v 101 #[.pointer (some ⟨m, 0, none⟩), .slice none 0 0, .int .i64 0, .slice none 0 0, .int .i64 (ch : Int), .iface 176 (.pointer (some ⟨s0, 0, none⟩)), .iface 176 (.pointer (some ⟨s1, 0, none⟩)), .func (.func N) #[] #[], .bool false, .bool false]) := HC4.out
      have HO5 : Hid ((w4.drewN nq).ownsRow w3.heap.size 31 4 (.slice A4 ss.length c4) ss.length (scs ss)) := own_keepB HO4.out (below_drewN (Below.refl _ w4) nq)
      have HS05 : Hid (SpanAt (w4.drewN nq) s0 g 0 n0) := HS03.out
      have HS15 : Hid (SpanAt (w4.drewN nq) s1 g 1 n1) := HS13.out
      clear HSQ1 HC4 HB24 HS03 HS13 HO4 HB4 HC HROW HCV HB3 c4c em
      generalize w4.drewN nq = w5 at *
      by_cases h3 : n1 < P
      · have HE3 : Hid (rE = 3) := HE2.out.trans (if_pos h3)
        have u1 : (n1 : Int) < (P : Int) := by omega
        go_wp2_with fail
        go_ret2
        refine .inl ?_
        rw [HRE.out, HE3.out]
        exact ⟨by decide, rfl, _, HT2.out.trans (Turn.of_below HB5.out)⟩
      · have HE3 : Hid (rE = if badS ss (n0 / ch) = true then 24 else 0) := HE2.out.trans (if_neg h3)
        have HNB2 : Hid (badS ss (n0 / ch) = false → NB ⟨g, s0, s1, s2, m, v, n0, n1, n2, ch⟩ V0) := fun hb => HNB.out v h3 hb
        have u1 : ¬ (n1 : Int) < (P : Int) := by omega
        have e2 := div_wrap n0 ch (by omega)
        have hql := Nat.div_le_self n0 ch
        generalize n0 / ch = q at *
        have t0 : ¬ (ch : Int) = 0 := by omega
        have t0' : ¬ ch = 0 := by omega
        go_wp2_with fail
        clear HE2 HNB
        go_loopw [59] (fun z wr => ∃ i : Nat, z = .int .i64 i ∧ i ≤ ss.length ∧ (∀ (j : Nat) (x : Sl), j < i → ss[j]? = some x → x.valid = true → x.block < (q : Int)) ∧ Below w5.heap.size w5 wr) (fun z _ => ss.length - (intOf z).toNat)
        case atStart => exact ⟨0, rfl, Nat.zero_le _, fun j x hj => by omega, Below.refl _ _⟩
        case round =>
          obtain ⟨i, rfl, hi, hall, hbr⟩ := hrel
          have HALL := Lib.hid hall
          have HBR := Lib.hid hbr
          clear hall hbr
          by_cases hlt : i < ss.length
          · have u2 : (i : Int) < (ss.length : Int) := by omega
            have e1 : IntKind.i64.wrap ((i : Int) + 1) = ((i + 1 : Nat) : Int) := by rw [IntWalk.i64_in _ (by omega)]; rfl
            obtain ⟨x, hx⟩ : ∃ x, ss[i]? = some x := ⟨_, List.getElem?_eq_getElem hlt⟩
            have hrw := own_keepB HO5.out HBR.out
            obtain ⟨bR, oR, hA, hbl, hcs⟩ := scs_read (Reads.of_own hrw) (by omega)
            subst hA
            obtain ⟨p0, p1, p2, p3⟩ := hcs i x hx
            have hb6 : Below wr.heap.size wr (wr.alloc (.cells #[.bool x.valid, .bool x.dirty, .int .i64 x.block, .int .i64 x.stamp] 31)) := (Below.refl _ wr).alloc (Nat.le_refl _) _
            have hC6 := Cs.new wr 31 #[.bool x.valid, .bool x.dirty, .int .i64 x.block, .int .i64 x.stamp]
            have HX := Lib.hid hx
            clear hx hcs hrw
            go_upto_region 14 with (fail)
            clear p0 p1 p2 p3
            have HB6 := Lib.hid (HBR.out.trans (hb6.mono HBR.out.size))
            obtain ⟨t, ht⟩ : ∃ t, wr.heap.size = t := ⟨_, rfl⟩
            rw [ht] at hC6 ⊢
            clear ht hb6 HBR
            generalize (wr.alloc (.cells #[.bool x.valid, .bool x.dirty, .int .i64 x.block, .int .i64 x.stamp] 31)) = w6 at *
            have y0 : w6.cell? ⟨t, 0, none⟩ = some (.bool x.valid) := hC6.cell 0
            have y2 : w6.cell? ⟨t, 2, none⟩ = some (.int .i64 x.block) := hC6.cell 2
            clear hC6
            rcases hxv : x.valid with _ | _
            · rw [hxv] at y0
              have HN1 : Hid (∀ (j : Nat) (z : Sl), j < i + 1 → ss[j]? = some z → z.valid = true → z.block < (q : Int)) := by
                intro j z hj hz hzv
                by_cases e : j = i
                · subst e
                  rw [HX.out] at hz
                  injection hz with hz
                  subst hz
                  rw [hxv] at hzv
                  cases hzv
                · exact HALL.out j z (by omega) hz hzv
              clear hxv
              go_quiet (fail)
              clear y0 y2
              go_wp2_with fail
              go_roundw
              case rel => exact ⟨i + 1, by go_num, by omega, HN1.out, below_drewN HB6.out _⟩
              case measure => simp [intOf]; omega
            · rw [hxv] at y0
              have HS06 := Lib.hid (Cs.below HS05.out HB6.out HS05.out.lt)
              have HC6 := Lib.hid (HC5.out.below HB6.out HC5.out.lt)
              have y4 : w6.cell? ⟨v, 4, none⟩ = some (.int .i64 (ch : Int)) := HC6.out.cell 4
              have HSQ0 : Hid (∀ k, Calls Tryz.prog 191 #[.pointer (some ⟨s0, 0, none⟩)] (w6.drewN k) fun e w' => e = .returned (.int .i64 (n0 : Int)) ∧ ∃ m, w' = (w6.drewN k).drewN m) := fun k => (ssize_any (w6.drewN k) s0 g 0 n0 HS06.out).mono fun e w' he => ⟨he.1, 0, he.2.symm⟩
              by_cases hbq : (q : Int) ≤ x.block
              · have HE4 : Hid (rE = 24) := HE3.out.trans (if_pos (badS_yes HX.out hxv hbq))
                clear hxv
                go_quiet ((go_at_call 191; exact Calls.quiet_of (HSQ0.out _)))
                clear y0 y2 y4
                go_wp2_with fail
                go_ret2
                refine .inl ?_
                rw [HRE.out, HE4.out]
                exact ⟨by decide, rfl, _, HT2.out.trans (Turn.of_below (HB5.out.trans ((below_drewN HB6.out _).mono HB5.out.size)))⟩
              · have HN1 : Hid (∀ (j : Nat) (z : Sl), j < i + 1 → ss[j]? = some z → z.valid = true → z.block < (q : Int)) := by
                  intro j z hj hz hzv
                  by_cases e : j = i
                  · subst e
                    rw [HX.out] at hz
                    injection hz with hz
                    subst hz
                    omega
                  · exact HALL.out j z (by omega) hz hzv
                clear hxv
                go_quiet ((go_at_call 191; exact Calls.quiet_of (HSQ0.out _)))
                clear y0 y2 y4
                go_wp2_with fail
                go_roundw
                case rel => exact ⟨i + 1, by go_num, by omega, HN1.out, below_drewN HB6.out _⟩
                case measure => simp [intOf]; omega
          · have hin : i = ss.length := by omega
            have u2 : ¬ (i : Int) < (ss.length : Int) := by omega
            have hbF : badS ss q = false := by
              unfold badS
              rw [List.any_eq_false]
              intro x hx
              obtain ⟨j, hj⟩ := List.mem_iff_getElem?.1 hx
              rcases hv : x.valid with _ | _
              · simp
              · have := HALL.out j x (by have := (List.getElem?_eq_some_iff.1 hj).1; omega) hj hv
                simp
                omega
            have HE4 : Hid (rE = 0) := HE3.out.trans (if_neg (by rw [hbF]; simp))
            have HNB3 := Lib.hid (HNB2.out hbF)
            have HC6 := Lib.hid (HC5.out.below HBR.out HC5.out.lt)
            have HB6 := Lib.hid (HB5.out.trans (HBR.out.mono HB5.out.size))
            have HO6 := Lib.hid (own_keepB HO5.out HBR.out)
            have HS06 := Lib.hid (Cs.below HS05.out HBR.out HS05.out.lt)
            have HS16 := Lib.hid (Cs.below HS15.out HBR.out HS15.out.lt)
            have y1 : wr.cell? ⟨v, 1, none⟩ = some (.slice none 0 0) := HC6.out.cell 1
            have y2 : wr.cell? ⟨v, 2, none⟩ = some (.int .i64 0) := HC6.out.cell 2
            have y3 : wr.cell? ⟨v, 3, none⟩ = some (.slice none 0 0) := HC6.out.cell 3
            have f1 := HC6.out.free 1
            have f2 := HC6.out.free 2
            have f3 := HC6.out.free 3
            clear hin hbF HC5 HB5 HO5 HS05 HS15 HBR HALL HE3 HNB2 e2
            go_upto_region 18 with (fail)
            have hfS : Fr (fun j => j = v) wr (((wr.setCell ⟨v, 1, none⟩ (.slice A4 ss.length c4)).setCell ⟨v, 2, none⟩ (.int .i64 0)).setCell ⟨v, 3, none⟩ (.slice none 0 0)) := (((Fr.refl (fun j => j = v) wr).set (.inl rfl) _).set (.inl rfl) _).set (.inl rfl) _
            have hCF : Cs (((wr.setCell ⟨v, 1, none⟩ (.slice A4 ss.length c4)).setCell ⟨v, 2, none⟩ (.int .i64 0)).setCell ⟨v, 3, none⟩ (.slice none 0 0)) v 101 #[.pointer (some ⟨m, 0, none⟩), .slice A4 ss.length c4, .int .i64 0, .slice none 0 0, .int .i64 (ch : Int), .iface 176 (.pointer (some ⟨s0, 0, none⟩)), .iface 176 (.pointer (some ⟨s1, 0, none⟩)), .func (.func N) #[] #[], .bool false, .bool false] := by
              have h1 : Cs (wr.setCell ⟨v, 1, none⟩ (.slice A4 ss.length c4)) v 101 #[.pointer (some ⟨m, 0, none⟩), .slice A4 ss.length c4, .int .i64 0, .slice none 0 0, .int .i64 (ch : Int), .iface 176 (.pointer (some ⟨s0, 0, none⟩)), .iface 176 (.pointer (some ⟨s1, 0, none⟩)), .func (.func N) #[] #[], .bool false, .bool false] := Cs.put (l := [_, _, _, _, _, _, _, _, _, _]) HC6.out _
              have h2 : Cs ((wr.setCell ⟨v, 1, none⟩ (.slice A4 ss.length c4)).setCell ⟨v, 2, none⟩ (.int .i64 0)) v 101 #[.pointer (some ⟨m, 0, none⟩), .slice A4 ss.length c4, .int .i64 0, .slice none 0 0, .int .i64 (ch : Int), .iface 176 (.pointer (some ⟨s0, 0, none⟩)), .iface 176 (.pointer (some ⟨s1, 0, none⟩)), .func (.func N) #[] #[], .bool false, .bool false] := Cs.put (l := [_, _, _, _, _, _, _, _, _, _]) h1 _
              exact Cs.put (l := [_, _, _, _, _, _, _, _, _, _]) h2 _
            have hv2 := HVE.out
            have hs0l := HS02.out.lt
            have hs1l := HS12.out.lt
            have hVI : VolIn (((wr.setCell ⟨v, 1, none⟩ (.slice A4 ss.length c4)).setCell ⟨v, 2, none⟩ (.int .i64 0)).setCell ⟨v, 3, none⟩ (.slice none 0 0)) (fun j => (F2 j ∨ j = s2 ∨ m ≤ j) ∧ j < w2.heap.size) (fun j => (F2 j ∨ j = s2 ∨ m ≤ j) ∨ j = s0 ∨ j = s1) ⟨g, s0, s1, s2, m, v, n0, n1, n2, ch⟩ V0 A4 c4 none 0 := by
              rw [HO0.out]
              refine ⟨(HCA.out.keep HB6.out).fr hfS (fun j hj e => by subst e; have := hj.2; omega), fun j hj => .inl hj.1, Cs.fr HS06.out hfS (by show ¬ s0 = v; omega), Cs.fr HS16.out hfS (by show ¬ s1 = v; omega), fun e => HNS.out.1 e.1, fun e => HNS.out.2 e.1, .inr (.inl rfl), .inr (.inr rfl), ?_, fun e => by have := e.2; dsimp only at this; omega, .inl (.inr (.inr (by show m ≤ v; omega))), by show v ≠ s0; omega, by show v ≠ s1; omega, own_fr (own_lower HO6.out (Nat.zero_le _)) hfS (fun b hb e => ?_), fun b hb => ?_, ?_, fun p hp => by cases hp⟩
              · have := hCF
                rw [← HN.out] at this
                exact this
              · have := (HO6.out.lt b hb).1
                have := HSZ3.out
                omega
              · have h1 := (HO6.out.lt b hb).1
                have h2 := HSZ3.out
                exact ⟨fun e => by have := e.2; omega, by show b ≠ s0; omega, by show b ≠ s1; omega, by show b ≠ v; omega, .inl (.inr (.inr (by omega)))⟩
              · intro h0
                exact absurd rfl h0
            have hBF : Below w2.heap.size w2 (((wr.setCell ⟨v, 1, none⟩ (.slice A4 ss.length c4)).setCell ⟨v, 2, none⟩ (.int .i64 0)).setCell ⟨v, 3, none⟩ (.slice none 0 0)) := ((HB6.out.setCell (p := ⟨v, 1, none⟩) (by show w2.heap.size ≤ v; omega) _).setCell (p := ⟨v, 2, none⟩) (by show w2.heap.size ≤ v; omega) _).setCell (p := ⟨v, 3, none⟩) (by show w2.heap.size ≤ v; omega) _
            have htF : Turn F0 (fun j => (F2 j ∨ j = s2 ∨ m ≤ j) ∨ j = s0 ∨ j = s1) W (((wr.setCell ⟨v, 1, none⟩ (.slice A4 ss.length c4)).setCell ⟨v, 2, none⟩ (.int .i64 0)).setCell ⟨v, 3, none⟩ (.slice none 0 0)) := by
              refine ⟨HT2.out.1.trans (Fr.of_below hBF), fun j hj => ?_⟩
              rcases hj with (hj | rfl | hj) | rfl | rfl
              · exact HT2.out.2 j (.inr hj)
              · exact .inl hf2
              · have := HMB.out.1
                exact .inr (by omega)
              · exact .inl hf0
              · exact .inl hf1
            have HVI : Hid (VolAt _ _ ⟨g, s0, s1, s2, m, v, n0, n1, n2, ch⟩ V0) := ⟨_, _, _, _, _, hVI⟩
            have HTF := Lib.hid htF
            have hlen : V0.x.sl.length = ss.length := by rw [HO0.out]
            have hS0 : V0.S = S.flush 2 := by rw [HO0.out]
            have hfl := flush_log S 2
            have hcm : ss.length * (ch + 2) ≤ 1024 * 66 := Nat.mul_le_mul (by omega) (by omega)
            have HBG := Lib.hid (vbegin_any _ _ ⟨g, s0, s1, s2, m, v, n0, n1, n2, ch⟩ V0 mode HVI.out HNB3.out HM.out ss.length hlen (by show ch ≤ 127; omega) hn0 hn1 hn2 (by rw [hS0]; show (S.flush 2).log.length + ss.length * (ch + 2) + ch < _; omega) (by rw [hS0]; show (S.flush 2).wr + (ss.length * (ch + 2) : Nat) + ch ≤ _; rw [hfl.2]; omega))
            clear hfS hCF hv2 hs0l hs1l hVI hBF htF hlen hS0 hfl hcm y1 y2 y3 f1 f2 f3 HC6 HO6 HS06 HS16 HNB3 HVI
            generalize (((wr.setCell ⟨v, 1, none⟩ (.slice A4 ss.length c4)).setCell ⟨v, 2, none⟩ (.int .i64 0)).setCell ⟨v, 3, none⟩ (.slice none 0 0)) = w7 at *
            go_wp2_with (go_at_call 60; refine HBG.out.mono ?_; rintro e w8 ⟨rfl, Fv8, hv8, ht8⟩; have HV8 := Lib.hid hv8; have HT8 := Lib.hid (HTF.out.trans ht8); clear hv8 ht8)
            go_ret2
            refine .inr ⟨HRE.out.trans HE4.out, m, v, Fv8, rfl, ?_, HT8.out⟩
            rw [HVE0.out, HCE.out]
            exact HV8.out

end Go.Proofs.YtogchafnnkajfaaGreat

namespace Go.Proofs.YtogchafnnkajfaaGreat
set_option linter.unusedVariables false
open Go.RowKit
attribute [local go_sem] Oper.semAt_some m_write m_read m_flush m_size

/-- Where the opener's things lie. -/
structure Sk where
  B : Nat
  g : Nat
  s0 : Nat
  s1 : Nat
  s2 : Nat
  n0 : Nat
  n1 : Nat
  n2 : Nat
  ch : Nat
  b1 : Nat
  b2 : Nat
  b3 : Nat
  bL : Nat
  cL : Nat
  A : Option Addr
  lm : Nat
  cm : Nat
  ml : List Int
structure Sk.Ok (K : Sk) : Prop where
  n0_ : K.n0 ≤ 1000
  n1_ : K.n1 ≤ 1000
  n2_ : 2 ≤ K.n2 ∧ K.n2 ≤ 4
  ch_ : 1 ≤ K.ch ∧ K.ch ≤ 3
  lm_ : K.ml.length = K.lm
  lp : 1 ≤ K.lm ∧ K.lm ≤ 1000
  mo : ∀ x ∈ K.ml, x = 1 ∨ x = 2
  s02 : K.s0 ≠ K.s2
  s12 : K.s1 ≠ K.s2
def Sk.C (K : Sk) (m v : Nat) : VC := ⟨K.g, K.s0, K.s1, K.s2, m, v, K.n0, K.n1, K.n2, K.ch⟩
/-- The opener, beside the volume (or the disks). -/
structure SV (K : Sk) (w : World) (Fm F : Nat → Prop) (nn : Nat) : Prop where
  inF : ∀ j, Fm j → F j
  m1 : Cs w K.b1 22 #[.slice K.A K.lm K.cm]
  m2 : Cs w K.b2 3 #[.int .i64 (nn : Int)]
  m3 : Cs w K.b3 38 #[.slice (some ⟨K.bL, 0, none⟩) 3 K.cL]
  row : w.ownsRow 0 55 1 (.slice (some ⟨K.bL, 0, none⟩) 3 K.cL) 3 (spv [K.s0, K.s1, K.s2])
  nm : ¬ Fm K.b1 ∧ ¬ Fm K.b2 ∧ ¬ Fm K.b3 ∧ ¬ Fm K.bL
  im : F K.b1 ∧ F K.b2 ∧ F K.b3 ∧ F K.bL
  mvs : ∀ w', Below K.B w w' → Reads w' K.A (iv K.ml)
  wB : K.B ≤ w.heap.size

section
variable {K : Sk} {w w' : World} {Fm F : Nat → Prop} {nn : Nat}
theorem SV.fr (h : SV K w Fm F nn) {H : Nat → Prop} (hf : Fr H w w') (hn : ∀ j, F j → ¬ H j) (hb : ∀ j, H j → K.B ≤ j) : SV K w' Fm F nn :=
  ⟨h.inF, h.m1.fr hf (hn _ h.im.1), h.m2.fr hf (hn _ h.im.2.1), h.m3.fr hf (hn _ h.im.2.2.1), own_fr h.row hf (fun b hb => by simp [Value.ownBlock] at hb; rw [← hb]; exact hn _ h.im.2.2.2), h.nm, h.im, fun w2 h2 => h.mvs w2 ((hf.below h.wB hb).trans h2), Nat.le_trans h.wB hf.size⟩
theorem SV.turn (h : SV K w Fm F nn) (hge : ∀ j, F j → K.B ≤ j) {Fm' : Nat → Prop} (ht : Turn Fm Fm' w w') : SV K w' Fm' (FU F Fm') nn :=
  ⟨fun j hj => .inr hj, h.m1.fr ht.1 h.nm.1, h.m2.fr ht.1 h.nm.2.1, h.m3.fr ht.1 h.nm.2.2.1, own_fr h.row ht.1 (fun b hb => by simp [Value.ownBlock] at hb; rw [← hb]; exact h.nm.2.2.2),
    ⟨ht.out h.m1.lt h.nm.1, ht.out h.m2.lt h.nm.2.1, ht.out h.m3.lt h.nm.2.2.1, ht.out (own_lt h.row _ rfl) h.nm.2.2.2⟩, ⟨.inl h.im.1, .inl h.im.2.1, .inl h.im.2.2.1, .inl h.im.2.2.2⟩, fun w2 h2 => h.mvs w2 ((ht.1.below h.wB (fun j hj => hge j (h.inF j hj))).trans h2), Nat.le_trans h.wB ht.1.size⟩
theorem SV.wide (h : SV K w Fm F nn) {Fm' : Nat → Prop} (ht : Turn Fm Fm' w w') : Turn F (FU F Fm') w w' :=
  ⟨ht.1.mono (fun j _ hj => h.inF j hj), fun j hj => hj.elim .inl (fun e => (ht.2 j e).elim (fun e' => .inl (h.inF j e')) .inr)⟩
theorem SV.tight (h : SV K w Fm F nn) : SV K w (FT Fm w) (FT F w) nn :=
  ⟨fun j hj => ⟨h.inF j hj.1, hj.2⟩, h.m1, h.m2, h.m3, h.row, ⟨fun e => h.nm.1 e.1, fun e => h.nm.2.1 e.1, fun e => h.nm.2.2.1 e.1, fun e => h.nm.2.2.2 e.1⟩, ⟨⟨h.im.1, h.m1.lt⟩, ⟨h.im.2.1, h.m2.lt⟩, ⟨h.im.2.2.1, h.m3.lt⟩, ⟨h.im.2.2.2, own_lt h.row _ rfl⟩⟩, h.mvs, h.wB⟩
theorem SV.less (h : SV K w Fm F nn) {Fd : Nat → Prop} (hd : ∀ j, Fd j → Fm j) : SV K w Fd F nn :=
  ⟨fun j hj => h.inF j (hd j hj), h.m1, h.m2, h.m3, h.row, ⟨fun e => h.nm.1 (hd _ e), fun e => h.nm.2.1 (hd _ e), fun e => h.nm.2.2.1 (hd _ e), fun e => h.nm.2.2.2 (hd _ e)⟩, h.im, h.mvs, h.wB⟩
end

/-- The device. -/
def SD (K : Sk) (w : World) (F : Nat → Prop) (t : List Sec) (k : Bool) (c p : Nat) : Prop :=
  (∀ j, F j → K.B ≤ j) ∧ ∃ Fv m V nn, VolAt w Fv (K.C m p) V ∧ SV K w Fv F nn ∧ DR (K.C m p) V t k ∧ V.S.log.length ≤ 40 * c ∧ V.S.wr ≤ (40 * c : Nat) ∧ V.x.clk ≤ (c : Int) ∧ nn ≤ c
/-- The disks, with the power back. -/
def SZ (K : Sk) (w : World) (F : Nat → Prop) (t : List Sec) (c : Nat) : Prop :=
  (∀ j, F j → K.B ≤ j) ∧ ∃ Fd S nn, DskAt w Fd K.g S ∧ SpanAt w K.s0 K.g 0 K.n0 ∧ SpanAt w K.s1 K.g 1 K.n1 ∧ SpanAt w K.s2 K.g 2 K.n2 ∧ (¬ Fd K.s0 ∧ ¬ Fd K.s1 ∧ ¬ Fd K.s2) ∧ (F K.s0 ∧ F K.s1 ∧ F K.s2) ∧ SV K w Fd F nn ∧ ZR (K.C 0 0) S (okT t) ∧ t.length = K.n0 ∧ (∀ (a : Nat) (s : Sec), t[a]? = some s → s.kn = true → s.sm = [s.val]) ∧
    S.log.length ≤ 40 * c ∧ S.wr ≤ (40 * c : Nat) ∧ nn ≤ c

section
variable {K : Sk} {w w' : World} {F : Nat → Prop} {t : List Sec} {k : Bool} {c p : Nat}
theorem SD.fr (h : SD K w F t k c p) {H : Nat → Prop} (hf : Fr H w w') (hn : ∀ j, F j → ¬ H j) (hb : ∀ j, H j → K.B ≤ j) : SD K w' F t k c p := by
  obtain ⟨hge, Fv, m, V, nn, hv, hs, r⟩ := h
  exact ⟨hge, Fv, m, V, nn, hv.fr hf (fun j hj => hn j (hs.inF j hj)), hs.fr hf hn hb, r⟩
theorem SD.tight (h : SD K w F t k c p) : SD K w (FT F w) t k c p := by
  obtain ⟨hge, Fv, m, V, nn, hv, hs, r⟩ := h
  exact ⟨fun j hj => hge j hj.1, FT Fv w, m, V, nn, hv.tight, hs.tight, r⟩
theorem SZ.fr (h : SZ K w F t c) {H : Nat → Prop} (hf : Fr H w w') (hn : ∀ j, F j → ¬ H j) (hb : ∀ j, H j → K.B ≤ j) : SZ K w' F t c := by
  obtain ⟨hge, Fd, S, nn, hd, h0, h1, h2, hnd, hi, hs, r⟩ := h
  exact ⟨hge, Fd, S, nn, hd.fr hf (fun j hj => hn j (hs.inF j hj)), Cs.fr h0 hf (hn _ hi.1), Cs.fr h1 hf (hn _ hi.2.1), Cs.fr h2 hf (hn _ hi.2.2), hnd, hi, hs.fr hf hn hb, r⟩
theorem SZ.tight (h : SZ K w F t c) : SZ K w (FT F w) t c := by
  obtain ⟨hge, Fd, S, nn, hd, h0, h1, h2, hnd, hi, hs, r⟩ := h
  exact ⟨fun j hj => hge j hj.1, FT Fd w, S, nn, hd.tight, h0, h1, h2, ⟨fun e => hnd.1 e.1, fun e => hnd.2.1 e.1, fun e => hnd.2.2 e.1⟩, ⟨⟨hi.1, Cs.lt h0⟩, ⟨hi.2.1, Cs.lt h1⟩, ⟨hi.2.2, Cs.lt h2⟩⟩, hs.tight, r⟩

theorem sd_size (h : SD K w F t k c p) : Calls Tryz.prog 46 #[.pointer (some ⟨p, 0, none⟩)] w fun e w' => e = .returned (.int .i64 (K.n0 : Int)) ∧ ∃ q, w' = w.drewN q := by
  obtain ⟨hge, Fv, m, V, nn, hv, -⟩ := h
  exact (vsize_any w Fv (K.C m p) V hv).mono fun e w' he => ⟨he.1, 0, he.2.symm⟩
theorem DR.n1 {C : VC} {V : VS} (h : DR C V t k) : V.x.sl.length * C.chunk ≤ C.n1 := by
  obtain ⟨sl, pm, hv⟩ := h.vk
  have h1 := hv.n1
  have h2 := hv.n2
  have h3 := h.n2
  rw [show V.x.sl.length = sl.length by omega]
  exact h1
theorem sd_read (hK : K.Ok) (a : Nat) (st : Bool) (h : SD K w F t k c p) (ha : a < K.n0) (hc : c < 1000) (hst : st = true → k = true) :
    Calls Tryz.prog 22 #[.pointer (some ⟨p, 0, none⟩), .int .i64 (a : Int)] w fun e w' => ∃ (v : Nat) (r : Int) (F' : Nat → Prop), e = .returned (.tuple #[.int .u64 (v : Int), .int .i64 r]) ∧ v < 18446744073709551616 ∧ Turn F F' w w' ∧
      ((r = 0 ∧ tMay t a v ∧ SD K w' F' (tRead t a v st) k (c + 1) p) ∨ (k = false ∧ r = 5 ∧ SD K w' F' t k (c + 1) p)) := by
  obtain ⟨hge, Fv, m, V, nn, hv, hs, hr, hl, hw, hcl, hnn⟩ := h
  have hn0 := hK.n0_
  have hn1 := hK.n1_
  have hn2 := hK.n2_
  have hch := hK.ch_
  have hbd := Bd.slt (C := K.C m p) (a := a) hr.ok hr.len ha (by show K.n0 ≤ _; omega) (by omega)
  have hb1 := hbd.log
  have hb2 := hbd.wr
  have hb3 := hbd.clk
  change _ ≤ V.S.log.length + (2 * K.ch + 2) at hb1
  change _ ≤ V.S.wr + ((2 * K.ch + 2 : Nat) : Int) at hb2
  refine (vread_any w Fv (K.C m p) V a hv hr.ok hr.len hr.clo ha (by omega) hr.ch (by show K.ch ≤ 127; omega) (by show K.n0 ≤ _; omega) (by show K.n1 ≤ _; omega) (by show K.n2 ≤ _; omega) (by show _ + 2 * K.ch + 2 < _; omega) (by show _ + 2 * (K.ch : Int) + 2 ≤ _; omega)).mono ?_
  rintro e w' ⟨rfl, hvl, Fv', hv', ht⟩
  refine ⟨_, _, FU F Fv', rfl, hvl, hs.wide ht, ?_⟩
  have hge' := (hs.wide ht).ge hs.wB hge
  have hs' := hs.turn hge ht
  rcases hr.read ha (by show K.n0 ≤ _; omega) (by omega) hr.n1 st hst with ⟨r1, r2, r3⟩ | ⟨r1, r2, r3⟩
  · exact .inl ⟨r1, r2, hge', Fv', m, _, nn, hv', hs', r3, by omega, by omega, by omega, by omega⟩
  · exact .inr ⟨r1, r2, hge', Fv', m, _, nn, hv', hs', r3, by omega, by omega, by omega, by omega⟩
theorem sd_write (hK : K.Ok) (a v : Nat) (h : SD K w F t k c p) (ha : a < K.n0) (hv64 : v < 18446744073709551616) (hc : c < 1000) :
    Calls Tryz.prog 31 #[.pointer (some ⟨p, 0, none⟩), .int .i64 (a : Int), .int .u64 (v : Int)] w fun e w' => ∃ (r : Int) (F' : Nat → Prop), e = .returned (.int .i64 r) ∧ Turn F F' w w' ∧ (r = 0 ∨ r = 5) ∧ SD K w' F' (tWrote t a v (decide (r = 0))) false (c + 1) p := by
  obtain ⟨hge, Fv, m, V, nn, hv, hs, hr, hl, hw, hcl, hnn⟩ := h
  have hn0 := hK.n0_
  have hn1 := hK.n1_
  have hn2 := hK.n2_
  have hch := hK.ch_
  have hbd := Bd.wrt (C := K.C m p) (a := a) (v := v) hr.ok hr.len (by omega) ha (by show K.n0 ≤ _; omega)
  have hb1 := hbd.log
  have hb2 := hbd.wr
  have hb3 := hbd.clk
  change _ ≤ V.S.log.length + (2 * K.ch + 5) at hb1
  change _ ≤ V.S.wr + ((2 * K.ch + 5 : Nat) : Int) at hb2
  refine (vwrite_any w Fv (K.C m p) V a v hv hr.ok hr.len hr.clo ha hv64 (by omega) hr.ch (by show K.ch ≤ 127; omega) (by show K.n0 ≤ _; omega) (by show K.n1 ≤ _; omega) (by show K.n2 ≤ _; omega) (by show _ + 2 * K.ch + 6 < _; omega) (by show _ + 2 * (K.ch : Int) + 6 ≤ _; omega)).mono ?_
  rintro e w' ⟨rfl, Fv', hv', ht⟩
  obtain ⟨r1, r2⟩ := hr.write (v := v) ha (by show K.n0 ≤ _; omega) (by omega) hr.n1
  exact ⟨_, FU F Fv', rfl, hs.wide ht, r1, (hs.wide ht).ge hs.wB hge, Fv', m, _, nn, hv', hs.turn hge ht, r2, by omega, by omega, by omega, by omega⟩
theorem sd_flush (hK : K.Ok) (h : SD K w F t k c p) (hc : c < 1000) :
    Calls Tryz.prog 34 #[.pointer (some ⟨p, 0, none⟩)] w fun e w' => ∃ (r : Int) (F' : Nat → Prop), e = .returned (.int .i64 r) ∧ Turn F F' w w' ∧ ((r = 0 ∧ SD K w' F' (tFlushed t) false (c + 1) p) ∨ (r = 5 ∧ SD K w' F' t false (c + 1) p)) := by
  obtain ⟨hge, Fv, m, V, nn, hv, hs, hr, hl, hw, hcl, hnn⟩ := h
  have q1 := flush_log V.S 1
  have q2 := flush_log (V.S.flush 1) 2
  have q3 := flush_log ((V.S.flush 1).flush 2) 0
  have hb1 : V.flV.S.log.length ≤ 40 * (c + 1) := by show (((V.S.flush 1).flush 2).flush 0).log.length ≤ _; omega
  have hb2 : V.flV.S.wr ≤ (40 * (c + 1) : Nat) := by show (((V.S.flush 1).flush 2).flush 0).wr ≤ _; rw [q3.2, q2.2, q1.2]; omega
  have hb3 : V.flV.x.clk ≤ ((c + 1 : Nat) : Int) := by show V.x.clk ≤ _; omega
  refine (vflush_any w Fv (K.C m p) V hv hr.clo (by omega)).mono ?_
  rintro e w' ⟨rfl, Fv', hv', ht⟩
  refine ⟨_, FU F Fv', rfl, hs.wide ht, ?_⟩
  rcases hr.flush with ⟨r1, r2⟩ | ⟨r1, r2⟩
  · exact .inl ⟨r1, (hs.wide ht).ge hs.wB hge, Fv', m, _, nn, hv', hs.turn hge ht, r2, hb1, hb2, hb3, by omega⟩
  · exact .inr ⟨r1, (hs.wide ht).ge hs.wB hge, Fv', m, _, nn, hv', hs.turn hge ht, r2, hb1, hb2, hb3, by omega⟩
/-- The disks below a volume. -/
theorem VolIn.disk {Fc Fv : Nat → Prop} {C : VC} {V : VS} {A B : Option Addr} {cc d : Nat} (h : VolIn w Fc Fv C V A cc B d) : ∃ Fd A' c', CacheIn w Fd Fc C.g C.s2 C.m C.n2 V.S V.ss A' c' (C.chunk : Int) V.md V.op := h.cache
theorem sd_fuse (x : Nat) (h : SD K w F t k c p) (hx : x ≤ 1000000) :
    Calls Tryz.prog 76 #[.pointer (some ⟨K.g, 0, none⟩), .int .i64 (x : Int)] w fun e w' => e = .returned (.tuple #[]) ∧ ∃ (F' : Nat → Prop), Turn F F' w w' ∧ SD K w' F' t false (c + 1) p := by
  obtain ⟨hge, Fv, m, V, nn, hv, hs, hr, hl, hw, hcl, hnn⟩ := h
  obtain ⟨Fc, A, cc, B, d, hv⟩ := hv
  obtain ⟨Fd, A', c', hca⟩ := hv.disk
  refine (fuse_any w Fd K.g V.S (x : Int) hca.dsk (by omega) (by omega)).mono ?_
  rintro e w2 ⟨rfl, hd2, hf2⟩
  have ht2 : Turn Fd Fd w w2 := ⟨hf2, fun j hj => .inl hj⟩
  have hv2 : VolIn w2 _ _ (K.C m p) { V with S := { V.S with fuse := (x : Int) } } A cc B d := hv.turn ⟨_, _, _, hca.turn hd2 ht2⟩ (turn_wide hca.inF ht2)
  have ht3 := hv.wide (turn_wide hca.inF ht2)
  exact ⟨rfl, _, hs.wide ht3, (hs.wide ht3).ge hs.wB hge, _, m, _, nn, ⟨_, _, _, _, _, hv2⟩, hs.turn hge ht3, hr.fuse (x : Int), by show V.S.log.length ≤ _; omega, by show V.S.wr ≤ _; omega, by show V.x.clk ≤ _; omega, by omega⟩
theorem sd_restart (hK : K.Ok) (A : Option Addr) (cc base : Nat) (bs : List Bool) (h : SD K w F t k c p) (hc : c < 1000) (ho : w.ownsRow base 4 1 (.slice A 192 cc) 192 (bv bs)) (hb : bs.length = 192) (hn : ∀ b, (Value.slice A 192 cc).ownBlock = some b → ¬ F b) :
    Calls Tryz.prog 120 #[.pointer (some ⟨K.g, 0, none⟩), .slice A 192 cc] w fun e w' => e = .returned (.tuple #[]) ∧ ∃ (F' : Nat → Prop), Turn F F' w w' ∧ SZ K w' F' (tFailed t) (c + 1) := by
  obtain ⟨hge, Fv, m, V, nn, hv, hs, hr, hl, hw, hcl, hnn⟩ := h
  obtain ⟨Fc, A', c2, B, d, hv⟩ := hv
  obtain ⟨Fd, A'', c3, hca⟩ := hv.disk
  have hdF : ∀ j, Fd j → F j := fun j hj => hs.inF j (hv.inC j (hca.inF j hj))
  obtain ⟨sl, pm, hvk⟩ := hr.vk
  have hn2 := hvk.n2
  have hk2 := hK.n2_
  have hkc := hK.ch_
  change K.n2 = _ at hn2
  obtain ⟨z1, z2, z3⟩ := ZR.crash hvk (fun r hr => (hca.dsk.1.log r hr).1) (by omega) (by show K.ch ≤ 64; omega) bs
  refine (arestart_any w Fd K.g base 192 cc V.S A bs hca.dsk ho hb (by omega) (fun b hb hf => hn b hb (hdF b hf)) (by omega)).mono ?_
  rintro e w2 ⟨rfl, hd2, hf2⟩
  have ht2 : Turn Fd Fd w w2 := ⟨hf2, fun j hj => .inl hj⟩
  have hs2 := (hs.less (fun j hj => hv.inC j (hca.inF j hj))).turn hge ht2
  have htw : Turn F (FU F Fd) w w2 := (hs.less (fun j hj => hv.inC j (hca.inF j hj))).wide ht2
  have o0 : ¬ Fd K.s0 := fun e => hv.o0 (hca.inF _ e)
  have o1 : ¬ Fd K.s1 := fun e => hv.o1 (hca.inF _ e)
  have o2 : ¬ Fd K.s2 := hca.spF
  have hst : ∀ (a v : Nat), okT t a v → okT (tFailed t) a v := fun a v hv => (failed_okT t a v).2 hv
  exact ⟨rfl, FU F Fd, htw, htw.ge hs.wB hge, Fd, _, nn, hd2, Cs.fr hv.sp0 hf2 o0, Cs.fr hv.sp1 hf2 o1, Cs.fr hca.span hf2 o2, ⟨o0, o1, o2⟩, ⟨.inl (hs.inF _ hv.i0), .inl (hs.inF _ hv.i1), .inl (hs.inF _ (hv.inC _ hca.spC))⟩, hs2,
    ⟨⟨z1.nf.hea, z1.nf.dn, z1.nf.fu⟩, z1.st, z1.op, z1.hC, z1.h1, z1.hb, z1.n2, z1.eq, fun a v ha hv => hst a v (z1.v a v ha hv)⟩, by unfold tFailed; rw [List.length_map]; exact hr.tl, failed_kn t, by rw [z2]; exact Nat.zero_le _, by rw [z3]; omega, by omega⟩
end

end Go.Proofs.YtogchafnnkajfaaGreat

namespace Go.Proofs.YtogchafnnkajfaaGreat
set_option linter.unusedVariables false
open Go.RowKit
attribute [local go_sem] Oper.semAt_some m_write m_read m_flush m_size

set_option maxRecDepth 100000 in
set_option maxHeartbeats 8000000 in
theorem sz_open {K : Sk} (hK : K.Ok) {w : World} {F : Nat → Prop} {t : List Sec} {c : Nat} (h : SZ K w F t c) (hc : c < 1000) :
    Calls Tryz.prog 65 #[.pointer (some ⟨K.b1, 0, none⟩), .pointer (some ⟨K.b2, 0, none⟩), .pointer (some ⟨K.b3, 0, none⟩)] w fun e w' => ∃ (p : Nat) (F' : Nat → Prop), e = .returned (.tuple #[.iface 39 (.pointer (some ⟨p, 0, none⟩)), .bool true]) ∧ Turn F F' w w' ∧ SD K w' F' t true (c + 1) p := by
  obtain ⟨hge, Fd, S, nn, hd, h0, h1, h2, hnd, hi, hs, hz, htl, hkn, hl, hw, hnn⟩ := h
  have hlp := hK.lp
  have hn0 := hK.n0_
  have hn1 := hK.n1_
  have hn2 := hK.n2_
  have hch := hK.ch_
  have x1 : w.cell? ⟨K.b1, 0, none⟩ = some (.slice K.A K.lm K.cm) := hs.m1.cell 0
  have x2 : w.cell? ⟨K.b2, 0, none⟩ = some (.int .i64 (nn : Int)) := hs.m2.cell 0
  have x3 : w.cell? ⟨K.b3, 0, none⟩ = some (.slice (some ⟨K.bL, 0, none⟩) 3 K.cL) := hs.m3.cell 0
  have f2 := hs.m2.free 0
  obtain ⟨bA, oA, hA, hbA, hcs⟩ := (hs.mvs w (Below.refl _ _)).i (by rw [hK.lm_]; omega)
  rw [hA] at x1
  have hmod : nn % K.lm < K.lm := Nat.mod_lt _ (by omega)
  have hkc := hcs (nn % K.lm) (by rw [hK.lm_]; exact hmod)
  obtain ⟨mode, hmo⟩ : ∃ mode, K.ml[nn % K.lm]?.getD 0 = mode := ⟨_, rfl⟩
  rw [hmo] at hkc
  have hm12 : mode = 1 ∨ mode = 2 := by
    rw [List.getElem?_eq_getElem (by rw [hK.lm_]; exact hmod), Option.getD_some] at hmo
    rw [← hmo]
    exact hK.mo _ (List.getElem_mem _)
  have e1 : (nn : Int).tmod (K.lm : Int) = ((nn % K.lm : Nat) : Int) := by rw [Int.tmod_eq_emod_of_nonneg (by omega)]; rfl
  have e1' : (nn : Int) % (K.lm : Int) = ((nn % K.lm : Nat) : Int) := rfl
  have t2 : ((nn % K.lm : Nat) : Int) < (K.lm : Int) := by omega
  have hl2 : ¬ (K.lm : Int) = 0 := by omega
  have hl2' : ¬ K.lm = 0 := by omega
  have e2 : IntKind.i64.wrap ((nn : Int) + 1) = ((nn + 1 : Nat) : Int) := by rw [IntWalk.i64_in _ (by omega)]; rfl
  have HK := Lib.hid hm12
  have HD := Lib.hid hd
  have H0 := Lib.hid h0
  have H1 := Lib.hid h1
  have H2 := Lib.hid h2
  have HND := Lib.hid hnd
  have HI := Lib.hid hi
  have HS := Lib.hid hs
  have HZ := Lib.hid hz
  have HG := Lib.hid hge
  have HKN := Lib.hid hkn
  have HTL := Lib.hid htl
  have HBW : Hid (K.B ≤ w.heap.size) := hs.wB
  clear hge hd h0 h1 h2 hnd hi hs hz hkn htl hA hbA hcs hmo hm12
  generalize nn % K.lm = am at *
  go_enter Tryz.func65, Tryz.ntmps65
  go_upto_region 1 with (fail)
  go_quiet (fail)
  clear x1 hkc
  have hb1 : Below w.heap.size w (w.drewN nq) := below_drewN (Below.refl _ w) nq
  have HS1 := Lib.hid (HS.out.fr (Fr.of_below (G := fun _ => False) hb1) (fun _ _ h => h) (fun _ h => h.elim))
  have HT1 := Lib.hid (Turn.of_below (F := F) hb1)
  have HD1 := Lib.hid (HD.out.keep hb1)
  have H01 := Lib.hid (Cs.below H0.out hb1 H0.out.lt)
  have H11 := Lib.hid (Cs.below H1.out hb1 H1.out.lt)
  have H21 := Lib.hid (Cs.below H2.out hb1 H2.out.lt)
  clear hb1 HS HD H0 H1 H2 x2 f2 x3
  generalize w.drewN nq = w1 at *
  have x2 : w1.cell? ⟨K.b2, 0, none⟩ = some (.int .i64 (nn : Int)) := HS1.out.m2.cell 0
  have f2 := HS1.out.m2.free 0
  go_upto_region 3 with (fail)
  -- the count of the openings
  have hf2 := fr_set w1 K.b2 0 (.int .i64 ((nn : Int) + 1))
  have hb2F : F K.b2 := HS1.out.im.2.1
  have n12 : K.b1 ≠ K.b2 := cs_ne HS1.out.m2 HS1.out.m1 (by decide)
  have n32 : K.b3 ≠ K.b2 := cs_ne HS1.out.m2 HS1.out.m3 (by decide)
  have nL2 : K.bL ≠ K.b2 := fun e => cs_own_ne HS1.out.m2 HS1.out.row (by decide) K.bL rfl e
  have ns0 : K.s0 ≠ K.b2 := cs_ne HS1.out.m2 H01.out (by decide)
  have ns1 : K.s1 ≠ K.b2 := cs_ne HS1.out.m2 H11.out (by decide)
  have ns2 : K.s2 ≠ K.b2 := cs_ne HS1.out.m2 H21.out (by decide)
  have hs2 : SV K (w1.setCell ⟨K.b2, 0, none⟩ (.int .i64 ((nn : Int) + 1))) Fd F (nn + 1) :=
    ⟨HS1.out.inF, HS1.out.m1.fr hf2 n12, Cs.put (l := [_]) HS1.out.m2 _, HS1.out.m3.fr hf2 n32, own_fr HS1.out.row hf2 (fun b hb e => by simp [Value.ownBlock] at hb; exact nL2 (hb.trans e)), HS1.out.nm, HS1.out.im, fun w2 h2 => HS1.out.mvs w2 ((hf2.below HS1.out.wB (fun j hj => by subst hj; exact HG.out _ hb2F)).trans h2), Nat.le_trans HS1.out.wB hf2.size⟩
  have HS2 := Lib.hid hs2
  have HD2 := Lib.hid (HD1.out.fr hf2 (fun j hj e => HS1.out.nm.2.1 (e ▸ hj)))
  have H02 := Lib.hid (Cs.fr H01.out hf2 ns0)
  have H12 := Lib.hid (Cs.fr H11.out hf2 ns1)
  have H22 := Lib.hid (Cs.fr H21.out hf2 ns2)
  have HT2 := Lib.hid (HT1.out.trans (⟨(Fr.refl F w1).set (.inl hb2F) _, fun j hj => .inl hj⟩ : Turn F F w1 (w1.setCell ⟨K.b2, 0, none⟩ (.int .i64 ((nn : Int) + 1)))))
  clear hf2 hs2 HS1 HD1 H01 H11 H21 HT1 x2 f2 n12 n32 nL2 ns0 ns1 ns2
  generalize (w1.setCell ⟨K.b2, 0, none⟩ (.int .i64 ((nn : Int) + 1))) = w2 at *
  have x3 : w2.cell? ⟨K.b3, 0, none⟩ = some (.slice (some ⟨K.bL, 0, none⟩) 3 K.cL) := HS2.out.m3.cell 0
  have y0 : w2.cell? ⟨K.bL, 0, none⟩ = some (.iface 176 (.pointer (some ⟨K.s0, 0, none⟩))) := HS2.out.row.cellAt 0 (by omega)
  have y1 : w2.cell? ⟨K.bL, 1, none⟩ = some (.iface 176 (.pointer (some ⟨K.s1, 0, none⟩))) := HS2.out.row.cellAt 1 (by omega)
  have y2 : w2.cell? ⟨K.bL, 2, none⟩ = some (.iface 176 (.pointer (some ⟨K.s2, 0, none⟩))) := HS2.out.row.cellAt 2 (by omega)
  have hb3 : Below w2.heap.size w2 w2.drew := (Below.refl _ w2).drew
  have HOP := Lib.hid (vopen_any w2.drew Fd (fun j => Fd j ∨ j = K.s0 ∨ j = K.s1 ∨ j = K.s2) K.g K.s0 K.s1 K.s2 K.n0 K.n1 K.n2 S mode (HD2.out.keep hb3) H02.out H12.out H22.out (fun j hj => .inl hj) (.inr (.inl rfl)) (.inr (.inr (.inl rfl))) (.inr (.inr (.inr rfl))) HND.out.1 HND.out.2.1 HND.out.2.2 hK.s02 hK.s12 HZ.out.nf.hea HZ.out.nf.dn HZ.out.nf.fu
    (by
      have := HD2.out.1.drv
      unfold DS.now DS.drv
      rcases hx : S.dr[2]? with _ | x
      · intro y hy; simp at hy
      · exact (this x (List.mem_of_getElem? hx)).1) (by omega) (by omega) (by omega) (by omega) (by omega) (by omega) (by rcases HK.out with rfl | rfl <;> omega))
  unfold spanV at HOP
  have hE := (HZ.out.opened HK.out).2.2.2.2.2.2.2.2.2.2
  have HE : Hid (opnE (S.now 2) K.n0 K.n1 mode = 0) := hE
  clear hE hb3
  go_wp2_with fail
  go_region_held3 (fun w' => w'.cell? ⟨K.b3, 0, none⟩ = some (.slice (some ⟨K.bL, 0, none⟩) 3 K.cL) ∧ w'.cell? ⟨K.bL, 0, none⟩ = some (.iface 176 (.pointer (some ⟨K.s0, 0, none⟩))) ∧ w'.cell? ⟨K.bL, 1, none⟩ = some (.iface 176 (.pointer (some ⟨K.s1, 0, none⟩))) ∧ w'.cell? ⟨K.bL, 2, none⟩ = some (.iface 176 (.pointer (some ⟨K.s2, 0, none⟩))))
    (first | with_reducible exact yy | exact ⟨x3, y0, y1, y2⟩)
    ((go_at_call 24; (with_reducible refine HOP.out.mono ?_); rintro e w3 ho; rcases ho with ⟨hne, -⟩ | ⟨-, m, v, Fv', rfl, hv3, ht3⟩; (exact absurd HE.out hne); have HV3 := Lib.hid hv3; have HT3 := Lib.hid ht3; have nF : ∀ {b : Nat} {ty : TypeId} {cs : Array Value}, Cs w2 b ty cs → ty ≠ 178 → ¬ Fd b → ¬ (Fd b ∨ b = K.s0 ∨ b = K.s1 ∨ b = K.s2) := (fun hcs hty hnf e => e.elim hnf (fun e => e.elim (fun e => cs_ne (cs' := _) H02.out hcs (fun q => hty q.symm) e) (fun e => e.elim (fun e => cs_ne H12.out hcs (fun q => hty q.symm) e) (fun e => cs_ne H22.out hcs (fun q => hty q.symm) e)))); clear hv3 ht3; have n3 := nF HS2.out.m3 (by decide) HS2.out.nm.2.2.1; have nL : ¬ (Fd K.bL ∨ K.bL = K.s0 ∨ K.bL = K.s1 ∨ K.bL = K.s2) := (fun e => e.elim HS2.out.nm.2.2.2 (fun e => e.elim (fun e => cs_own_ne H02.out HS2.out.row (by decide) K.bL rfl e) (fun e => e.elim (fun e => cs_own_ne H12.out HS2.out.row (by decide) K.bL rfl e) (fun e => cs_own_ne H22.out HS2.out.row (by decide) K.bL rfl e)))); have yy : w3.cell? ⟨K.b3, 0, none⟩ = some (.slice (some ⟨K.bL, 0, none⟩) 3 K.cL) ∧ w3.cell? ⟨K.bL, 0, none⟩ = some (.iface 176 (.pointer (some ⟨K.s0, 0, none⟩))) ∧ w3.cell? ⟨K.bL, 1, none⟩ = some (.iface 176 (.pointer (some ⟨K.s1, 0, none⟩))) ∧ w3.cell? ⟨K.bL, 2, none⟩ = some (.iface 176 (.pointer (some ⟨K.s2, 0, none⟩))) := ⟨(HT3.out.1.cell (b := K.b3) (i := 0) HS2.out.m3.lt n3).trans x3, (HT3.out.1.cell (b := K.bL) (i := 0) (own_lt HS2.out.row _ rfl) nL).trans y0, (HT3.out.1.cell (b := K.bL) (i := 1) (own_lt HS2.out.row _ rfl) nL).trans y1, (HT3.out.1.cell (b := K.bL) (i := 2) (own_lt HS2.out.row _ rfl) nL).trans y2⟩))
  have ht3 : Turn (fun j => Fd j ∨ j = K.s0 ∨ j = K.s1 ∨ j = K.s2) Fv' w2 w3 := (Turn.of_below (Below.refl _ w2).drew).trans HT3.out
  have n1 := nF HS2.out.m1 (by decide) HS2.out.nm.1
  have n2 := nF HS2.out.m2 (by decide) HS2.out.nm.2.1
  have hsv : SV K w2 (fun j => Fd j ∨ j = K.s0 ∨ j = K.s1 ∨ j = K.s2) F (nn + 1) := ⟨fun j hj => hj.elim (HS2.out.inF j) (fun e => e.elim (fun e => e ▸ HI.out.1) (fun e => e.elim (fun e => e ▸ HI.out.2.1) (fun e => e ▸ HI.out.2.2))), HS2.out.m1, HS2.out.m2, HS2.out.m3, HS2.out.row, ⟨n1, n2, n3, nL⟩, HS2.out.im, HS2.out.mvs, HS2.out.wB⟩
  have HS3 := Lib.hid (hsv.turn HG.out ht3)
  have HT4 := Lib.hid (HT2.out.trans (hsv.wide ht3))
  clear ht3 n1 n2 n3 nL hsv yy HT3 HS2 HD2 H02 H12 H22 x3 y0 y1 y2 HOP
  go_wp2_with fail
  go_ret2
  have hz := HZ.out
  have hZ : ZR (K.C m v) S (okT t) := ⟨⟨hz.nf.hea, hz.nf.dn, hz.nf.fu⟩, hz.st, hz.op, hz.hC, hz.h1, hz.hb, hz.n2, hz.eq, hz.v⟩
  have hV : VolAt w3 Fv' (K.C m v) ((opn0 S mode).bgn (K.C m v) mode) := by
    have h0 := HV3.out
    rw [← show K.ch = opC (S.now 2) from hz.hC] at h0
    exact h0
  have hdr := hZ.dr HTL.out HKN.out HK.out
  obtain ⟨-, -, -, -, -, -, -, b1, b2, b3, -⟩ := hZ.opened HK.out
  have hk2 : K.n2 = opK (S.now 2) + 1 := hz.n2
  have hmul : opK (S.now 2) * ((K.C m v).chunk + 2) ≤ 3 * 5 := Nat.mul_le_mul (by omega) (by show K.ch + 2 ≤ 5; omega)
  have hfin : SD K w3 (FU F Fv') t true (c + 1) v := ⟨HT4.out.ge HBW.out HG.out, Fv', m, (opn0 S mode).bgn (K.C m v) mode, nn + 1, hV, HS3.out, hdr, by omega, by omega, by omega, by omega⟩
  exact ⟨v, FU F Fv', rfl, HT4.out, hfin⟩

theorem sd_dev {K : Sk} (hK : K.Ok) : DevC K.B K.n0 1000 K.g 65 #[.pointer (some ⟨K.b1, 0, none⟩), .pointer (some ⟨K.b2, 0, none⟩), .pointer (some ⟨K.b3, 0, none⟩)] (SD K) (SZ K) where
  dfr := fun h hf hn hb => h.fr hf hn hb
  dti := fun h => h.tight
  zfr := fun h hf hn hb => h.fr hf hn hb
  zti := fun h => h.tight
  size := fun h => sd_size h
  read := fun a st h ha hc hst => sd_read hK a st h ha hc hst
  write := fun a v h ha hv hc => sd_write hK a v h ha hv hc
  flush := fun h hc => sd_flush hK h hc
  fuse := fun x h hx hc => sd_fuse x h hx
  restart := fun A cc base bs h hc ho hb hn => sd_restart hK A cc base bs h hc ho hb hn
  opens := fun h hc => sz_open hK h hc

end Go.Proofs.YtogchafnnkajfaaGreat

namespace Go.Proofs.YtogchafnnkajfaaGreat
set_option linter.unusedVariables false
open Go.RowKit
attribute [local go_sem] Oper.semAt_some m_write m_read m_flush m_size

/-- The words that are made from a number. -/
def wV (seed : Int) (k : Nat) : Nat := (IntKind.u64.wrap (seed + IntKind.u64.wrap ((k : Int) * 11400714819323198485))).toNat
def wordsL (seed : Int) (n : Nat) : List Nat := (List.range n).map (wV seed)
theorem wordsL_length (seed : Int) (n : Nat) : (wordsL seed n).length = n := by simp [wordsL]
theorem wordsL_succ (seed : Int) (n : Nat) : wordsL seed (n + 1) = wordsL seed n ++ [wV seed n] := by simp [wordsL, List.range_succ]
theorem wV_eq (seed : Int) (k : Nat) : IntKind.u64.wrap (seed + IntKind.u64.wrap ((k : Int) * 11400714819323198485)) = (wV seed k : Int) ∧ wV seed k < 18446744073709551616 := by
  obtain ⟨y, ey, hy⟩ := any_u64 (seed + IntKind.u64.wrap ((k : Int) * 11400714819323198485))
  unfold wV
  generalize IntKind.u64.wrap ((k : Int) * 11400714819323198485) = z at *
  rw [ey]
  exact ⟨rfl, by simpa using hy⟩
theorem wordsL_w (seed : Int) (n : Nat) : W64 (wordsL seed n) := by
  intro x hx
  obtain ⟨k, _, rfl⟩ := List.mem_map.1 hx
  exact (wV_eq seed k).2
theorem words2_any (n : Nat) (seed : Int) (W : World) (hn : n ≤ 1000) :
    Calls Tryz.prog 16 #[.int .i64 (n : Int), .int .u64 seed] W fun e W' => ∃ v, e = .returned v ∧ W'.ownsRow W.heap.size 26 1 v n (uv (wordsL seed n)) ∧ Below W.heap.size W W' := by
  obtain ⟨i0, hi0, hz0, hz1, hz2⟩ := info_parts u64_info
  go_enter Tryz.func16, Tryz.ntmps16
  go_wp2_with fail
  go_loopw [5, 6] (fun v i wr => ∃ (k : Nat), k ≤ n ∧ i = .int .i64 k ∧ wr.ownsRow W.heap.size 26 1 v k (uv (wordsL seed k)) ∧ Below W.heap.size W wr) (fun _ i _ => n - (intOf i).toNat)
  case atStart => exact ⟨0, Nat.zero_le _, rfl, World.ownsRow_nil _ _ _ _, Below.refl _ _⟩
  case round =>
    obtain ⟨k, hk, rfl, hown, hb⟩ := hrel
    obtain ⟨A1, c1, rfl⟩ := own_form hown
    have HO := Lib.hid hown
    have hkl : (uv (wordsL seed k)).length = k := by rw [uv_length, wordsL_length]
    have HKL := Lib.hid hkl
    clear hown hkl
    by_cases hlt : k < n
    · go_wp2_with (at_builtin; refine wpList_append_reads _ (by rfl) _ _ _ (by rfl) W.heap.size 26 i0 _ 1 8 Tryz.underlying29 hi0 hz0 hz1 hz2 (by rfl) (by omega) (.slice A1 k c1) k (uv (wordsL seed k)) (by rfl) (HO.out.alloc _) (some ⟨wr.heap.size, 0, none⟩) 1 1 _ (by rfl) (by rfl) (Reads.new _ _ _) (by simp [Value.oneCell']) (by simp only [maxLen]; omega) (by omega) (by have := hb.size; simp; omega) ?_; intro v1 w6 hown6 hg6 hat6; have hbb := app_below HO.out hg6 hb.size)
      obtain ⟨ey, hy⟩ := wV_eq seed k
      rw [ey] at hown6
      have ho : w6.ownsRow W.heap.size 26 1 v1 (k + 1) (uv (wordsL seed (k + 1))) := by rw [wordsL_succ, uv_append]; exact hown6
      go_roundw
      case rel => exact ⟨k + 1, by omega, by go_num, ho, hb.trans hbb⟩
      case measure => simp [intOf]; omega
    · have hkn : k = n := by omega
      subst hkn
      go_wp2_with fail
      go_ret
      exact ⟨_, rfl, HO.out, hb⟩

theorem few_any (A : Option Addr) (n c : Nat) (W : World) : Calls Tryz.prog 35 #[.slice A n c] W fun e w' => e = .returned (.bool (decide (n ≤ 24))) ∧ W = w' := by
  by_cases h : n ≤ 24
  · have t1 : (n : Int) ≤ 24 := by omega
    have d1 : decide ((n : Int) ≤ 24) = true := by simpa using t1
    go_enter Tryz.func35, Tryz.ntmps35
    go_wp2_with fail
    go_ret
    exact ⟨by simp [h], rfl⟩
  · have t1 : ¬ (n : Int) ≤ 24 := by omega
    have d1 : decide ((n : Int) ≤ 24) = false := by simpa using t1
    go_enter Tryz.func35, Tryz.ntmps35
    go_wp2_with fail
    go_ret
    exact ⟨by simp [], rfl⟩

/-- The words of a new cache. -/
def newW (k chunk : Nat) : List Nat := fmtW (List.replicate (k + 1) 0) k (chunk : Int)
theorem words33_any (k chunk : Nat) (W : World) (hk : 1 ≤ k ∧ k ≤ 1024) (hc : 1 ≤ chunk ∧ chunk ≤ 64) :
    Calls Tryz.prog 19 #[.int .i64 (k : Int), .int .i64 (chunk : Int)] W fun e W' => ∃ v, e = .returned v ∧ W'.ownsRow W.heap.size 26 1 v (k + 1) (uv (newW k chunk)) ∧ Below W.heap.size W W' := by
  have e1 : IntKind.i64.wrap ((k : Int) + 1) = ((k + 1 : Nat) : Int) := by rw [IntWalk.i64_in _ (by omega)]; rfl
  obtain ⟨n, hn⟩ : ∃ n, k + 1 = n := ⟨_, rfl⟩
  rw [hn] at e1 ⊢
  have HN := Lib.hid hn
  have hkn : k + 1 ≤ n := by omega
  have hn2 : n ≤ 65536 := by omega
  clear hn
  have hmk := fun w => run_make_u64 n (by omega) w
  go_enter Tryz.func19, Tryz.ntmps19
  go_wp2_with fail
  refine (rformat_ok _ W.heap.size W.heap.size W.heap.size n n k (chunk : Int) (List.replicate n 0) (World.ownsRow_lit (size := 1) W (uv (List.replicate n 0)).toArray n (Nat.le_refl _) (by simp only [maxLen]; omega) (by simp [uv])) (List.length_replicate ..) (Nat.le_refl _) hk hkn hn2 (by omega) (by simp)).mono ?_
  rintro e w2 ⟨rfl, ho, hb⟩
  go_wp2_with fail
  go_ret
  refine ⟨_, rfl, ?_, ((Below.refl _ W).alloc (Nat.le_refl _) _).trans (hb.mono (Nat.le_refl _))⟩
  rw [show newW k chunk = setZ ((List.replicate n 0).set 0 (hdI k (chunk : Int) 0 false)) k by rw [← HN.out]; exact (fmtW_eq ..)]
  exact ho


theorem newW_length (k chunk : Nat) : (newW k chunk).length = k + 1 := by unfold newW; rw [fmtW_length, List.length_replicate]
theorem newW_w (k chunk : Nat) : W64 (newW k chunk) := by
  unfold newW
  rw [fmtW_eq]
  have h0 : ∀ j (l : List Nat), W64 l → W64 (setZ l j) := by
    intro j
    induction j with
    | zero => exact fun l h => h
    | succ j ih =>
      intro l h x hx
      rcases List.mem_or_eq_of_mem_set hx with hx | rfl
      · exact ih l h x hx
      · omega
  refine h0 k _ ?_
  intro x hx
  rcases List.mem_or_eq_of_mem_set hx with hx | rfl
  · rw [(List.mem_replicate.1 hx).2]; omega
  · exact hdI_lt _ _ _ _
/-- New disks. -/
theorem full3 (C : VC) (l0 l1 l2 : List Nat) (h0 : l0.length = C.n0) (h1 : l1.length = C.n1) (h2 : l2.length = C.n2) : NF C (DS.full [l0, l1, l2]) ∧ ∀ i, i < 3 → Stl (DS.full [l0, l1, l2]) i := by
  have key : ∀ i j : Nat, ((DS.full [l0, l1, l2]).dur i)[j]? = ((DS.full [l0, l1, l2]).now i)[j]? := by
    intro i j
    rcases i with _ | _ | _ | i <;> rfl
  refine ⟨⟨⟨rfl, ?_, fun i j _ => key i j, fun i j v hv => .inl ((key i j).trans hv)⟩, rfl, rfl⟩, ?_⟩
  · intro i m hi
    rcases i with _ | _ | _ | i
    · simp at hi; subst hi; exact ⟨h0, h0, rfl⟩
    · simp at hi; subst hi; exact ⟨h1, h1, rfl⟩
    · simp at hi; subst hi; exact ⟨h2, h2, rfl⟩
    · simp at hi
  · intro i hi b x hx
    rcases hx with hx | ⟨r, hr, -⟩
    · exact (key i b).symm.trans hx
    · cases hr

set_option maxRecDepth 100000 in
set_option maxHeartbeats 8000000 in
theorem sound33_any (As Am : Option Addr) (n c lm cm : Nat) (ls : List Stp) (mv : List Int) (chunk k : Nat) (W : World) (hn : ls.length = n) (h24 : n ≤ 24) (hs : Reads W As (svs ls)) (hok : StpOk ls) (hm : mv.length = lm) (hmv : Reads W Am (iv mv)) (hmo : ∀ x ∈ mv, x = 1 ∨ x = 2) (hlm : 1 ≤ lm ∧ lm ≤ 1000) (hk : 1 ≤ k ∧ k ≤ 3) (hch : 1 ≤ chunk ∧ chunk ≤ 3) :
    Calls Tryz.prog 36 #[.slice As n c, .slice Am lm cm, .int .i64 (chunk : Int), .int .i64 (k : Int)] W fun e w' => e = .returned (.bool true) ∧ Below W.heap.size W w' := by
  have HN := Lib.hid hn
  have HS := Lib.hid hs
  have HOK := Lib.hid hok
  have HM := Lib.hid hm
  have HMV := Lib.hid hmv
  have HMO := Lib.hid hmo
  obtain ⟨z, hz⟩ : ∃ z, chunk * k = z := ⟨_, rfl⟩
  have hz1 : 1 ≤ z ∧ z ≤ 9 := by
    have h1 := Nat.mul_le_mul hch.1 hk.1
    have h2 := Nat.mul_le_mul hch.2 hk.2
    omega
  have u1 : IntKind.i64.wrap ((chunk : Int) * (k : Int)) = ((z : Nat) : Int) := by rw [IntWalk.i64_in _ (by rw [← Int.natCast_mul, hz]; omega), ← Int.natCast_mul, hz]
  have HZZ := Lib.hid hz
  clear hn hs hok hm hmv hmo hz
  go_enter Tryz.func36, Tryz.ntmps36
  go_wp2_with fail
  refine (words2_any 11 3 _ (by omega)).mono ?_
  rintro e W1 ⟨v1, rfl, ho1, hb1⟩
  obtain ⟨A5, c5, hv1⟩ := own_form ho1
  subst hv1
  have hbx : Cs (W.alloc (.cells #[.slice Am lm cm] 22)) W.heap.size 22 #[.slice Am lm cm] := Cs.new W _ _
  have hba : Below W.heap.size W (W.alloc (.cells #[.slice Am lm cm] 22)) := (Below.refl _ _).alloc (Nat.le_refl _) _
  have hsa : (W.alloc (.cells #[.slice Am lm cm] 22)).heap.size = W.heap.size + 1 := by simp
  generalize W.alloc (.cells #[.slice Am lm cm] 22) = W0 at *
  have HBX := Lib.hid (Cs.below hbx hb1 (by omega))
  have HO5 := Lib.hid ho1
  have HB5 := Lib.hid (hba.trans (hb1.mono (by omega)))
  have hs1 := hb1.size
  clear ho1 hb1 hbx hba
  go_wp2_with fail
  refine (words2_any z 50 W1 (by omega)).mono ?_
  rintro e W2 ⟨v2, rfl, ho2, hb2⟩
  obtain ⟨A6, c6, hv2⟩ := own_form ho2
  subst hv2
  have HBX2 := Lib.hid (Cs.below HBX.out hb2 (by omega))
  have HO52 := Lib.hid (own_keepB HO5.out hb2)
  have HO6 := Lib.hid ho2
  have HB6 := Lib.hid (HB5.out.trans (hb2.mono (by omega)))
  have hs2 := hb2.size
  clear ho2 hb2 HBX HO5 HB5
  go_wp2_with fail
  refine (words33_any k chunk W2 (by omega) (by omega)).mono ?_
  rintro e W3 ⟨v3, rfl, ho3, hb3⟩
  obtain ⟨A7, c7, hv3⟩ := own_form ho3
  subst hv3
  have HBX3 := Lib.hid (Cs.below HBX2.out hb3 (by omega))
  have HR5 := Lib.hid (Reads.of_own (own_keepB HO52.out hb3))
  have HR6 := Lib.hid (Reads.of_own (own_keepB HO6.out hb3))
  have HR7 := Lib.hid (Reads.of_own ho3)
  have HB7 := Lib.hid (HB6.out.trans (hb3.mono (by omega)))
  have hs3 := hb3.size
  clear ho3 hb3 HBX2 HO52 HO6 HB6
  have hl0 := wordsL_length 3 11
  have hl1 := wordsL_length 50 z
  have hl2 := newW_length k chunk
  have hw0 := wordsL_w 3 11
  have hw1 := wordsL_w 50 z
  have hw2 := newW_w k chunk
  have HNW : Hid (newW k chunk = fmtW (List.replicate (k + 1) 0) k (chunk : Int)) := rfl
  generalize hg0 : wordsL 3 11 = l0 at *
  have HE0 := Lib.hid hg0
  clear hg0
  generalize wordsL 50 z = l1 at *
  generalize newW k chunk = l2 at *
  have HL0 := Lib.hid hl0
  have HL1 := Lib.hid hl1
  have HL2 := Lib.hid hl2
  clear hl0 hl1 hl2
  obtain ⟨n2, hn2⟩ : ∃ n2, k + 1 = n2 := ⟨_, rfl⟩
  rw [hn2] at HL2 ⊢
  have HN2 := Lib.hid hn2
  have hn2b : 2 ≤ n2 ∧ n2 ≤ 4 := by omega
  clear hn2
  go_wp2_with fail
  have hv : ([⟨A5, c5, l0⟩, ⟨A6, c6, l1⟩, ⟨A7, c7, l2⟩].map Im.v).toArray = #[Value.slice A5 11 c5, Value.slice A6 z c6, Value.slice A7 n2 c7] := by simp [Im.v, HL0.out, HL1.out, HL2.out]
  have HC6 : Hid (Cs (W3.alloc (.cells #[Value.slice A5 11 c5, Value.slice A6 z c6, Value.slice A7 n2 c7] 29)) W3.heap.size 29 ([⟨A5, c5, l0⟩, ⟨A6, c6, l1⟩, ⟨A7, c7, l2⟩].map Im.v).toArray) := by show Cs _ _ _ _; rw [hv]; exact Cs.new W3 _ _
  clear hv
  have hb7 : Below W3.heap.size W3 (W3.alloc (.cells #[Value.slice A5 11 c5, Value.slice A6 z c6, Value.slice A7 n2 c7] 29)) := (Below.refl _ _).alloc (Nat.le_refl _) _
  have HR5b := Lib.hid (HR5.out.keep hb7)
  have HR6b := Lib.hid (HR6.out.keep hb7)
  have HR7b := Lib.hid (HR7.out.keep hb7)
  have HBX4 := Lib.hid (Cs.below HBX3.out hb7 (by omega))
  have HB8 := Lib.hid (HB7.out.trans (hb7.mono (by omega)))
  have hs4 := hb7.size
  clear hb7 HR5 HR6 HR7 HBX3 HB7
  refine (loaded_any _ W3.heap.size 3 3 [⟨A5, c5, l0⟩, ⟨A6, c6, l1⟩, ⟨A7, c7, l2⟩] HC6.out rfl (by omega) (by intro p hp; simp at hp; rcases hp with rfl | rfl | rfl; exact HR5b.out; exact HR6b.out; exact HR7b.out) (by intro p hp; simp at hp; rcases hp with rfl | rfl | rfl; rw [HL0.out]; exact ⟨by omega, by omega, hw0⟩; rw [HL1.out]; exact ⟨hz1.1, by omega, hw1⟩; rw [HL2.out]; exact ⟨by omega, by omega, hw2⟩)).mono ?_
  generalize (W3.alloc (.cells #[Value.slice A5 11 c5, Value.slice A6 z c6, Value.slice A7 n2 c7] 29)) = W4 at *
  rintro e V1 ⟨g, rfl, hd, hbV⟩
  have HBV := Lib.hid (HB8.out.trans (hbV.mono HB8.out.size))
  have hsV := hbV.size
  have HBX5 := Lib.hid (Cs.below HBX4.out hbV (by omega))
  obtain ⟨F, hdF, hge⟩ : ∃ F : Nat → Prop, DskAt V1 F g (DS.full [l0, l1, l2]) ∧ ∀ j, F j → W4.heap.size ≤ j ∧ j < V1.heap.size := ⟨_, hd.tight, by intro j hj; have := hj.1; exact ⟨this, hj.2⟩⟩
  have HD := Lib.hid hdF
  have HGE := Lib.hid hge
  clear hd hge hbV HB8 HC6 HR5b HR6b HR7b HBX4 hdF
  go_wp2_with fail
  refine (spans_any V1 _ g (DS.full [l0, l1, l2]) HD.out (by intro x hx; simp [DS.full] at hx; rcases hx with rfl | rfl | rfl; show 1 ≤ l0.length; rw [HL0.out]; omega; show 1 ≤ l1.length; rw [HL1.out]; exact hz1.1; show 1 ≤ l2.length; rw [HL2.out]; omega)).mono ?_
  rintro e V2 ⟨v2, sps, rfl, hsl, hown, hsp, hb2⟩
  have hsl2 : sps.length = 3 := hsl
  obtain ⟨s0, s1, s2, rfl⟩ : ∃ s0 s1 s2, sps = [s0, s1, s2] := by
    rcases sps with _ | ⟨s0, _ | ⟨s1, _ | ⟨s2, _ | ⟨q, r⟩⟩⟩⟩
    · simp at hsl2
    · simp at hsl2
    · simp at hsl2
    · exact ⟨s0, s1, s2, rfl⟩
    · simp at hsl2
  obtain ⟨hs0, hsg0⟩ := hsp 0 s0 rfl
  obtain ⟨hs1, hsg1⟩ := hsp 1 s1 rfl
  obtain ⟨hs2, hsg2⟩ := hsp 2 s2 rfl
  change SpanAt V2 s0 g 0 l0.length at hs0
  change SpanAt V2 s1 g 1 l1.length at hs1
  change SpanAt V2 s2 g 2 l2.length at hs2
  have hs02 : s0 ≠ s2 := by
    rintro rfl
    have := (Cs.cell hs0 1).symm.trans (Cs.cell hs2 1)
    simp at this
  have hs12 : s1 ≠ s2 := by
    rintro rfl
    have := (Cs.cell hs1 1).symm.trans (Cs.cell hs2 1)
    simp at this
  rw [HL0.out] at hs0
  rw [HL1.out] at hs1
  rw [HL2.out] at hs2
  change V2.ownsRow V1.heap.size _ 1 v2 3 _ at hown
  obtain ⟨bL, cL, hvL, hbL, hbLl⟩ := hown.form (by omega)
  subst hvL
  have HD2 := Lib.hid (HD.out.keep hb2)
  have HS0 := Lib.hid hs0
  have HS1 := Lib.hid hs1
  have HS2 := Lib.hid hs2
  have HL := Lib.hid hown
  have HBX6 := Lib.hid (Cs.below HBX5.out hb2 (by omega))
  have HB2 := Lib.hid (HBV.out.trans (hb2.mono HBV.out.size))
  have hV2s : V1.heap.size ≤ V2.heap.size := hb2.size
  have hs0l := Cs.lt hs0
  have hs1l := Cs.lt hs1
  have hs2l := Cs.lt hs2
  clear hs0 hs1 hs2 hown hb2 hsp hsl hsl2 HBV HD HBX5
  go_wp2_with fail
  have h3 := Cs.new V2 38 #[.slice (some ⟨bL, 0, none⟩) 3 cL]
  have hb3 : Below V2.heap.size V2 (V2.alloc (.cells #[.slice (some ⟨bL, 0, none⟩) 3 cL] 38)) := (Below.refl _ _).alloc (Nat.le_refl _) _
  have hsz3 : (V2.alloc (.cells #[.slice (some ⟨bL, 0, none⟩) 3 cL] 38)).heap.size = V2.heap.size + 1 := by simp
  generalize V2.alloc (.cells #[.slice (some ⟨bL, 0, none⟩) 3 cL] 38) = V3 at *
  have h4 := Cs.new V3 3 #[.int .i64 ((0 : Nat) : Int)]
  rw [hsz3] at h4
  have hb4 : Below V3.heap.size V3 (V3.alloc (.cells #[.int .i64 0] 3)) := (Below.refl _ _).alloc (Nat.le_refl _) _
  have h4' : Cs (V3.alloc (.cells #[.int .i64 0] 3)) (V2.heap.size + 1) 3 #[.int .i64 ((0 : Nat) : Int)] := h4
  have hsz4 : (V3.alloc (.cells #[.int .i64 0] 3)).heap.size = V3.heap.size + 1 := by simp
  have h3' := Cs.below h3 hb4 (by omega)
  clear h4 h3
  generalize V3.alloc (.cells #[.int .i64 0] 3) = V4 at *
  have hb5 := hb3.trans (hb4.mono (by omega))
  have hB4 := HB2.out.trans (hb5.mono HB2.out.size)
  obtain ⟨K, hKe⟩ : ∃ K : Sk, K = ⟨W.heap.size, g, s0, s1, s2, 11, z, n2, chunk, W.heap.size, V2.heap.size + 1, V2.heap.size, bL, cL, Am, lm, cm, mv⟩ := ⟨_, rfl⟩
  have hK : K.Ok := by rw [hKe]; exact ⟨by show 11 ≤ _; omega, by show z ≤ _; omega, hn2b, hch, HM.out, hlm, HMO.out, hs02, hs12⟩
  obtain ⟨F0, hF0⟩ : ∃ F0 : Nat → Prop, F0 = fun j => F j ∨ j = s0 ∨ j = s1 ∨ j = s2 ∨ j = bL ∨ j = W.heap.size ∨ j = V2.heap.size ∨ j = V2.heap.size + 1 := ⟨_, rfl⟩
  have hlt0 : ∀ j, F0 j → W.heap.size ≤ j ∧ j < V4.heap.size := by
    intro j hj
    rw [hF0] at hj
    rcases hj with hj | rfl | rfl | rfl | rfl | rfl | rfl | rfl
    · have := HGE.out j hj; omega
    · omega
    · omega
    · omega
    · omega
    · omega
    · omega
    · omega
  have hf0 : ¬ F s0 := fun e => by have := HGE.out _ e; omega
  have hf1 : ¬ F s1 := fun e => by have := HGE.out _ e; omega
  have hf2 : ¬ F s2 := fun e => by have := HGE.out _ e; omega
  have hf3 : ¬ F bL := fun e => by have := HGE.out _ e; omega
  have hf4 : ¬ F W.heap.size := fun e => by have := HGE.out _ e; omega
  have hf5 : ¬ F V2.heap.size := fun e => by have := HGE.out _ e; omega
  have hf6 : ¬ F (V2.heap.size + 1) := fun e => by have := HGE.out _ e; omega
  have hzz : SZ K V4 F0 (l0.map Sec.start) 0 := by
    rw [hKe, hF0]
    have hsv : SV ⟨W.heap.size, g, s0, s1, s2, 11, z, n2, chunk, W.heap.size, V2.heap.size + 1, V2.heap.size, bL, cL, Am, lm, cm, mv⟩ V4 F (fun j => F j ∨ j = s0 ∨ j = s1 ∨ j = s2 ∨ j = bL ∨ j = W.heap.size ∨ j = V2.heap.size ∨ j = V2.heap.size + 1) 0 :=
      ⟨fun j hj => .inl hj, Cs.below HBX6.out hb5 (Cs.lt HBX6.out), h4', h3', own_lower (own_keepB HL.out hb5) (Nat.zero_le _), ⟨hf4, hf6, hf5, hf3⟩, ⟨.inr (.inr (.inr (.inr (.inr (.inl rfl))))), .inr (.inr (.inr (.inr (.inr (.inr (.inr rfl)))))), .inr (.inr (.inr (.inr (.inr (.inr (.inl rfl)))))), .inr (.inr (.inr (.inr (.inl rfl))))⟩, fun w' hw' => HMV.out.keep (hB4.trans hw'), hB4.size⟩
    obtain ⟨p1, p2⟩ := full3 (Sk.C ⟨W.heap.size, g, s0, s1, s2, 11, z, n2, chunk, W.heap.size, V2.heap.size + 1, V2.heap.size, bL, cL, Am, lm, cm, mv⟩ 0 0) l0 l1 l2 HL0.out HL1.out HL2.out
    have p3 := ZR.fmt p1 p2 (List.replicate (k + 1) 0) k (by omega) ⟨hch.1, by show chunk ≤ 64; omega⟩ HNW.out (List.length_replicate ..) HN2.out.symm (by show k * chunk ≤ z; rw [Nat.mul_comm, HZZ.out]; exact Nat.le_refl _)
    refine ⟨fun j hj => (hlt0 j (by rw [hF0]; exact hj)).1, F, DS.full [l0, l1, l2], 0, HD2.out.keep hb5, Cs.below HS0.out hb5 hs0l, Cs.below HS1.out hb5 hs1l, Cs.below HS2.out hb5 hs2l, ⟨hf0, hf1, hf2⟩, ⟨.inr (.inl rfl), .inr (.inr (.inl rfl)), .inr (.inr (.inr (.inl rfl)))⟩, hsv, p3, by rw [List.length_map]; exact HL0.out, ?_, Nat.zero_le _, Int.le_refl _, Nat.le_refl _⟩
    intro a s hs _
    rw [List.getElem?_map] at hs
    rcases hx : l0[a]? with _ | x
    · rw [hx] at hs; cases hs
    · rw [hx] at hs
      injection hs with hs
      rw [← hs]
      rfl
  have HZ := Lib.hid hzz
  have HB4 := Lib.hid hB4
  have HLT := Lib.hid hlt0
  have HD0 : Hid (K.b1 = W.heap.size ∧ K.b2 = V2.heap.size + 1 ∧ K.b3 = V2.heap.size ∧ K.g = g ∧ K.B = W.heap.size ∧ K.n0 = 11) := by rw [hKe]; exact ⟨rfl, rfl, rfl, rfl, rfl, rfl⟩
  clear hKe hzz hB4 hlt0 hf0 hf1 hf2 hf3 hf4 hf5 hf6 hF0 hb3 hb4 hb5 h3' h4' HD2 HS0 HS1 HS2 HL HB2 hsz3 hsz4 HBX6 hs02 hs12
  refine (words2_any 11 3 V4 (by omega)).mono ?_
  rintro e V5 ⟨v4, rfl, ho4, hb4⟩
  rw [HE0.out] at ho4
  obtain ⟨A9, c9, hv4⟩ := own_form ho4
  subst hv4
  have HZ4 := Lib.hid (HZ.out.fr (Fr.of_below (G := fun _ => False) hb4) (fun _ _ h => h) (fun _ h => h.elim))
  have HB5 := Lib.hid (HB4.out.trans (hb4.mono HB4.out.size))
  have hi : ∀ w', Fr F0 V5 w' → Reads w' A9 (uv l0) := fun w' hf => Reads.of_own (own_fr ho4 hf (fun b hb hj => by have := own_ge ho4 b hb; have := HLT.out b hj; omega))
  have hsr : ∀ w', Fr F0 V5 w' → Reads w' As (svs ls) := fun w' hf => HS.out.keep (HB5.out.trans (hf.below HB5.out.size (fun j hj => (HLT.out j hj).1)))
  have hL : 1 + (n + 2) * (11 + 4) ≤ 1000 := by omega
  have hs := sound_any (w := V5) (F := F0) K.b1 K.b2 K.b3 (sd_dev hK) l0 ls A9 As c9 c n HZ4.out (by rw [HD0.out.2.2.2.2.1]; exact HB5.out.size) (by rw [HL0.out, HD0.out.2.2.2.2.2]) (by rw [HD0.out.2.2.2.2.2]; omega) (by rw [HD0.out.2.2.2.2.2]; omega) HN.out hi hsr hw0 HOK.out (by rw [HD0.out.2.2.2.2.2]; exact hL) (by omega)
  rw [HD0.out.1, HD0.out.2.1, HD0.out.2.2.1, HD0.out.2.2.2.1, HD0.out.2.2.2.2.2] at hs
  have HSD := Lib.hid hs
  clear hs hi hsr ho4 hb4 HZ HB4 HZ4 hL
  go_wp2_with fail
  refine HSD.out.mono ?_
  rintro e V6 ⟨rfl, F5, ht5⟩
  have HB6 := Lib.hid (HB5.out.trans (ht5.1.below HB5.out.size (fun j hj => (HLT.out j hj).1)))
  clear ht5 HSD
  go_wp2_with fail
  go_ret
  exact ⟨rfl, HB6.out⟩

end Go.Proofs.YtogchafnnkajfaaGreat

namespace Go.Proofs.YtogchafnnkajfaaGreat
set_option linter.unusedVariables false
open Go.RowKit
attribute [local go_sem] Oper.semAt_some

theorem RvAt.tight {W : World} {F : Nat → Prop} {K : RC} {clo : Bool} {R : RV} (h : RvAt W F K clo R) : RvAt W (fun j => F j ∧ j < W.heap.size) K clo R := by
  obtain ⟨A, c, B, d, h⟩ := h
  exact ⟨A, c, B, d, h.tight⟩
/-- Both sides in memory. -/
structure P33 (lo : Nat) (W : World) (Fv Fr : Nat → Prop) (pb bL cL : Nat) (C : VC) (V : VS) (K : RC) (clo : Bool) (R : RV) : Prop where
  vol : VolAt W Fv C V
  rv : RvAt W Fr K clo R
  pair : Cs W pb 42 #[.pointer (some ⟨C.g, 0, none⟩), .slice (some ⟨bL, 0, none⟩) 3 cL, .pointer (some ⟨C.v, 0, none⟩), .pointer (some ⟨K.r, 0, none⟩)]
  spans : W.ownsRow 0 55 1 (.slice (some ⟨bL, 0, none⟩) 3 cL) 3 (spv [C.s0, C.s1, C.s2])
  dj : ∀ j, Fv j → ¬ Fr j
  ap : ¬ Fv pb ∧ ¬ Fr pb ∧ ¬ Fv bL ∧ ¬ Fr bL
  lo_ : lo ≤ pb ∧ lo ≤ bL
  lof : ∀ j, Fv j ∨ Fr j → lo ≤ j

def StartP33 (W : World) (n0 n1 n2 : Nat) (l0 l1 l2 : List Nat) (mode : Int) (e : Ending) (W' : World) : Prop :=
  ∃ pb, e = .returned (.tuple #[.pointer (some ⟨pb, 0, none⟩), .bool true]) ∧ Below W.heap.size W W' ∧
    (opnE l2 n0 n1 mode ≠ 0 → W'.cell? ⟨pb, 2, none⟩ = some (.pointer none)) ∧
    (opnE l2 n0 n1 mode = 0 → ∃ Fv Fr bL cL g s0 s1 s2 m v r bo co bf cf bm cm, P33 W.heap.size W' Fv Fr pb bL cL ⟨g, s0, s1, s2, m, v, n0, n1, n2, opC l2⟩ ((opn0 (DS.full [l0, l1, l2]) mode).bgn ⟨g, s0, s1, s2, m, v, n0, n1, n2, opC l2⟩ mode) (rvK r bo co bf cf bm cm n0 n1 n2 l2 mode) false ((rv0 l0 l1 l2).bgn (opC l2) (opM l2) (opO l2) mode))

set_option maxRecDepth 100000 in
set_option maxHeartbeats 8000000 in
theorem start33_any (W : World) (A0 A1 A2 : Option Addr) (n0 n1 n2 c0 c1 c2 : Nat) (l0 l1 l2 : List Nat) (hA0 : Reads W A0 (uv l0)) (hA1 : Reads W A1 (uv l1)) (hA2 : Reads W A2 (uv l2)) (h0 : l0.length = n0) (h1 : l1.length = n1) (h2 : l2.length = n2) (hn0 : 1 ≤ n0 ∧ n0 ≤ 60000) (hn1 : 1 ≤ n1 ∧ n1 ≤ 60000) (hn2 : 1 ≤ n2 ∧ n2 ≤ 60000) (hw0 : W64 l0) (hw1 : W64 l1) (hw2 : W64 l2) (mode : Int) (hmo : -9223372036854775808 ≤ mode ∧ mode ≤ 9223372036854775807) :
    Calls Tryz.prog 15 #[.slice A0 n0 c0, .slice A1 n1 c1, .slice A2 n2 c2, .int .i64 mode] W (StartP33 W n0 n1 n2 l0 l1 l2 mode) := by
  have HN0 := Lib.hid h0
  have HN1 := Lib.hid h1
  have HN2 := Lib.hid h2
  have HA0 := Lib.hid hA0
  have HA1 := Lib.hid hA1
  have HA2 := Lib.hid hA2
  obtain ⟨i0, hi0, hz0, hz1, hz2⟩ := info_parts u64_info
  clear h0 h1 h2 hA0 hA1 hA2
  go_enter Tryz.func15, Tryz.ntmps15
  go_wp2_with (first
    | (at_builtin; refine wpList_append_reads _ (by rfl) _ _ _ (by rfl) W.heap.size 26 i0 _ 1 8 Tryz.underlying29 hi0 hz0 hz1 hz2 rfl (by omega) (.slice none 0 0) 0 [] (by rfl) (World.ownsRow_nil _ _ _ _) A2 n2 c2 (uv l2) (by rfl) (by rw [uv_length, HN2.out]; omega) (HA2.out.keep HB6.out) (uv_one l2) (by simp only [maxLen]; omega) (by omega) (HB6.out.size) ?_; intro v w7 hown hg hat; obtain ⟨A7, c7, hv⟩ := own_form hown; subst hv; simp only [Nat.zero_add, List.nil_append] at hown; have HO7 := Lib.hid hown; have HX7 := Lib.hid ((Below.refl w6.heap.size w6).grown hg (Nat.le_refl _) (by intro k hk; simp [Value.ownBlock] at hk)); have HB7 := Lib.hid (HB6.out.trans (Below.mono ((Below.refl w6.heap.size w6).grown hg (Nat.le_refl _) (by intro k hk; simp [Value.ownBlock] at hk)) HB6.out.size)); clear hown hg hat)
    | (at_builtin; refine wpList_append_reads _ (by rfl) _ _ _ (by rfl) W.heap.size 26 i0 _ 1 8 Tryz.underlying29 hi0 hz0 hz1 hz2 rfl (by omega) (.slice none 0 0) 0 [] (by rfl) (World.ownsRow_nil _ _ _ _) A1 n1 c1 (uv l1) (by rfl) (by rw [uv_length, HN1.out]; omega) (HA1.out.keep HB5.out) (uv_one l1) (by simp only [maxLen]; omega) (by omega) (HB5.out.size) ?_; intro v w6 hown hg hat; obtain ⟨A6, c6, hv⟩ := own_form hown; subst hv; simp only [Nat.zero_add, List.nil_append] at hown; have HO6 := Lib.hid hown; have HX6 := Lib.hid ((Below.refl w5.heap.size w5).grown hg (Nat.le_refl _) (by intro k hk; simp [Value.ownBlock] at hk)); have HB6 := Lib.hid (HB5.out.trans (Below.mono ((Below.refl w5.heap.size w5).grown hg (Nat.le_refl _) (by intro k hk; simp [Value.ownBlock] at hk)) HB5.out.size)); clear hown hg hat)
    | (at_builtin; refine wpList_append_reads _ (by rfl) _ _ _ (by rfl) W.heap.size 26 i0 _ 1 8 Tryz.underlying29 hi0 hz0 hz1 hz2 rfl (by omega) (.slice none 0 0) 0 [] (by rfl) (World.ownsRow_nil _ _ _ _) A0 n0 c0 (uv l0) (by rfl) (by rw [uv_length, HN0.out]; omega) HA0.out (uv_one l0) (by simp only [maxLen]; omega) (by omega) (Nat.le_refl _) ?_; intro v w5 hown hg hat; obtain ⟨A5, c5, hv⟩ := own_form hown; subst hv; simp only [Nat.zero_add, List.nil_append] at hown; have HO5 := Lib.hid hown; have HX5 := Lib.hid ((Below.refl W.heap.size W).grown hg (Nat.le_refl _) (by intro k hk; simp [Value.ownBlock] at hk)); have HB5 := Lib.hid ((Below.refl W.heap.size W).grown hg (Nat.le_refl _) (by intro k hk; simp [Value.ownBlock] at hk)); clear hown hg hat))
  have hv : ([⟨A5, c5, l0⟩, ⟨A6, c6, l1⟩, ⟨A7, c7, l2⟩].map Im.v).toArray = #[Value.slice A5 n0 c5, Value.slice A6 n1 c6, Value.slice A7 n2 c7] := by simp [Im.v, HN0.out, HN1.out, HN2.out]
  have HC6 : Hid (Cs (w7.alloc (.cells #[Value.slice A5 n0 c5, Value.slice A6 n1 c6, Value.slice A7 n2 c7] 29)) w7.heap.size 29 ([⟨A5, c5, l0⟩, ⟨A6, c6, l1⟩, ⟨A7, c7, l2⟩].map Im.v).toArray) := by show Cs _ _ _ _; rw [hv]; exact Cs.new w7 _ _
  clear hv
  have hb8 : Below w7.heap.size w7 (w7.alloc (.cells #[Value.slice A5 n0 c5, Value.slice A6 n1 c6, Value.slice A7 n2 c7] 29)) := (Below.refl _ _).alloc (Nat.le_refl _) _
  have HR5 := Lib.hid ((((Reads.of_own HO5.out).keep HX6.out).keep HX7.out).keep hb8)
  have HR6 := Lib.hid (((Reads.of_own HO6.out).keep HX7.out).keep hb8)
  have HR7 := Lib.hid ((Reads.of_own HO7.out).keep hb8)
  have HB8 := Lib.hid (HB7.out.trans (hb8.mono HB7.out.size))
  have hs8 : (w7.alloc (.cells #[Value.slice A5 n0 c5, Value.slice A6 n1 c6, Value.slice A7 n2 c7] 29)).heap.size = w7.heap.size + 1 := by simp
  have hs7 : W.heap.size ≤ w7.heap.size := HB7.out.size
  clear hb8 HB5 HB6 HB7 HO5 HO6 HO7 HX5 HX6 HX7
  refine (loaded_any _ w7.heap.size 3 3 [⟨A5, c5, l0⟩, ⟨A6, c6, l1⟩, ⟨A7, c7, l2⟩] HC6.out rfl (by omega) (by intro p hp; simp at hp; rcases hp with rfl | rfl | rfl; exact HR5.out; exact HR6.out; exact HR7.out) (by intro p hp; simp at hp; rcases hp with rfl | rfl | rfl; rw [HN0.out]; exact ⟨hn0.1, by omega, hw0⟩; rw [HN1.out]; exact ⟨hn1.1, by omega, hw1⟩; rw [HN2.out]; exact ⟨hn2.1, by omega, hw2⟩)).mono ?_
  generalize (w7.alloc (.cells #[Value.slice A5 n0 c5, Value.slice A6 n1 c6, Value.slice A7 n2 c7] 29)) = w8 at *
  rintro e V1 ⟨g, rfl, hd, hbV⟩
  have HBV := Lib.hid (HB8.out.trans (hbV.mono HB8.out.size))
  have hsV := hbV.size
  obtain ⟨F, hdF, hge⟩ : ∃ F : Nat → Prop, DskAt V1 F g (DS.full [l0, l1, l2]) ∧ ∀ j, F j → w8.heap.size ≤ j ∧ j < V1.heap.size := ⟨_, hd.tight, by intro j hj; have := hj.1; exact ⟨this, hj.2⟩⟩
  have HD := Lib.hid hdF
  have HGE := Lib.hid hge
  clear hd hge hbV HB8 HC6 HR5 HR6 HR7 hdF
  go_wp2_with fail
  refine (spans_any V1 _ g (DS.full [l0, l1, l2]) HD.out (by intro x hx; simp [DS.full] at hx; rcases hx with rfl | rfl | rfl; show 1 ≤ l0.length; rw [HN0.out]; exact hn0.1; show 1 ≤ l1.length; rw [HN1.out]; exact hn1.1; show 1 ≤ l2.length; rw [HN2.out]; exact hn2.1)).mono ?_
  rintro e V2 ⟨v2, sps, rfl, hsl, hown, hsp, hb2⟩
  have hsl2 : sps.length = 3 := hsl
  obtain ⟨s0, s1, s2, rfl⟩ : ∃ s0 s1 s2, sps = [s0, s1, s2] := by
    rcases sps with _ | ⟨s0, _ | ⟨s1, _ | ⟨s2, _ | ⟨q, r⟩⟩⟩⟩
    · simp at hsl2
    · simp at hsl2
    · simp at hsl2
    · exact ⟨s0, s1, s2, rfl⟩
    · simp at hsl2
  obtain ⟨hs0, hsg0⟩ := hsp 0 s0 rfl
  obtain ⟨hs1, hsg1⟩ := hsp 1 s1 rfl
  obtain ⟨hs2, hsg2⟩ := hsp 2 s2 rfl
  change SpanAt V2 s0 g 0 l0.length at hs0
  change SpanAt V2 s1 g 1 l1.length at hs1
  change SpanAt V2 s2 g 2 l2.length at hs2
  have hs02 : s0 ≠ s2 := by
    rintro rfl
    have := (Cs.cell hs0 1).symm.trans (Cs.cell hs2 1)
    simp at this
  have hs12 : s1 ≠ s2 := by
    rintro rfl
    have := (Cs.cell hs1 1).symm.trans (Cs.cell hs2 1)
    simp at this
  rw [HN0.out] at hs0
  rw [HN1.out] at hs1
  rw [HN2.out] at hs2
  change V2.ownsRow V1.heap.size _ 1 v2 3 _ at hown
  obtain ⟨bL, cL, hvL, hbL, hbLl⟩ := hown.form (by omega)
  subst hvL
  have y0 : V2.cell? ⟨bL, 0, none⟩ = some (.iface 176 (.pointer (some ⟨s0, 0, none⟩))) := (hown.cellAt 0 (by omega)).trans rfl
  have y1 : V2.cell? ⟨bL, 1, none⟩ = some (.iface 176 (.pointer (some ⟨s1, 0, none⟩))) := (hown.cellAt 1 (by omega)).trans rfl
  have y2 : V2.cell? ⟨bL, 2, none⟩ = some (.iface 176 (.pointer (some ⟨s2, 0, none⟩))) := (hown.cellAt 2 (by omega)).trans rfl
  have HD2 := Lib.hid (HD.out.keep hb2)
  have HS0 := Lib.hid hs0
  have HS1 := Lib.hid hs1
  have HS2 := Lib.hid hs2
  have HL := Lib.hid hown
  have HB2 := Lib.hid (HBV.out.trans (hb2.mono HBV.out.size))
  have hV2s : V1.heap.size ≤ V2.heap.size := hb2.size
  have hne0 : bL ≠ s0 := own_cs_ne hown hs0 (by decide)
  have hne1 : bL ≠ s1 := own_cs_ne hown hs1 (by decide)
  have hne2 : bL ≠ s2 := own_cs_ne hown hs2 (by decide)
  have hs0l := Cs.lt hs0
  have hs1l := Cs.lt hs1
  have hs2l := Cs.lt hs2
  have hnf : ∀ j, V1.heap.size ≤ j → ¬ F j := fun j hj e => by have := HGE.out j e; omega
  have HNF := Lib.hid hnf
  clear hs0 hs1 hs2 hown hb2 hsp hsl hsl2 HBV HD hnf
  obtain ⟨p1, p2⟩ := full3 ⟨g, s0, s1, s2, g, g, n0, n1, n2, 1⟩ l0 l1 l2 HN0.out HN1.out HN2.out
  have hb3 : Below V2.heap.size V2 V2.drew := (Below.refl _ V2).drew
  have HOP := Lib.hid (vopen_any V2.drew F (fun j => F j ∨ j = s0 ∨ j = s1 ∨ j = s2) g s0 s1 s2 n0 n1 n2 (DS.full [l0, l1, l2]) mode (HD2.out.keep hb3) HS0.out HS1.out HS2.out (fun j hj => .inl hj) (.inr (.inl rfl)) (.inr (.inr (.inl rfl))) (.inr (.inr (.inr rfl))) (HNF.out _ (by omega)) (HNF.out _ (by omega)) (HNF.out _ (by omega)) hs02 hs12 p1.hea p1.dn p1.fu
    hw2 (by omega) (by omega) (by omega) (by omega) (by show 0 ≤ _; omega) (by show (0 : Int) ≤ _; omega) hmo)
  unfold spanV at HOP
  have nL : ¬ (F bL ∨ bL = s0 ∨ bL = s1 ∨ bL = s2) := by
    rintro (e | e | e | e)
    · exact HNF.out _ (by omega) e
    · exact hne0 e
    · exact hne1 e
    · exact hne2 e
  clear p1 p2 hb3
  go_wp2_with fail
  go_region_held3 (fun w' => w'.cell? ⟨bL, 0, none⟩ = some (.iface 176 (.pointer (some ⟨s0, 0, none⟩))) ∧ w'.cell? ⟨bL, 1, none⟩ = some (.iface 176 (.pointer (some ⟨s1, 0, none⟩))) ∧ w'.cell? ⟨bL, 2, none⟩ = some (.iface 176 (.pointer (some ⟨s2, 0, none⟩))))
    (first | with_reducible exact yy | exact ⟨y0, y1, y2⟩)
    ((go_at_call 24; (with_reducible refine HOP.out.mono ?_); rintro e V3 ho; have ho' : ∃ vp F3, e = .returned (.tuple #[vp, .int .i64 (opnE l2 n0 n1 mode)]) ∧ Turn (fun j => F j ∨ j = s0 ∨ j = s1 ∨ j = s2) F3 V2.drew V3 ∧ (opnE l2 n0 n1 mode ≠ 0 → vp = .pointer none) ∧ (opnE l2 n0 n1 mode = 0 → ∃ m v, vp = .pointer (some ⟨v, 0, none⟩) ∧ VolAt V3 F3 ⟨g, s0, s1, s2, m, v, n0, n1, n2, opC l2⟩ ((opn0 (DS.full [l0, l1, l2]) mode).bgn ⟨g, s0, s1, s2, m, v, n0, n1, n2, opC l2⟩ mode)) := (ho.elim (fun ⟨h1, h2, F', h3⟩ => ⟨_, F', h2, h3, fun _ => rfl, fun e => absurd e h1⟩) (fun ⟨h1, m, v, F', h2, h3, h4⟩ => ⟨_, F', h2.trans (by rw [show opnE l2 n0 n1 mode = 0 from h1]), h4, fun e => absurd h1 e, fun _ => ⟨m, v, rfl, h3⟩⟩)); obtain ⟨vp, F3, rfl, ht3, hz, hv3⟩ := ho'; have HT3 := Lib.hid ht3; have HZ := Lib.hid hz; have HV3 := Lib.hid hv3; clear ho ht3 hz hv3; have yy : V3.cell? ⟨bL, 0, none⟩ = some (.iface 176 (.pointer (some ⟨s0, 0, none⟩))) ∧ V3.cell? ⟨bL, 1, none⟩ = some (.iface 176 (.pointer (some ⟨s1, 0, none⟩))) ∧ V3.cell? ⟨bL, 2, none⟩ = some (.iface 176 (.pointer (some ⟨s2, 0, none⟩))) := ⟨(HT3.out.1.cell (b := bL) (i := 0) hbLl nL).trans y0, (HT3.out.1.cell (b := bL) (i := 1) hbLl nL).trans y1, (HT3.out.1.cell (b := bL) (i := 2) hbLl nL).trans y2⟩))
  have ht3 : Turn (fun j => F j ∨ j = s0 ∨ j = s1 ∨ j = s2) F3 V2 V3 := (Turn.of_below (Below.refl _ V2).drew).trans HT3.out
  have hlt0 : ∀ j, (F j ∨ j = s0 ∨ j = s1 ∨ j = s2) → W.heap.size ≤ j := by
    rintro j (e | e | e | e)
    · have := HGE.out j e; omega
    · omega
    · omega
    · omega
  have HB3 := Lib.hid (HB2.out.trans (ht3.1.below HB2.out.size hlt0))
  have hs3 : V2.heap.size ≤ V3.heap.size := ht3.1.size
  have HL3 := Lib.hid (own_fr HL.out ht3.1 (fun b hb => by simp [Value.ownBlock] at hb; rw [← hb]; exact nL))
  have HF3 : Hid (∀ j, F3 j → (W.heap.size ≤ j ∧ j ≠ bL)) := by
    intro j hj
    rcases ht3.2 j hj with e | e
    · exact ⟨hlt0 j e, fun e' => nL (e' ▸ e)⟩
    · have := HB2.out.size; exact ⟨by omega, by omega⟩
  clear ht3 hlt0 nL yy y0 y1 y2 HL HD2 HS0 HS1 HS2 HOP HT3 HGE HNF HB2 hne0 hne1 hne2 hs0l hs1l hs2l hs02 hs12
  go_wp2_with (first
    | (at_builtin; refine wpList_append_reads _ (by rfl) _ _ _ (by rfl) x6.heap.size 26 i0 _ 1 8 Tryz.underlying29 hi0 hz0 hz1 hz2 rfl (by omega) (.slice none 0 0) 0 [] (by rfl) (World.ownsRow_nil _ _ _ _) A2 n2 c2 (uv l2) (by rfl) (by rw [uv_length, HN2.out]; omega) (HA2.out.keep HB6x.out) (uv_one l2) (by simp only [maxLen]; omega) (by omega) (Nat.le_refl _) ?_; intro v x7 hown hg hat; simp only [Nat.zero_add, List.nil_append] at hown; obtain ⟨bm, cm, hv, hbm, hlm⟩ := hown.form (by omega); subst hv; have HOm := Lib.hid hown; have HX7x := Lib.hid ((Below.refl x6.heap.size x6).grown hg (Nat.le_refl _) (by intro k hk; simp [Value.ownBlock] at hk)); have HB7x := Lib.hid (HB6x.out.trans (HX7x.out.mono HB6x.out.size)); have hs7x := HX7x.out.size; clear hown hg hat)
    | (at_builtin; refine wpList_append_reads _ (by rfl) _ _ _ (by rfl) x5.heap.size 26 i0 _ 1 8 Tryz.underlying29 hi0 hz0 hz1 hz2 rfl (by omega) (.slice none 0 0) 0 [] (by rfl) (World.ownsRow_nil _ _ _ _) A1 n1 c1 (uv l1) (by rfl) (by rw [uv_length, HN1.out]; omega) (HA1.out.keep HB5x.out) (uv_one l1) (by simp only [maxLen]; omega) (by omega) (Nat.le_refl _) ?_; intro v x6 hown hg hat; simp only [Nat.zero_add, List.nil_append] at hown; obtain ⟨bf, cf, hv, hbf, hlf⟩ := hown.form (by omega); subst hv; have HOf := Lib.hid hown; have HX6x := Lib.hid ((Below.refl x5.heap.size x5).grown hg (Nat.le_refl _) (by intro k hk; simp [Value.ownBlock] at hk)); have HB6x := Lib.hid (HB5x.out.trans (HX6x.out.mono HB5x.out.size)); have hs6x := HX6x.out.size; clear hown hg hat)
    | (at_builtin; refine wpList_append_reads _ (by rfl) _ _ _ (by rfl) V3.heap.size 26 i0 _ 1 8 Tryz.underlying29 hi0 hz0 hz1 hz2 rfl (by omega) (.slice none 0 0) 0 [] (by rfl) (World.ownsRow_nil _ _ _ _) A0 n0 c0 (uv l0) (by rfl) (by rw [uv_length, HN0.out]; omega) (HA0.out.keep HB3.out) (uv_one l0) (by simp only [maxLen]; omega) (by omega) (Nat.le_refl _) ?_; intro v x5 hown hg hat; simp only [Nat.zero_add, List.nil_append] at hown; obtain ⟨bo, co, hv, hbo, hlo⟩ := hown.form (by omega); subst hv; have HOo := Lib.hid hown; have HX5x := Lib.hid ((Below.refl V3.heap.size V3).grown hg (Nat.le_refl _) (by intro k hk; simp [Value.ownBlock] at hk)); have HB5x := Lib.hid (HB3.out.trans (HX5x.out.mono HB3.out.size)); have hs5x := HX5x.out.size; clear hown hg hat))
  have hbO : W.heap.size ≤ V3.heap.size := HB3.out.size
  have HB7 := Lib.hid (HX5x.out.trans ((HX6x.out.mono hs5x).trans (HX7x.out.mono (by omega)) |>.mono (Nat.le_refl _)))
  refine (rvopen_any x7 bo co bf cf bm cm n0 n1 n2 l0 l1 l2 mode (own_lower (own_keepB (own_keepB HOo.out HX6x.out) HX7x.out) (Nat.zero_le _)) (own_lower (own_keepB HOf.out HX7x.out) (Nat.zero_le _)) (own_lower HOm.out (Nat.zero_le _)) HN0.out HN1.out HN2.out hw2 (by omega) (by omega) (by omega) (by omega)).mono ?_
  rintro e x8 hro
  obtain ⟨rp, F8, rfl, ht8, hz8, hv8⟩ : ∃ rp F8, e = .returned (.tuple #[rp, .int .i64 (opnE l2 n0 n1 mode)]) ∧ Turn (fun j => j = bo ∨ j = bf ∨ j = bm) F8 x7 x8 ∧ (opnE l2 n0 n1 mode ≠ 0 → rp = .pointer none) ∧ (opnE l2 n0 n1 mode = 0 → ∃ r, rp = .pointer (some ⟨r, 0, none⟩) ∧ x7.heap.size ≤ r ∧ RvAt x8 F8 (rvK r bo co bf cf bm cm n0 n1 n2 l2 mode) false ((rv0 l0 l1 l2).bgn (opC l2) (opM l2) (opO l2) mode)) :=
    hro.elim (fun ⟨h1, h2, h3⟩ => ⟨_, _, h2, Turn.of_below h3, fun _ => rfl, fun e => absurd e h1⟩) (fun ⟨h1, r, F', h2, h3, h4, h5⟩ => ⟨_, F', h2.trans (by rw [h1]), h5, fun e => absurd h1 e, fun _ => ⟨r, rfl, h3, h4⟩⟩)
  have h7s : V3.heap.size ≤ x7.heap.size := HB7.out.size
  have h8s : x7.heap.size ≤ x8.heap.size := ht8.1.size
  have HT8 := Lib.hid ht8
  have HV8 := Lib.hid hv8
  have hlo8 : ∀ j, (j = bo ∨ j = bf ∨ j = bm) → V3.heap.size ≤ j := by
    rintro j (e | e | e) <;> omega
  have HB8 := Lib.hid (HB7.out.trans (ht8.1.below h7s hlo8))
  clear hro ht8 hv8
  by_cases hop : opnE l2 n0 n1 mode = 0
  · obtain ⟨m, v, rfl, hv⟩ := HV3.out hop
    obtain ⟨r, rfl, hr7, hv8⟩ := HV8.out hop
    have HOPE := Lib.hid hop
    have HVA := Lib.hid hv.tight
    have HRA := Lib.hid hv8
    clear hop hv hv8 HZ HV3 HV8 hz8
    generalize opnE l2 n0 n1 mode = ez
    go_wp2_with fail
    go_ret2
    have bE : Below V3.heap.size V3 (x8.alloc (.cells #[.pointer (some ⟨g, 0, none⟩), .slice (some ⟨bL, 0, none⟩) 3 cL, .pointer (some ⟨v, 0, none⟩), .pointer (some ⟨r, 0, none⟩)] 42)) := HB8.out.alloc (by omega) _
    have bE8 : Below x8.heap.size x8 (x8.alloc (.cells #[.pointer (some ⟨g, 0, none⟩), .slice (some ⟨bL, 0, none⟩) 3 cL, .pointer (some ⟨v, 0, none⟩), .pointer (some ⟨r, 0, none⟩)] 42)) := (Below.refl _ x8).alloc (Nat.le_refl _) _
    have hr8 : ∀ j, F8 j → V3.heap.size ≤ j := fun j hj => (HT8.out.2 j hj).elim (hlo8 j) (fun e => by omega)
    refine ⟨x8.heap.size, rfl, HB3.out.trans (bE.mono HB3.out.size), fun e => absurd HOPE.out e, fun _ => ⟨fun j => F3 j ∧ j < V3.heap.size, fun j => F8 j ∧ j < x8.heap.size, bL, cL, g, s0, s1, s2, m, v, r, bo, co, bf, cf, bm, cm, ?_⟩⟩
    refine ⟨HVA.out.keep bE, RvAt.keep (RvAt.tight HRA.out) bE8, Cs.new x8 _ _, own_lower (own_keepB HL3.out bE) (Nat.zero_le _), fun j hj hk => by have := hr8 j hk.1; have := hj.2; omega, ⟨fun hj => by have := hj.2; omega, fun hj => by have := hj.2; omega, fun hj => (HF3.out _ hj.1).2 rfl, fun hj => by have := hr8 _ hj.1; omega⟩, by omega, ?_⟩
    rintro j (hj | hj)
    · exact (HF3.out _ hj.1).1
    · have := hr8 _ hj.1; omega
  · have hvp := HZ.out hop
    subst hvp
    have hrp := hz8 hop
    subst hrp
    have HOPE := Lib.hid hop
    clear hop HZ HV3 HV8 hz8
    generalize opnE l2 n0 n1 mode = ez
    go_wp2_with fail
    go_ret2
    have bE := HB8.out.alloc (by omega) (.cells #[.pointer (some ⟨g, 0, none⟩), .slice (some ⟨bL, 0, none⟩) 3 cL, .pointer none, .pointer none] 42)
    exact ⟨x8.heap.size, rfl, HB3.out.trans (bE.mono HB3.out.size), fun _ => (Cs.new x8 42 #[.pointer (some ⟨g, 0, none⟩), .slice (some ⟨bL, 0, none⟩) 3 cL, .pointer none, .pointer none]).cell 2, fun e => absurd e HOPE.out⟩

end Go.Proofs.YtogchafnnkajfaaGreat

namespace Go.Proofs.YtogchafnnkajfaaGreat
set_option linter.unusedVariables false

/-- Clean, Detach, Close by the definition. -/
def RV.clnF (c : Nat) : Nat → RV → Nat → Int × RV
  | 0, R, i => ((i : Int), R)
  | m + 1, R, i => if R.x.oldest < 0 then ((i : Int), R) else RV.clnF c m (R.back c R.x.oldest.toNat true) (i + 1)
def RV.frF : Nat → RV → Nat → RV
  | 0, R, _ => R
  | m + 1, R, k => if (R.x.at_ k).valid = true then RV.frF m (R.free k) (k + 1) else RV.frF m R (k + 1)
def RV.dtc (c : Nat) (R : RV) : RV := RV.frF (RV.clnF c R.x.sl.length R 0).2.x.sl.length (RV.clnF c R.x.sl.length R 0).2 0
def RV.clos (c : Nat) (mode : Int) (R : RV) : RV := { R with m := R.m.set 0 (hdI R.x.sl.length (c : Int) mode false) }

def anyT : Nat → Nat → Prop := fun _ _ => True
/-- Both sides alike. -/
structure PY (C : VC) (V : VS) (R : RV) (n : Nat) : Prop where
  dn : V.S.down = false
  fu : V.S.fuse = 0
  vi : VI C V.S V.x.sl V.pm anyT
  vw : view V = R
  ok : V.x.Ok
  len : V.x.sl.length = V.ss.length
  clo : V.closed = false
  stk : V.stuck = false
  log : V.S.log.length ≤ n
  wr : V.S.wr ≤ n
  clk : V.x.clk ≤ n

section
variable {C : VC} {V : VS} {R : RV} {n : Nat}
theorem PY.mono (h : PY C V R n) {m : Nat} (hm : n ≤ m) : PY C V R m := ⟨h.dn, h.fu, h.vi, h.vw, h.ok, h.len, h.clo, h.stk, by have := h.log; omega, by have := h.wr; omega, by have := h.clk; omega⟩
theorem VI.any {S : DS} {sl : List Sl} {pm : Bool} {ok : Nat → Nat → Prop} (h : VI C S sl pm ok) : VI C S sl pm anyT := h.mono (fun _ _ _ _ => trivial)
theorem PY.x (h : PY C V R n) : V.x = R.x := by rw [← h.vw]; rfl
/-- Nothing of a step but what Bd tells. -/
theorem bnd_stk {p : Int × VS} {f : VS → Int × VS} {s : Bool} (hp : p.2.stuck = s) (hf : ∀ V, V.stuck = s → (f V).2.stuck = s) : (bnd p f).2.stuck = s := by
  unfold bnd
  split
  · exact hf _ hp
  · exact hp
theorem free_stk (k : Nat) : (V.freeV C k).stuck = V.stuck := by
  unfold VS.freeV
  split <;> rfl
theorem p7_stk (k b : Nat) (x : Sl) : (V.p7 C k x b).2.stuck = V.stuck := by
  have h1 : (V.p1 C k x).2.stuck = V.stuck := by unfold VS.p1; split <;> rfl
  have h2 : (V.p2 C k x).2.stuck = V.stuck := bnd_stk h1 (fun V' h => by
    split
    · exact (free_stk k).trans h
    · exact h)
  have h3 : (V.p3 C k x).2.stuck = V.stuck := bnd_stk h2 (fun V' h => h)
  have h4 : (V.p4 C k x b).2.stuck = V.stuck := bnd_stk h3 (fun V' h => h)
  have h5 : (V.p5 C k x b).2.stuck = V.stuck := bnd_stk h4 (fun V' h => h)
  have h6 : (V.p6 C k x b).2.stuck = V.stuck := bnd_stk h5 (fun V' h => h)
  exact bnd_stk h6 (fun V' h => h)
theorem slt_stk (a : Nat) : (V.slt C a).2.2.stuck = V.stuck := by
  unfold VS.slt
  split
  · rfl
  · split
    · rfl
    · split
      · rfl
      · exact p7_stk _ _ _

/-- Read. -/
theorem PY.read (h : PY C V R n) {a : Nat} (ha : a < C.n0) (hn0 : C.n0 ≤ 65536) (hn : n ≤ 1000000) :
    (V.rdR C a).2 = 0 ∧ (V.rdR C a).1 = (R.read C.chunk a).1 ∧ PY C (V.slt C a).2.2 (R.read C.chunk a).2 (n + 2 * C.chunk + 2) := by
  have hck : V.x.clk < 1099511627776 := by have := h.clk; omega
  have hb := Bd.slt (C := C) h.ok h.len ha hn0 hck
  rcases rd_ou h.vi h.dn h.ok h.len hck ha hn0 with ⟨r1, r2, r3, r4, r5, r6, r7, -, r8⟩ | ⟨r1, -⟩
  · rw [h.vw] at r5 r6
    have hpm : (V.slt C a).2.2.pm = V.pm := hb.pm
    refine ⟨r1, r5, r2, r3 h.fu, by rw [hpm]; exact r4, r6, hb.ok, hb.len, by rw [hb.clo]; exact h.clo, by rw [slt_stk]; exact h.stk, ?_, ?_, ?_⟩
    · have := hb.log; have := h.log; omega
    · have := hb.wr; have := h.wr; omega
    · have := hb.clk; have := h.clk; omega
  · exact absurd h.fu r1
/-- Write. -/
theorem PY.write (h : PY C V R n) {a v : Nat} (ha : a < C.n0) (hn0 : C.n0 ≤ 65536) (hn : n ≤ 1000000) :
    (V.wrt C a v).1 = 0 ∧ PY C (V.wrt C a v).2 (R.write C.chunk V.pm a v) (n + 2 * C.chunk + 5) ∧ (V.wrt C a v).2.pm = V.pm := by
  have hck : V.x.clk < 1099511627776 := by have := h.clk; omega
  have hb := Bd.wrt (C := C) (v := v) h.ok h.len hck ha hn0
  rcases wrt_ou (a := a) (v := v) h.vi rfl h.dn h.ok h.len hck ha hn0 with ⟨r1, r2, r3, r4, r5, -⟩ | ⟨r1, -⟩
  · rw [h.vw] at r5
    have hpm : (V.wrt C a v).2.pm = V.pm := hb.pm
    refine ⟨r1, ⟨r2, r3 h.fu, by rw [hpm]; exact r4.any, r5, hb.ok, hb.len, by rw [hb.clo]; exact h.clo, ?_, ?_, ?_, ?_⟩, hpm⟩
    · -- no slot is lost
      rcases slt_ou h.vi h.dn h.ok ha hn0 with ⟨h0, h1, h2, h3, h4, h5, h6⟩ | ⟨h0, -⟩
      · have hs := slt_stk (C := C) (V := V) a
        rw [h.stk] at hs
        have hso := slt_ok (C := C) h.ok h.len ha hn0 hck h0
        have hf0 := h2 h.fu
        unfold VS.wrt
        rw [if_neg (fun e => e h0)]
        generalize V.slt C a = q at *
        obtain ⟨qk, qe, qV⟩ := q
        dsimp only at *
        rcases hso with rfl | ⟨j, x, rfl, hj, hx, hxv, hxb⟩
        · rw [if_pos (by omega)]
          exact hs
        · rw [if_neg (by omega), Int.toNat_natCast, CS.at_eq hx]
          split
          · unfold VS.bck
            refine bnd_stk ?_ (fun V' h => h)
            unfold VS.bc1
            split
            · exact hs
            · exact bnd_stk hs (fun V' h => h)
          · have hfs := h3.k.fast hx (i := a % C.chunk) (blk_at a C.chunk h3.k.ch).2
            rcases wr_out h3.k.hea h1 (i := 0) (n := C.n0) rfl a v ha with ⟨w1, w2, w3, w4⟩ | ⟨w0, -⟩
            · rcases wr_out w4.hea w2 (i := 1) (n := C.n1) rfl (j * C.chunk + a % C.chunk) v hfs with ⟨u1, -⟩ | ⟨u0, -⟩
              · unfold VS.thr
                rw [if_neg (fun e => e w1), if_neg (fun e => e u1)]
                exact hs
              · exact absurd (w3 hf0) u0
            · exact absurd hf0 w0
      · exact absurd h.fu h0
    · have := hb.log; have := h.log; omega
    · have := hb.wr; have := h.wr; omega
    · have := hb.clk; have := h.clk; omega
  · exact absurd h.fu r1
/-- Flush. -/
theorem PY.flush (h : PY C V R n) : V.flE = 0 ∧ PY C V.flV R n := by
  obtain ⟨f1, f2, f3, f4, f5, f6, f7, f8⟩ := fls_ou h.vi h.dn
  have l1 := flush_log V.S 1
  have l2 := flush_log (V.S.flush 1) 2
  have l3 := flush_log ((V.S.flush 1).flush 2) 0
  refine ⟨f1, f2, f3.trans h.fu, f8, f5.trans h.vw, h.ok, h.len, h.clo, h.stk, ?_, ?_, h.clk⟩
  · show (((V.S.flush 1).flush 2).flush 0).log.length ≤ n
    have := h.log
    omega
  · show (((V.S.flush 1).flush 2).flush 0).wr ≤ n
    have := h.wr
    omega
/-- The oldest dirty slot is written back. -/
theorem PY.cl (h : PY C V R n) (ho : ¬ R.x.oldest < 0) :
    V.clE C V.x.oldest.toNat (V.x.at_ V.x.oldest.toNat).block.toNat (V.x.at_ V.x.oldest.toNat) = 0 ∧ PY C (V.clV C V.x.oldest.toNat (V.x.at_ V.x.oldest.toNat).block.toNat (V.x.at_ V.x.oldest.toNat)) (R.back C.chunk R.x.oldest.toNat true) (n + C.chunk + 1) ∧ (V.clV C V.x.oldest.toNat (V.x.at_ V.x.oldest.toNat).block.toNat (V.x.at_ V.x.oldest.toNat)).pm = V.pm := by
  rw [← h.x] at ho ⊢
  obtain ⟨k, x, hk, hx, hxd, hxv⟩ := oldest_at h.ok ho
  rw [hk, Int.toNat_natCast, CS.at_eq hx]
  have hb := (Bd.refl h.ok h.len).cl (C := C) k x.block.toNat x hx hxv
  rcases clean_ou h.vi h.dn hx hxv hxd with ⟨r0, r1, r2, r3, r4, r5, -⟩ | ⟨r0, -⟩
  · dsimp only at r0 r1 r2 r3 r4 r5
    refine ⟨r0, ⟨r1, r2 h.fu, by rw [hb.pm]; exact r3, by rw [r4, h.vw], hb.ok, hb.len, by rw [hb.clo]; exact h.clo, ?_, ?_, ?_, ?_⟩, hb.pm⟩
    · rw [show (V.clV C k x.block.toNat x).stuck = V.stuck by unfold VS.clV; split; rfl; split <;> rfl]
      exact h.stk
    · have := hb.log; have := h.log; omega
    · have := hb.wr; have := h.wr; omega
    · have := hb.clk; have := h.clk; omega
  · exact absurd h.fu r0
/-- How many slots are dirty. -/
def dirtN (l : List Sl) : Nat := l.countP (fun x => x.dirty)
theorem dirtN_set {l : List Sl} {k : Nat} {x : Sl} (hx : l[k]? = some x) (hd : x.dirty = true) : dirtN (l.set k { x with dirty := false }) + 1 = dirtN l := by
  obtain ⟨hk, e⟩ := List.getElem?_eq_some_iff.1 hx
  unfold dirtN
  rw [List.countP_set (h := hk)]
  have h1 : 0 < l.countP (fun x => x.dirty) := List.countP_pos_iff.2 ⟨x, List.mem_of_getElem? hx, hd⟩
  simp [e, hd]
  omega
theorem dirtN_zero {l : List Sl} (h : dirtN l = 0) : ∀ x ∈ l, x.dirty = false := by
  intro x hx
  have := List.countP_eq_zero.1 h x hx
  simpa using this
theorem dirtN_old {s : CS} (h : s.oldest < 0) : dirtN s.sl = 0 := by
  have hr := leastTo_range (fun x => x.dirty) s.sl s.sl.length (Nat.le_refl _)
  have hm : leastTo (fun x => x.dirty) s.sl s.sl.length = -1 := by
    rcases hr with e | ⟨e, -⟩
    · exact e
    · exact absurd h (by show ¬ leastTo (fun x => x.dirty) s.sl s.sl.length < 0; omega)
  have hn := leastTo_no (fun x => x.dirty) s.sl s.sl.length (Nat.le_refl _) hm
  refine List.countP_eq_zero.2 (fun x hx => ?_)
  obtain ⟨j, hj⟩ := List.mem_iff_getElem?.1 hx
  have := hn j x (List.getElem?_eq_some_iff.1 hj).1 hj
  simpa using this
/-- Clean. -/
theorem PY.clnF (m : Nat) : ∀ {V : VS} {R : RV} {n : Nat}, PY C V R n → ∀ i, (VS.clnF C m V i).1 = (RV.clnF C.chunk m R i).1 ∧ (VS.clnF C m V i).2.1 = 0 ∧ PY C (VS.clnF C m V i).2.2 (RV.clnF C.chunk m R i).2 (n + m * (C.chunk + 1)) ∧ (VS.clnF C m V i).2.2.pm = V.pm ∧ dirtN (RV.clnF C.chunk m R i).2.x.sl ≤ dirtN R.x.sl - m := by
  induction m with
  | zero => intro V R n h i; exact ⟨rfl, rfl, h.mono (by omega), rfl, Nat.le_refl _⟩
  | succ m ih =>
    intro V R n h i
    rw [VS.clnF, RV.clnF]
    have hxe := h.x
    by_cases ho : R.x.oldest < 0
    · rw [if_pos ho, if_pos (by rw [hxe]; exact ho)]
      have := dirtN_old ho
      exact ⟨rfl, rfl, h.mono (by omega), rfl, by show dirtN R.x.sl ≤ _; omega⟩
    · rw [if_neg ho, if_neg (by rw [hxe]; exact ho)]
      obtain ⟨c0, c1, c2⟩ := h.cl ho
      rw [if_neg (fun e => e c0)]
      obtain ⟨i1, i2, i3, i4, i5⟩ := ih c1 (i + 1)
      refine ⟨i1, i2, i3.mono (by rw [Nat.add_mul]; omega), i4.trans c2, ?_⟩
      have hok := h.ok
      rw [hxe] at hok
      obtain ⟨k, x, hk, hx, hxd, hxv⟩ := oldest_at hok ho
      have : dirtN (R.back C.chunk R.x.oldest.toNat true).x.sl + 1 = dirtN R.x.sl := by
        rw [hk, Int.toNat_natCast]
        show dirtN (R.x.sl.set k { R.x.at_ k with dirty := false }) + 1 = _
        rw [CS.at_eq hx]
        exact dirtN_set hx hxd
      omega
/-- Slots are freed. -/
theorem PY.frF (m : Nat) : ∀ {V : VS} {R : RV} {n : Nat}, PY C V R n → (∀ x ∈ R.x.sl, x.dirty = false) → ∀ k, k + m = R.x.sl.length → (VS.frF C m V k).1 = 0 ∧ PY C (VS.frF C m V k).2 (RV.frF m R k) (n + m) ∧ (VS.frF C m V k).2.pm = V.pm := by
  induction m with
  | zero => intro V R n h hc k hk; exact ⟨rfl, h, rfl⟩
  | succ m ih =>
    intro V R n h hc k hk
    rw [VS.frF, RV.frF]
    have hxe := h.x
    rw [hxe]
    obtain ⟨x, hx⟩ : ∃ x, R.x.sl[k]? = some x := ⟨_, List.getElem?_eq_getElem (by omega)⟩
    rw [CS.at_eq hx]
    by_cases hv : x.valid = true
    · rw [if_pos hv, if_pos hv]
      have hb := (Bd.refl h.ok h.len).fr (C := C) k
      have hx' : V.x.sl[k]? = some x := by rw [hxe]; exact hx
      rcases free_ou h.vi h.dn hx' (Eqs.clean h.vi hx' (hc x (List.mem_of_getElem? hx))) with ⟨r0, r1, r2, r3, r4, -⟩ | ⟨r0, -⟩
      · dsimp only at r0 r1 r2 r3 r4
        rw [if_neg (fun e => e r0)]
        have h1 : PY C (V.freeV C k) (R.free k) (n + 1) := ⟨r1, r2 h.fu, by rw [hb.pm]; exact r3, by rw [r4, h.vw], hb.ok, hb.len, by rw [hb.clo]; exact h.clo, by rw [free_stk]; exact h.stk, by have := hb.log; have := h.log; omega, by have := hb.wr; have := h.wr; omega, by have := hb.clk; have := h.clk; omega⟩
        obtain ⟨i1, i2, i3⟩ := ih h1 (by
          intro y hy
          rcases List.mem_or_eq_of_mem_set (show y ∈ R.x.sl.set k nilS from hy) with hy | rfl
          · exact hc y hy
          · rfl) (k + 1) (by show _ = (R.x.sl.set k nilS).length; rw [List.length_set]; omega)
        exact ⟨i1, i2.mono (by omega), i3.trans hb.pm⟩
      · exact absurd h.fu r0
    · rw [if_neg hv, if_neg hv]
      obtain ⟨i1, i2, i3⟩ := ih h hc (k + 1) (by omega)
      exact ⟨i1, i2.mono (by omega), i3⟩
theorem RV.clnF_len (c : Nat) (m : Nat) : ∀ (R : RV) (i : Nat), (RV.clnF c m R i).2.x.sl.length = R.x.sl.length := by
  induction m with
  | zero => intro R i; rfl
  | succ m ih =>
    intro R i
    rw [RV.clnF]
    split
    · rfl
    · rw [ih]
      show (List.set _ _ _).length = _
      rw [List.length_set]
theorem dirtN_le (l : List Sl) : dirtN l ≤ l.length := List.countP_le_length
/-- Detach. -/
theorem PY.detach (h : PY C V R n) : (V.dtc C).1 = 0 ∧ PY C (V.dtc C).2 (R.dtc C.chunk) (n + R.x.sl.length * (C.chunk + 2)) ∧ (V.dtc C).2.pm = V.pm := by
  have hxe := h.x
  obtain ⟨c1, c2, c3, c4, c5⟩ := PY.clnF V.x.sl.length h 0
  rw [hxe] at c1 c2 c3 c4 c5
  unfold VS.dtc RV.dtc
  rw [hxe, bnd_ok c2]
  have hx1 := c3.x
  have hl := RV.clnF_len C.chunk R.x.sl.length R 0
  have hd := dirtN_le R.x.sl
  generalize VS.clnF C R.x.sl.length V 0 = q at *
  obtain ⟨q1, q2, V1⟩ := q
  dsimp only at *
  obtain ⟨f1, f2, f3⟩ := PY.frF V1.x.sl.length c3 (dirtN_zero (by omega)) 0 (by rw [hx1]; omega)
  rw [bnd_ok f1]
  rw [hx1] at f1 f2 f3 ⊢
  have f2n := f2
  generalize VS.frF C (RV.clnF C.chunk R.x.sl.length R 0).2.x.sl.length V1 0 = g at *
  obtain ⟨g1, V2⟩ := g
  dsimp only at *
  obtain ⟨e1, e2, e3, e4, e5⟩ := fl_out f2.vi.k.hea f2.dn (i := 0) (n := C.n0) rfl
  have lg := flush_log V2.S 0
  have hm : R.x.sl.length * (C.chunk + 2) = R.x.sl.length * (C.chunk + 1) + R.x.sl.length := by rw [show C.chunk + 2 = (C.chunk + 1) + 1 by omega, Nat.mul_add R.x.sl.length (C.chunk + 1) 1, Nat.mul_one]
  refine ⟨e1, ⟨e2, e3.trans f2.fu, f2.vi.shr e4, ?_, f2.ok, f2.len, f2.clo, f2.stk, ?_, ?_, ?_⟩, f3.trans c4⟩
  · rw [← f2.vw]
    unfold view
    dsimp only
    rw [show ((0 : Int)) = ((0 : Nat) : Int) from rfl, e4.now, e4.now, e4.now]
  · have := f2.log
    show (V2.S.flush 0).log.length ≤ _
    omega
  · have := f2.wr
    show (V2.S.flush 0).wr ≤ _
    omega
  · have := f2.clk
    show V2.x.clk ≤ _
    omega
/-- Close. -/
theorem PY.close (h : PY C V R n) : V.flE = 0 ∧ V.flV.S.chkF 2 = 0 ∧ (V.flV.S.flush 2).firstR 2 C.n2 (hdI V.ss.length (C.chunk : Int) V.md false) = 0 ∧ view (V.closV C) = R.clos C.chunk V.md ∧ (V.closV C).x = R.x ∧ (V.closV C).closed = true ∧ NF C (V.closV C).S ∧ (∀ i, i < 3 → Stl (V.closV C).S i) := by
  obtain ⟨f1, h1⟩ := h.flush
  obtain ⟨-, -, -, -, -, -, f7, -⟩ := fls_ou h.vi h.dn
  obtain ⟨e1, e2, e3, e4, e5⟩ := fl_out h1.vi.k.hea h1.dn (i := 2) (n := C.n2) rfl
  have hN : NF C (V.flV.S.flush ((2 : Nat) : Int)) := ⟨e4.hea, e2, e3.trans h1.fu⟩
  have h2 := h.vi.k.n2
  obtain ⟨g1, g2, g3, g4, g5, g6, g7⟩ := hN.first (by omega) (hdI V.ss.length (C.chunk : Int) V.md false)
  refine ⟨f1, e1, g1, ?_, h.x, rfl, g2, ?_⟩
  · have v0 : V.flV.S.now 0 = R.o := congrArg RV.o h1.vw
    have v1 : V.flV.S.now 1 = R.f := congrArg RV.f h1.vw
    have v2 : V.flV.S.now 2 = R.m := congrArg RV.m h1.vw
    unfold view RV.clos VS.closV
    dsimp only
    rw [show V.flV.S.flush 2 = V.flV.S.flush ((2 : Nat) : Int) from rfl, g3, g4, g5, e4.now, e4.now, e4.now, v0, v1, v2, ← h.len]
    rw [h.x]
    exact congrArg (fun q => RV.mk _ _ _ q) h.x
  · intro i hi
    by_cases e : i = 2
    · subst e; exact g6
    · exact (g7 i e).1 ((f7 i hi).shr e4)
end

end Go.Proofs.YtogchafnnkajfaaGreat

namespace Go.Proofs.YtogchafnnkajfaaGreat
set_option linter.unusedVariables false

section
variable {C : VC} {V : VS}
theorem clV_stk (k b : Nat) (x : Sl) : (V.clV C k b x).stuck = V.stuck := by unfold VS.clV; split; rfl; split <;> rfl
theorem bg1_stk (k : Nat) : (V.bg1 C k).stuck = V.stuck := by
  induction k with
  | zero => rfl
  | succ k ih =>
    rw [VS.bg1]
    split
    · exact ih
    · exact ih
theorem bg3_stk (k : Nat) : (V.bg3 C k).stuck = V.stuck := by
  induction k with
  | zero => rfl
  | succ k ih =>
    rw [VS.bg3]
    split
    · exact (clV_stk _ _ _).trans ih
    · exact ih
theorem bgn_stk (mode : Int) : (V.bgn C mode).stuck = V.stuck := by
  have hA : (V.bgA C).stuck = V.stuck := by
    unfold VS.bgA
    split
    · exact bg1_stk _
    · rfl
  show (V.bgB C mode).stuck = V.stuck
  unfold VS.bgB
  split
  · exact (bg3_stk _).trans hA
  · exact hA
end
/-- What Open leaves by the definition. -/
def rvO (o f m : List Nat) (mode : Int) : RV := (RV.mk o f m ⟨slotsU m (opK m), 0, []⟩).bgn (opC m) (opM m) (opO m) mode
theorem opn_view {C : VC} {S : DS} {mode : Int} (h : NF C S) (he : openE (S.now 2) = 0) (hC : C.chunk = opC (S.now 2)) (h1 : ¬ C.n1 < opK (S.now 2) * opC (S.now 2)) (hb : badS (slotsU (S.now 2) (opK (S.now 2))) (C.n0 / opC (S.now 2)) = false) :
    view ((opn0 S mode).bgn C mode) = rvO (S.now 0) (S.now 1) (S.now 2) mode ∧ NF C ((opn0 S mode).bgn C mode).S ∧ ((opn0 S mode).bgn C mode).x.Ok := by
  have hNB := opn_nb (mode := mode) h he hC h1 hb
  obtain ⟨b1, b2, b3, -⟩ := hNB.bgn mode
  obtain ⟨f1, f2, f3, f4⟩ := h.fl (i := 2) (n := C.n2) rfl
  refine ⟨?_, b1, b3⟩
  rw [b2, hC]
  have q0 := f3.now 0
  have q1 := f3.now 1
  have q2 := f3.now 2
  have hv : view (opn0 S mode) = RV.mk (S.now 0) (S.now 1) (S.now 2) ⟨slotsU (S.now 2) (opK (S.now 2)), 0, []⟩ := by
    unfold view opn0
    dsimp only
    rw [show ((2 : Int)) = ((2 : Nat) : Int) from rfl, q0, q1, q2]
  rw [hv]
  rfl
/-- Both sides behind Open. -/
theorem PY.start {C : VC} {S : DS} {ok : Nat → Nat → Prop} {mode : Int} (h : ZR C S ok) (hm : mode = 1 ∨ mode = 2) {n : Nat} (hn : S.log.length + opK (S.now 2) * (C.chunk + 2) + 1 ≤ n) (hw : S.wr + (opK (S.now 2) * (C.chunk + 2) : Nat) + 1 ≤ n) :
    PY C ((opn0 S mode).bgn C mode) (rvO (S.now 0) (S.now 1) (S.now 2) mode) n ∧ ((opn0 S mode).bgn C mode).pm = decide (mode = 2) := by
  obtain ⟨v1, v2, v3, v4, v5, v6, v7, v8, v9, v10, v11⟩ := h.opened hm
  obtain ⟨w1, -, -⟩ := opn_view (mode := mode) h.nf h.op h.hC h.h1 h.hb
  exact ⟨⟨v3.dn, v3.fu, by rw [v6]; exact v1.any, w1, v4, v5, v7, (bgn_stk mode).trans rfl, by omega, by omega, by omega⟩, v6⟩

theorem newW_facts (k chunk : Nat) (hk : 1 ≤ k ∧ k ≤ 1024) (hc : 1 ≤ chunk ∧ chunk ≤ 64) : opK (newW k chunk) = k ∧ opC (newW k chunk) = chunk ∧ opM (newW k chunk) = 0 ∧ opO (newW k chunk) = false ∧ slotsU (newW k chunk) k = List.replicate k nilS := by
  have hl : (List.replicate (k + 1) 0).length = k + 1 := List.length_replicate
  obtain ⟨o1, o2, o3, o4⟩ := open_fmt (List.replicate (k + 1) 0) k (chunk : Int) hk (by omega) (by omega)
  obtain ⟨g1, g2, g3, g4, g5, g6⟩ := hdI_fields k (chunk : Int) 0 false (by omega) (by omega) (by omega)
  refine ⟨by unfold opK newW; rw [o2]; exact g2, by unfold opC newW; rw [o2]; exact Int.ofNat.inj g3, by unfold opM newW; rw [o2]; exact g4, ?_, o3⟩
  unfold opO newW
  rw [o2, g5]
  rfl
/-- A new cache. -/
theorem rv_new (l0 l1 : List Nat) (k chunk : Nat) (mode : Int) (hk : 1 ≤ k ∧ k ≤ 1024) (hc : 1 ≤ chunk ∧ chunk ≤ 64) : rvO l0 l1 (newW k chunk) mode = ⟨l0, l1, (newW k chunk).set 0 (hdI k (chunk : Int) mode true), ⟨List.replicate k nilS, 0, []⟩⟩ := by
  obtain ⟨h1, h2, h3, h4, h5⟩ := newW_facts k chunk hk hc
  unfold rvO
  rw [h1, h2, h3, h4, h5]
  have hA : RV.bgA 0 false ⟨l0, l1, newW k chunk, ⟨List.replicate k nilS, 0, []⟩⟩ = ⟨l0, l1, newW k chunk, ⟨List.replicate k nilS, 0, []⟩⟩ := if_neg (by decide)
  have h3' : ∀ j, RV.bg3 chunk ⟨l0, l1, newW k chunk, ⟨List.replicate k nilS, 0, []⟩⟩ j = ⟨l0, l1, newW k chunk, ⟨List.replicate k nilS, 0, []⟩⟩ := by
    intro j
    induction j with
    | zero => rfl
    | succ j ih =>
      rw [RV.bg3, ih]
      refine if_neg ?_
      have : (CS.at_ ⟨List.replicate k nilS, 0, []⟩ j) = nilS := by
        unfold CS.at_
        dsimp only
        rw [List.getElem?_replicate]
        split <;> rfl
      rw [this]
      decide
  have hB : RV.bgB chunk 0 false mode ⟨l0, l1, newW k chunk, ⟨List.replicate k nilS, 0, []⟩⟩ = ⟨l0, l1, newW k chunk, ⟨List.replicate k nilS, 0, []⟩⟩ := by
    unfold RV.bgB
    rw [hA]
    split
    · exact h3' _
    · rfl
  unfold RV.bgn
  rw [hB]
  dsimp only
  rw [List.length_replicate]
/-- New disks, ahead of Open. -/
theorem zr_new (C : VC) (l0 l1 : List Nat) (k : Nat) (hk : 1 ≤ k ∧ k ≤ 1024) (hc : 1 ≤ C.chunk ∧ C.chunk ≤ 64) (h0 : l0.length = C.n0) (h1 : l1.length = C.n1) (h2 : C.n2 = k + 1) (hf : k * C.chunk ≤ C.n1) : ZR C (DS.full [l0, l1, newW k C.chunk]) (okT (l0.map Sec.start)) := by
  obtain ⟨p1, p2⟩ := full3 C l0 l1 (newW k C.chunk) h0 h1 (by rw [newW_length]; exact h2.symm)
  exact ZR.fmt p1 p2 (List.replicate (k + 1) 0) k hk hc rfl List.length_replicate h2 hf

section
variable (o f m : List Nat)
def ax1 : CS := ⟨[nilS], 0, []⟩
def ax2 : CS := ⟨[nilS], 0, [0]⟩
def ax3 : CS := ⟨[⟨true, false, 0, 1⟩], 1, []⟩
def ax4 : CS := ⟨[⟨true, true, 0, 2⟩], 2, []⟩
def ax5 : CS := ⟨[⟨true, true, 0, 3⟩], 3, []⟩
theorem aw1 (ho : o.length = 8) : RV.read 4 ⟨o, f, m, ax1⟩ 1 = (o[1]?.getD 0, ⟨o, f, m, ax2⟩) := by
  have hs : RV.slot 4 ⟨o, f, m, ax1⟩ 1 = (-1, ⟨o, f, m, ax2⟩) := by
    unfold RV.slot
    dsimp only
    rw [ho, if_neg (by decide), if_neg (by decide), if_pos (by decide)]
    rfl
  unfold RV.read
  rw [hs]
  rfl
theorem aw2 (ho : o.length = 8) : ∃ m', RV.read 4 ⟨o, f, m, ax2⟩ 2 = ((cpL f 0 o 0 4)[2]?.getD 0, ⟨o, cpL f 0 o 0 4, m', ax3⟩) := by
  have hs : RV.slot 4 ⟨o, f, m, ax2⟩ 2 = (0, ⟨o, cpL f 0 o 0 4, m.set 1 (dwd 0 false), ax3⟩) := by
    unfold RV.slot
    dsimp only
    rw [ho, if_neg (by decide), if_neg (by decide), if_neg (by decide)]
    rfl
  unfold RV.read
  rw [hs]
  exact ⟨_, rfl⟩
theorem aw3 (ho : o.length = 8) (v : Nat) : ∃ m', RV.write 4 true ⟨o, f, m, ax3⟩ 1 v = ⟨o, f.set 1 v, m', ax4⟩ := by
  have hs : RV.slot 4 ⟨o, f, m, ax3⟩ 1 = (0, ⟨o, f, m, ⟨[⟨true, false, 0, 2⟩], 2, []⟩⟩) := by
    unfold RV.slot
    dsimp only
    rw [ho, if_neg (by decide), if_pos (by decide)]
    rfl
  unfold RV.write RV.wr
  rw [hs]
  exact ⟨_, rfl⟩
theorem aw4 (ho : o.length = 8) : RV.read 4 ⟨o, f, m, ax4⟩ 1 = (f[1]?.getD 0, ⟨o, f, m, ax5⟩) := by
  have hs : RV.slot 4 ⟨o, f, m, ax4⟩ 1 = (0, ⟨o, f, m, ax5⟩) := by
    unfold RV.slot
    dsimp only
    rw [ho, if_neg (by decide), if_pos (by decide)]
    rfl
  unfold RV.read
  rw [hs]
  rfl
theorem aw5 : ∃ m', RV.clnF 4 5 ⟨o, f, m, ax5⟩ 0 = (1, ⟨cpL o 0 f 0 4, f, m', ⟨[⟨true, false, 0, 3⟩], 3, []⟩⟩) := by
  refine ⟨m.set 1 (dwd 0 false), ?_⟩
  rw [RV.clnF, if_neg (show ¬ ax5.oldest < 0 by decide)]
  rw [RV.clnF]
  refine (if_pos ?_).trans ?_
  · show (ax5.setD 0 false).oldest < 0
    decide
  · rfl
end

end Go.Proofs.YtogchafnnkajfaaGreat

namespace Go.Proofs.YtogchafnnkajfaaGreat
set_option linter.unusedVariables false
open Go.RowKit

/-- Sizes of both sides. -/
structure PK (C : VC) (K : RC) : Prop where
  ch : K.chunk = C.chunk
  e0 : K.n0 = C.n0
  e1 : K.n1 = C.n1
  e2 : K.n2 = C.n2
  c1 : 1 ≤ C.chunk ∧ C.chunk ≤ 64
  b0 : 1 ≤ C.n0 ∧ C.n0 ≤ 60000
  b1 : 1 ≤ C.n1 ∧ C.n1 ≤ 60000
  b2 : 1 ≤ C.n2 ∧ C.n2 ≤ 60000
  md : K.mode = 1 ∨ K.mode = 2

section
variable {lo : Nat} {W W' : World} {Fv Fq Fv' Fq' G : Nat → Prop} {pb bL cL : Nat} {C : VC} {V V' : VS} {K : RC} {clo clo' : Bool} {Q Q' : RV}
theorem P33.fr (h : P33 lo W Fv Fq pb bL cL C V K clo Q) (hf : Fr G W W') (hn : ∀ j, (Fv j ∨ Fq j ∨ j = pb ∨ j = bL) → ¬ G j) : P33 lo W' Fv Fq pb bL cL C V K clo Q :=
  ⟨h.vol.fr hf (fun j hj => hn j (.inl hj)), h.rv.fr hf (fun j hj => hn j (.inr (.inl hj))), h.pair.fr hf (hn _ (.inr (.inr (.inl rfl)))), own_fr h.spans hf (fun b hb => by simp [Value.ownBlock] at hb; exact hn _ (.inr (.inr (.inr hb.symm)))), h.dj, h.ap, h.lo_, h.lof⟩
theorem P33.keep (h : P33 lo W Fv Fq pb bL cL C V K clo Q) (hb : Below W.heap.size W W') : P33 lo W' Fv Fq pb bL cL C V K clo Q := h.fr (G := fun _ => False) (Fr.of_below hb) (fun _ _ h => h)
theorem P33.lt (h : P33 lo W Fv Fq pb bL cL C V K clo Q) : pb < W.heap.size ∧ bL < W.heap.size ∧ lo ≤ W.heap.size := by
  have h1 := h.pair.lt
  have h2 := own_lt h.spans _ rfl
  have h3 := h.lo_
  exact ⟨h1, h2, by omega⟩
theorem P33.tight (h : P33 lo W Fv Fq pb bL cL C V K clo Q) : P33 lo W (fun j => Fv j ∧ j < W.heap.size) (fun j => Fq j ∧ j < W.heap.size) pb bL cL C V K clo Q :=
  ⟨h.vol.tight, h.rv.tight, h.pair, h.spans, fun j hj hk => h.dj j hj.1 hk.1, ⟨fun e => h.ap.1 e.1, fun e => h.ap.2.1 e.1, fun e => h.ap.2.2.1 e.1, fun e => h.ap.2.2.2 e.1⟩, h.lo_, fun j hj => h.lof j (hj.elim (fun e => .inl e.1) (fun e => .inr e.1))⟩
theorem P33.vd (h : P33 lo W Fv Fq pb bL cL C V K clo Q) (hv : VolAt W' Fv' C V') (ht : Turn Fv Fv' W W') : P33 lo W' Fv' (fun j => Fq j ∧ j < W.heap.size) pb bL cL C V' K clo Q := by
  have hl := h.lt
  refine ⟨hv, h.rv.tight.fr ht.1 (fun j hj e => h.dj j e hj.1), h.pair.fr ht.1 h.ap.1, own_fr h.spans ht.1 (fun b hb => by simp [Value.ownBlock] at hb; rw [← hb]; exact h.ap.2.2.1), fun j hj hk => ?_, ⟨fun e => ?_, fun e => h.ap.2.1 e.1, fun e => ?_, fun e => h.ap.2.2.2 e.1⟩, h.lo_, fun j hj => ?_⟩
  · rcases ht.2 j hj with e | e
    · exact h.dj j e hk.1
    · have := hk.2; omega
  · rcases ht.2 _ e with e | e
    · exact h.ap.1 e
    · omega
  · rcases ht.2 _ e with e | e
    · exact h.ap.2.2.1 e
    · omega
  · rcases hj with hj | hj
    · rcases ht.2 _ hj with e | e
      · exact h.lof j (.inl e)
      · omega
    · exact h.lof j (.inr hj.1)
theorem P33.cells (h : P33 lo W Fv Fq pb bL cL C V K clo Q) : W.cell? ⟨pb, 0, none⟩ = some (.pointer (some ⟨C.g, 0, none⟩)) ∧ W.cell? ⟨pb, 1, none⟩ = some (.slice (some ⟨bL, 0, none⟩) 3 cL) ∧ W.cell? ⟨pb, 2, none⟩ = some (.pointer (some ⟨C.v, 0, none⟩)) ∧ W.cell? ⟨pb, 3, none⟩ = some (.pointer (some ⟨K.r, 0, none⟩)) ∧
    W.cell? ⟨bL, 0, none⟩ = some (.iface 176 (.pointer (some ⟨C.s0, 0, none⟩))) ∧ W.cell? ⟨bL, 1, none⟩ = some (.iface 176 (.pointer (some ⟨C.s1, 0, none⟩))) ∧ W.cell? ⟨bL, 2, none⟩ = some (.iface 176 (.pointer (some ⟨C.s2, 0, none⟩))) :=
  ⟨h.pair.cell 0, h.pair.cell 1, h.pair.cell 2, h.pair.cell 3, (h.spans.cellAt 0 (by omega)).trans rfl, (h.spans.cellAt 1 (by omega)).trans rfl, (h.spans.cellAt 2 (by omega)).trans rfl⟩
end

/-- Both sides, while requests go on: what the program has is R, what the definition has is Q. -/
structure PI (lo : Nat) (W0 W : World) (X Fv Fq : Nat → Prop) (pb bL cL : Nat) (C : VC) (V : VS) (K : RC) (R Q : RV) (n : Nat) : Prop where
  p : P33 lo W Fv Fq pb bL cL C V K false Q
  y : PY C V R n
  pm : V.pm = decide (K.mode = 2)
  md : V.md = K.mode
  bel : Below W0.heap.size W0 W
  low : W0.heap.size ≤ lo
  out : ∀ j, X j → ¬ Fv j ∧ ¬ Fq j ∧ j < W.heap.size
def PP (lo : Nat) (W0 W : World) (X : Nat → Prop) (pb bL cL : Nat) (C : VC) (K : RC) (R Q : RV) (n : Nat) : Prop := ∃ Fv Fq V, PI lo W0 W X Fv Fq pb bL cL C V K R Q n

section
variable {lo : Nat} {W0 W W' : World} {X : Nat → Prop} {pb bL cL : Nat} {C : VC} {K : RC} {R Q : RV} {n : Nat}
theorem PP.cells (h : PP lo W0 W X pb bL cL C K R Q n) : W.cell? ⟨pb, 0, none⟩ = some (.pointer (some ⟨C.g, 0, none⟩)) ∧ W.cell? ⟨pb, 1, none⟩ = some (.slice (some ⟨bL, 0, none⟩) 3 cL) ∧ W.cell? ⟨pb, 2, none⟩ = some (.pointer (some ⟨C.v, 0, none⟩)) ∧ W.cell? ⟨pb, 3, none⟩ = some (.pointer (some ⟨K.r, 0, none⟩)) ∧
    W.cell? ⟨bL, 0, none⟩ = some (.iface 176 (.pointer (some ⟨C.s0, 0, none⟩))) ∧ W.cell? ⟨bL, 1, none⟩ = some (.iface 176 (.pointer (some ⟨C.s1, 0, none⟩))) ∧ W.cell? ⟨bL, 2, none⟩ = some (.iface 176 (.pointer (some ⟨C.s2, 0, none⟩))) := by
  obtain ⟨Fv, Fq, V, h⟩ := h
  exact h.p.cells
theorem PP.keep (h : PP lo W0 W X pb bL cL C K R Q n) (hb : Below W.heap.size W W') : PP lo W0 W' X pb bL cL C K R Q n := by
  obtain ⟨Fv, Fq, V, h⟩ := h
  exact ⟨Fv, Fq, V, h.p.keep hb, h.y, h.pm, h.md, h.bel.trans (hb.mono h.bel.size), h.low, fun j hj => ⟨(h.out j hj).1, (h.out j hj).2.1, Nat.lt_of_lt_of_le (h.out j hj).2.2 hb.size⟩⟩
theorem PI.vd {Fv Fq Fv' : Nat → Prop} {V V' : VS} {R' : RV} {m : Nat} (h : PI lo W0 W X Fv Fq pb bL cL C V K R Q n) (hv : VolAt W' Fv' C V') (ht : Turn Fv Fv' W W') (hy : PY C V' R' m) (hp : V'.pm = V.pm) (hm : V'.md = V.md) : PP lo W0 W' X pb bL cL C K R' Q m ∧ Fr (fun j => ¬ X j) W W' := by
  have hl := h.p.lt
  have h0 := h.low
  refine ⟨⟨_, _, V', h.p.vd hv ht, hy, hp.trans h.pm, hm.trans h.md, h.bel.trans (ht.1.below (by omega) (fun j hj => Nat.le_trans h.low (h.p.lof j (.inl hj)))), h.low, fun j hj => ⟨?_, fun e => (h.out j hj).2.1 e.1, Nat.lt_of_lt_of_le (h.out j hj).2.2 ht.1.size⟩⟩, ht.1.mono (fun j _ hj hx => (h.out j hx).1 hj)⟩
  exact ht.out (h.out j hj).2.2 (h.out j hj).1
/-- More is left alone. -/
theorem PP.more (h : PP lo W0 W X pb bL cL C K R Q n) (hb : Below W.heap.size W W') {Y : Nat → Prop} (hY : ∀ j, Y j → X j ∨ (W.heap.size ≤ j ∧ j < W'.heap.size)) : PP lo W0 W' Y pb bL cL C K R Q n := by
  obtain ⟨Fv, Fq, V, h⟩ := h
  refine ⟨_, _, V, h.p.tight.keep hb, h.y, h.pm, h.md, h.bel.trans (hb.mono h.bel.size), h.low, fun j hj => ?_⟩
  rcases hY j hj with e | ⟨e1, e2⟩
  · exact ⟨fun q => (h.out j e).1 q.1, fun q => (h.out j e).2.1 q.1, Nat.lt_of_lt_of_le (h.out j e).2.2 hb.size⟩
  · exact ⟨fun q => by have := q.2; omega, fun q => by have := q.2; omega, e2⟩
/-- Read. -/
theorem PP.vread (h : PP lo W0 W X pb bL cL C K R Q n) (hk : PK C K) {a : Nat} (ha : a < C.n0) (hn : n ≤ 100000) :
    Calls Tryz.prog 22 #[.pointer (some ⟨C.v, 0, none⟩), .int .i64 (a : Int)] W fun e W' => e = .returned (.tuple #[.int .u64 ((R.read C.chunk a).1 : Int), .int .i64 0]) ∧ (R.read C.chunk a).1 < 18446744073709551616 ∧ PP lo W0 W' X pb bL cL C K (R.read C.chunk a).2 Q (n + 2 * C.chunk + 2) ∧ Fr (fun j => ¬ X j) W W' := by
  obtain ⟨Fv, Fq, V, h⟩ := h
  have h1 := h.y.log
  have h2 := h.y.wr
  have h3 := h.y.clk
  have hc := hk.c1
  have hb0 := hk.b0
  have hb1 := hk.b1
  have hb2 := hk.b2
  obtain ⟨r1, r2, r3⟩ := h.y.read ha (by omega) (by omega)
  have hbd := Bd.slt (C := C) h.y.ok h.y.len ha (by omega) (by omega)
  refine (vread_any W Fv C V a h.p.vol h.y.ok h.y.len h.y.clo ha (by omega) (by omega) (by omega) (by omega) (by omega) (by omega) (by omega) (by omega)).mono ?_
  rintro e W' ⟨rfl, hlt, Fv', hv, ht⟩
  rw [r1, r2]
  rw [r2] at hlt
  exact ⟨rfl, hlt, h.vd hv ht r3 hbd.pm hbd.md⟩
/-- Write. -/
theorem PP.vwrite (h : PP lo W0 W X pb bL cL C K R Q n) (hk : PK C K) {a v : Nat} (ha : a < C.n0) (hv : v < 18446744073709551616) (hn : n ≤ 100000) :
    Calls Tryz.prog 31 #[.pointer (some ⟨C.v, 0, none⟩), .int .i64 (a : Int), .int .u64 (v : Int)] W fun e W' => e = .returned (.int .i64 0) ∧ PP lo W0 W' X pb bL cL C K (R.write C.chunk (decide (K.mode = 2)) a v) Q (n + 2 * C.chunk + 5) ∧ Fr (fun j => ¬ X j) W W' := by
  obtain ⟨Fv, Fq, V, h⟩ := h
  have h1 := h.y.log
  have h2 := h.y.wr
  have h3 := h.y.clk
  have hc := hk.c1
  have hb0 := hk.b0
  have hb1 := hk.b1
  have hb2 := hk.b2
  obtain ⟨r1, r2, r3⟩ := h.y.write (v := v) ha (by omega) (by omega)
  have hbd := Bd.wrt (C := C) (v := v) h.y.ok h.y.len (by omega) ha (by omega)
  refine (vwrite_any W Fv C V a v h.p.vol h.y.ok h.y.len h.y.clo ha hv (by omega) (by omega) (by omega) (by omega) (by omega) (by omega) (by omega) (by omega)).mono ?_
  rintro e W' ⟨rfl, Fv', hv, ht⟩
  rw [r1]
  rw [h.pm] at r2
  exact ⟨rfl, h.vd hv ht r2 r3 hbd.md⟩
theorem PP.vsize (h : PP lo W0 W X pb bL cL C K R Q n) :
    Calls Tryz.prog 46 #[.pointer (some ⟨C.v, 0, none⟩)] W fun e W' => e = .returned (.int .i64 (C.n0 : Int)) ∧ W = W' := by
  obtain ⟨Fv, Fq, V, h⟩ := h
  exact vsize_any W Fv C V h.p.vol
/-- Flush. -/
theorem PP.vflush (h : PP lo W0 W X pb bL cL C K R Q n) (hn : n ≤ 100000) :
    Calls Tryz.prog 34 #[.pointer (some ⟨C.v, 0, none⟩)] W fun e W' => e = .returned (.int .i64 0) ∧ PP lo W0 W' X pb bL cL C K R Q n ∧ Fr (fun j => ¬ X j) W W' := by
  obtain ⟨Fv, Fq, V, h⟩ := h
  have h1 := h.y.log
  obtain ⟨r1, r2⟩ := h.y.flush
  refine (vflush_any W Fv C V h.p.vol h.y.clo (by omega)).mono ?_
  rintro e W' ⟨rfl, Fv', hv, ht⟩
  rw [r1]
  exact ⟨rfl, h.vd hv ht r2 rfl rfl⟩
/-- Clean. -/
theorem PP.vclean (h : PP lo W0 W X pb bL cL C K R Q n) (hk : PK C K) (m : Nat) (hm : m ≤ 1024) (hn : n ≤ 100000) :
    Calls Tryz.prog 47 #[.pointer (some ⟨C.v, 0, none⟩), .int .i64 (m : Int)] W fun e W' => e = .returned (.tuple #[.int .i64 (R.clnF C.chunk m 0).1, .int .i64 0]) ∧ PP lo W0 W' X pb bL cL C K (R.clnF C.chunk m 0).2 Q (n + m * (C.chunk + 1)) ∧ Fr (fun j => ¬ X j) W W' := by
  obtain ⟨Fv, Fq, V, h⟩ := h
  have h1 := h.y.log
  have h2 := h.y.wr
  have hc := hk.c1
  have hb0 := hk.b0
  have hb1 := hk.b1
  have hb2 := hk.b2
  have hmm : m * (C.chunk + 1) ≤ 1024 * 65 := Nat.mul_le_mul hm (by omega)
  obtain ⟨r1, r2, r3, r4, -⟩ := PY.clnF m h.y 0
  have hbd := (Bd.refl h.y.ok h.y.len).cln (C := C) m 0
  refine (vcleann_any W Fv C V m h.p.vol h.y.ok h.y.len h.y.clo hm (by omega) (by omega) (by omega) (by omega) (by omega) (by omega)).mono ?_
  rintro e W' ⟨rfl, Fv', hv, ht⟩
  rw [r1, r2]
  exact ⟨rfl, h.vd hv ht r3 r4 hbd.md⟩
theorem frF_md (C : VC) (m : Nat) : ∀ (V : VS) (k : Nat), (VS.frF C m V k).2.md = V.md := by
  induction m with
  | zero => intro V k; rfl
  | succ m ih =>
    intro V k
    have hf : (V.freeV C k).md = V.md := by unfold VS.freeV; split <;> rfl
    rw [VS.frF]
    split
    · split
      · exact hf
      · exact (ih _ _).trans hf
    · exact ih _ _
/-- Detach. -/
theorem PP.vdetach (h : PP lo W0 W X pb bL cL C K R Q n) (hk : PK C K) (hn : n ≤ 100000) :
    Calls Tryz.prog 25 #[.pointer (some ⟨C.v, 0, none⟩)] W fun e W' => e = .returned (.int .i64 0) ∧ PP lo W0 W' X pb bL cL C K (R.dtc C.chunk) Q (n + R.x.sl.length * (C.chunk + 2)) ∧ Fr (fun j => ¬ X j) W W' := by
  obtain ⟨Fv, Fq, V, h⟩ := h
  have h1 := h.y.log
  have h2 := h.y.wr
  have hc := hk.c1
  have hb0 := hk.b0
  have hb1 := hk.b1
  have hb2 := hk.b2
  have hxe := h.y.x
  have hl := h.y.ok.len
  have hmm : V.x.sl.length * (C.chunk + 2) ≤ 1024 * 66 := Nat.mul_le_mul (by omega) (by omega)
  obtain ⟨r1, r2, r3⟩ := h.y.detach
  refine (vdetach_any W Fv C V h.p.vol h.y.ok h.y.len h.y.clo V.x.sl.length rfl (by omega) (by omega) (by omega) (by omega) (by omega) (by omega)).mono ?_
  rintro e W' ⟨rfl, Fv', hv, ht⟩
  rw [r1]
  refine ⟨rfl, h.vd hv ht r2 r3 ?_⟩
  have hbd := (Bd.refl h.y.ok h.y.len).cln (C := C) V.x.sl.length 0
  unfold VS.dtc bnd
  dsimp only
  split
  · split
    · exact (frF_md C _ _ _).trans hbd.md
    · exact (frF_md C _ _ _).trans hbd.md
  · exact hbd.md
/-- State. -/
theorem PP.vstate (h : PP lo W0 W X pb bL cL C K R Q n) :
    Calls Tryz.prog 26 #[.pointer (some ⟨C.v, 0, none⟩)] W (StP W R.x) := by
  obtain ⟨Fv, Fq, V, h⟩ := h
  have hl := h.y.ok.len
  have hm := h.y.ok.msl
  have := vstate_any W Fv C V h.p.vol (by omega) (by omega)
  rw [h.y.x] at this
  exact this
/-- Behind Close. -/
structure PC (lo : Nat) (W0 W : World) (X Fv Fq : Nat → Prop) (pb bL cL : Nat) (C : VC) (V : VS) (K : RC) (clo : Bool) (R Q : RV) : Prop where
  p : P33 lo W Fv Fq pb bL cL C V K clo Q
  cl : V.closed = true
  vw : view V = R
  ok : V.x.Ok
  nf : NF C V.S
  st : ∀ i, i < 3 → Stl V.S i
  bel : Below W0.heap.size W0 W
  low : W0.heap.size ≤ lo
  out : ∀ j, X j → ¬ Fv j ∧ ¬ Fq j ∧ j < W.heap.size
def PE (lo : Nat) (W0 W : World) (X : Nat → Prop) (pb bL cL : Nat) (C : VC) (K : RC) (clo : Bool) (R Q : RV) : Prop := ∃ Fv Fq V, PC lo W0 W X Fv Fq pb bL cL C V K clo R Q
theorem PP.vclose (h : PP lo W0 W X pb bL cL C K R Q n) (hk : PK C K) (hn : n ≤ 100000) :
    Calls Tryz.prog 23 #[.pointer (some ⟨C.v, 0, none⟩)] W fun e W' => e = .returned (.int .i64 0) ∧ PE lo W0 W' X pb bL cL C K false (R.clos C.chunk K.mode) Q ∧ Fr (fun j => ¬ X j) W W' := by
  obtain ⟨Fv, Fq, V, h⟩ := h
  have h1 := h.y.log
  have h2 := h.y.wr
  have hc := hk.c1
  have hb2 := hk.b2
  have hl := h.y.ok.len
  have hl2 := h.y.len
  obtain ⟨r1, r2, r3, r4, r5, r6, r7, r8⟩ := h.y.close
  refine (vclose_any W Fv C V h.p.vol h.y.clo h.y.stk r1 r2 r3 (by omega) (by omega) (by omega) (by omega) (by omega)).mono ?_
  rintro e W' ⟨rfl, Fv', hv, ht⟩
  have hl3 := h.p.lt
  have h0 := h.low
  rw [h.md] at r4
  refine ⟨rfl, ⟨_, _, _, h.p.vd hv ht, r6, r4, by rw [r5, ← h.y.x]; exact h.y.ok, r7, r8, h.bel.trans (ht.1.below (by omega) (fun j hj => Nat.le_trans h.low (h.p.lof j (.inl hj)))), h.low, fun j hj => ⟨ht.out (h.out j hj).2.2 (h.out j hj).1, fun e => (h.out j hj).2.1 e.1, Nat.lt_of_lt_of_le (h.out j hj).2.2 ht.1.size⟩⟩, ht.1.mono (fun j _ hj hx => (h.out j hx).1 hj)⟩
section
variable {clo : Bool}
theorem PE.cells (h : PE lo W0 W X pb bL cL C K clo R Q) : W.cell? ⟨pb, 0, none⟩ = some (.pointer (some ⟨C.g, 0, none⟩)) ∧ W.cell? ⟨pb, 1, none⟩ = some (.slice (some ⟨bL, 0, none⟩) 3 cL) ∧ W.cell? ⟨pb, 2, none⟩ = some (.pointer (some ⟨C.v, 0, none⟩)) ∧ W.cell? ⟨pb, 3, none⟩ = some (.pointer (some ⟨K.r, 0, none⟩)) ∧
    W.cell? ⟨bL, 0, none⟩ = some (.iface 176 (.pointer (some ⟨C.s0, 0, none⟩))) ∧ W.cell? ⟨bL, 1, none⟩ = some (.iface 176 (.pointer (some ⟨C.s1, 0, none⟩))) ∧ W.cell? ⟨bL, 2, none⟩ = some (.iface 176 (.pointer (some ⟨C.s2, 0, none⟩))) := by
  obtain ⟨Fv, Fq, V, h⟩ := h
  exact h.p.cells
theorem PE.bel (h : PE lo W0 W X pb bL cL C K clo R Q) : Below W0.heap.size W0 W := by
  obtain ⟨Fv, Fq, V, h⟩ := h
  exact h.bel
theorem PE.vflush (h : PE lo W0 W X pb bL cL C K clo R Q) : Calls Tryz.prog 34 #[.pointer (some ⟨C.v, 0, none⟩)] W fun e W' => e = .returned (.int .i64 20) ∧ W = W' := by
  obtain ⟨Fv, Fq, V, h⟩ := h
  exact vflush_closed W Fv C V h.p.vol h.cl
end
/-- The disks. -/
theorem PP.dsk (h : PP lo W0 W X pb bL cL C K R Q n) : ∃ F S, DskAt W F C.g S ∧ SpanAt W C.s0 C.g 0 C.n0 ∧ NF C S ∧ S.now 0 = R.o ∧ S.now 1 = R.f ∧ S.now 2 = R.m ∧ S.log.length ≤ n := by
  obtain ⟨Fv, Fq, V, h⟩ := h
  obtain ⟨Fc, A, c, B, d, hv⟩ := h.p.vol
  obtain ⟨F, A', c', hca⟩ := hv.cache
  have hvw := h.y.vw
  refine ⟨F, V.S, hca.dsk, hv.sp0, ⟨h.y.vi.k.hea, h.y.dn, h.y.fu⟩, ?_, ?_, ?_, h.y.log⟩ <;> rw [← hvw] <;> rfl
end

/-- What Open finds of a new cache. -/
def rvN (l0 l1 : List Nat) (k ch : Nat) (mode : Int) : RV := ⟨l0, l1, (newW k ch).set 0 (hdI k (ch : Int) mode true), ⟨List.replicate k nilS, 0, []⟩⟩
theorem op_new (l0 l1 : List Nat) (k ch n0 n1 : Nat) (mode : Int) (hk : 1 ≤ k ∧ k ≤ 4) (hc : 1 ≤ ch ∧ ch ≤ 4) (hm : mode = 1 ∨ mode = 2) (h0 : l0.length = n0) (h1 : l1.length = n1) (hf : k * ch ≤ n1) : opnE (newW k ch) n0 n1 mode = 0 :=
  ((zr_new ⟨0, 0, 0, 0, 0, 0, n0, n1, k + 1, ch⟩ l0 l1 k (by omega) (by show 1 ≤ ch ∧ ch ≤ 64; omega) h0 h1 rfl hf).opened hm).2.2.2.2.2.2.2.2.2.2
theorem pp_new {lo : Nat} {W0 W : World} {Fv Fq : Nat → Prop} {pb bL cL g s0 s1 s2 m v r bo co bf cf bm cm n0 n1 n2 k ch : Nat} {l0 l1 : List Nat} {mode : Int} (hk : 1 ≤ k ∧ k ≤ 4) (hc : 1 ≤ ch ∧ ch ≤ 4) (hm : mode = 1 ∨ mode = 2) (h0 : l0.length = n0) (h1 : l1.length = n1) (h2 : n2 = k + 1) (hf : k * ch ≤ n1) (hn0 : 1 ≤ n0 ∧ n0 ≤ 60000) (hn1 : 1 ≤ n1 ∧ n1 ≤ 60000)
    (hp : P33 lo W Fv Fq pb bL cL ⟨g, s0, s1, s2, m, v, n0, n1, n2, opC (newW k ch)⟩ ((opn0 (DS.full [l0, l1, newW k ch]) mode).bgn ⟨g, s0, s1, s2, m, v, n0, n1, n2, opC (newW k ch)⟩ mode) (rvK r bo co bf cf bm cm n0 n1 n2 (newW k ch) mode) false ((rv0 l0 l1 (newW k ch)).bgn (opC (newW k ch)) (opM (newW k ch)) (opO (newW k ch)) mode)) (hb : Below W0.heap.size W0 W) (hl : W0.heap.size ≤ lo) :
    PP lo W0 W (fun _ => False) pb bL cL ⟨g, s0, s1, s2, m, v, n0, n1, n2, ch⟩ (rvK r bo co bf cf bm cm n0 n1 n2 (newW k ch) mode) (rvN l0 l1 k ch mode) (rvN l0 l1 k ch mode) 30 ∧ PK ⟨g, s0, s1, s2, m, v, n0, n1, n2, ch⟩ (rvK r bo co bf cf bm cm n0 n1 n2 (newW k ch) mode) := by
  obtain ⟨f1, f2, f3, f4, f5⟩ := newW_facts k ch (by omega) (by omega)
  have hrn := rv_new l0 l1 k ch mode (by omega) (by omega)
  have hz := zr_new ⟨g, s0, s1, s2, m, v, n0, n1, n2, ch⟩ l0 l1 k (by omega) (by show 1 ≤ ch ∧ ch ≤ 64; omega) h0 h1 h2 hf
  have hkc : k * (ch + 2) ≤ 4 * 6 := Nat.mul_le_mul hk.2 (by omega)
  have hK : opK ((DS.full [l0, l1, newW k ch]).now 2) = k := f1
  obtain ⟨y1, y2⟩ := PY.start (n := 30) hz hm (by
      show 0 + opK ((DS.full [l0, l1, newW k ch]).now 2) * (ch + 2) + 1 ≤ 30
      rw [hK]; omega) (by
      show (0 : Int) + ((opK ((DS.full [l0, l1, newW k ch]).now 2) * (ch + 2) : Nat) : Int) + 1 ≤ ((30 : Nat) : Int)
      rw [hK]; omega)
  have hQ : (rv0 l0 l1 (newW k ch)).bgn (opC (newW k ch)) (opM (newW k ch)) (opO (newW k ch)) mode = rvN l0 l1 k ch mode := hrn
  rw [hQ] at hp
  have hy : PY ⟨g, s0, s1, s2, m, v, n0, n1, n2, ch⟩ ((opn0 (DS.full [l0, l1, newW k ch]) mode).bgn ⟨g, s0, s1, s2, m, v, n0, n1, n2, ch⟩ mode) (rvN l0 l1 k ch mode) 30 := by
    have h := y1
    rw [show (DS.full [l0, l1, newW k ch]).now 0 = l0 from rfl, show (DS.full [l0, l1, newW k ch]).now 1 = l1 from rfl, show (DS.full [l0, l1, newW k ch]).now 2 = newW k ch from rfl, hrn] at h
    exact h
  rw [f2] at hp
  refine ⟨⟨Fv, Fq, _, hp, hy, y2, rfl, hb, hl, fun j hj => hj.elim⟩, ?_⟩
  exact ⟨f2, rfl, rfl, rfl, by show 1 ≤ ch ∧ ch ≤ 64; omega, hn0, hn1, by show 1 ≤ n2 ∧ n2 ≤ 60000; omega, hm⟩

end Go.Proofs.YtogchafnnkajfaaGreat

namespace Go.Proofs.YtogchafnnkajfaaGreat
set_option linter.unusedVariables false
open Go.RowKit
attribute [local go_sem] Oper.semAt_some m_size m_read m_write m_flush

theorem Frx.cell {X : Nat → Prop} {W W' : World} (h : Fr (fun j => ¬ X j) W W') {b i : Nat} (hx : X b) (hl : b < W.heap.size) : W'.cell? ⟨b, i, none⟩ = W.cell? ⟨b, i, none⟩ := h.cell hl (fun e => e hx)

set_option maxRecDepth 100000 in
set_option maxHeartbeats 8000000 in
theorem awake33_any (W : World) : Calls Tryz.prog 18 #[] W fun e W' => e = .returned (.bool true) ∧ Below W.heap.size W W' := by
  have hmk : ∀ w : World, (Instr.makeSlice 29 (.int .i64 4) (.int .i64 4)).run Tryz.prog w = .ok (.slice (some ⟨w.heap.size, 0, none⟩) 4 4) (w.alloc (.cells (uv [0, 0, 0, 0]).toArray 26)) := fun w => run_make_u64 4 (by omega) w
  have hw0 : W64 [0, 0, 0, 0] := by intro x hx; simp at hx; omega
  have hop := op_new (wordsL 3 8) [0, 0, 0, 0] 1 4 8 4 2 (by omega) (by omega) (.inr rfl) (wordsL_length 3 8) rfl (by omega)
  have HOP := Lib.hid hop
  clear hop
  go_enter Tryz.func18, Tryz.ntmps18
  go_upto_region 1 with (fail)
  go_cut [1, 2] (fun a1 a2 wx => ∃ lo pb bL cL C K, a1 = .pointer (some ⟨pb, 0, none⟩) ∧ a2 = .bool true ∧ PK C K ∧ K.mode = 2 ∧ C.n0 = 8 ∧ C.chunk = 4 ∧ PP lo W wx (fun _ => False) pb bL cL C K (rvN (wordsL 3 8) [0, 0, 0, 0] 1 4 2) (rvN (wordsL 3 8) [0, 0, 0, 0] 1 4 2) 30)
  case first =>
    go_region_with ((first
      | (go_at_call 15; refine Calls.mono (start33_any _ A1 _ A2 8 4 2 c1 4 c2 (wordsL 3 8) [0, 0, 0, 0] (newW 1 4) (by first | exact (Reads.of_own ho1).keep hb2 | exact ((Reads.of_own ho1).keep ((Below.refl _ _).alloc (Nat.le_refl _) _)).keep hb2 | exact ((Reads.of_own ho1).keep hb2).keep ((Below.refl _ _).alloc (Nat.le_refl _) _)) (by first | exact ((Reads.new W.drew (uv [0, 0, 0, 0]).toArray 26).keep hb1).keep hb2 | exact (Reads.new w1 (uv [0, 0, 0, 0]).toArray 26).keep hb2 | exact Reads.new _ _ _) (by first | exact Reads.of_own ho2 | exact (Reads.of_own ho2).keep ((Below.refl _ _).alloc (Nat.le_refl _) _)) (wordsL_length 3 8) rfl (newW_length 1 4) (by omega) (by omega) (by omega) (wordsL_w 3 8) hw0 (newW_w 1 4) 2 (by omega)) ?_; rintro e w3 ⟨pb, rfl, hb3, -, hok⟩)
      | (go_at_call 19; refine (words33_any 1 4 _ (by omega) (by omega)).mono ?_; rintro e w2 ⟨v2, rfl, ho2, hb2⟩; obtain ⟨A2, c2, hv2⟩ := own_form ho2; subst hv2)
      | (go_at_call 16; refine (words2_any 8 3 _ (by omega)).mono ?_; rintro e w1 ⟨v1, rfl, ho1, hb1⟩; obtain ⟨A1, c1, hv1⟩ := own_form ho1; subst hv1)))
    all_goals
      obtain ⟨Fv, Fq, bL, cL, g, s0, s1, s2, m, v, r, bo, co, bf, cf, bm, cm, hp⟩ := hok HOP.out
      have hww : Below W.heap.size W w3 ∧ ∃ lo, W.heap.size ≤ lo ∧ P33 lo w3 Fv Fq pb bL cL ⟨g, s0, s1, s2, m, v, 8, 4, 2, opC (newW 1 4)⟩ ((opn0 (DS.full [wordsL 3 8, [0, 0, 0, 0], newW 1 4]) 2).bgn ⟨g, s0, s1, s2, m, v, 8, 4, 2, opC (newW 1 4)⟩ 2) (rvK r bo co bf cf bm cm 8 4 2 (newW 1 4) 2) false ((rv0 (wordsL 3 8) [0, 0, 0, 0] (newW 1 4)).bgn (opC (newW 1 4)) (opM (newW 1 4)) (opO (newW 1 4)) 2) := by
        first
        | (have k1 : Below W.heap.size W w1 := (Below.refl W.heap.size W).drew.trans hb1
           have k2 := k1.trans (hb2.mono k1.size)
           have k3 := k2.alloc k2.size (.cells (uv [0, 0, 0, 0]).toArray 26)
           exact ⟨k3.trans (hb3.mono k3.size), _, k3.size, hp⟩)
        | (have k1 : Below W.heap.size W w1 := (Below.refl W.heap.size W).drew.trans hb1
           have k2 := k1.alloc k1.size (.cells (uv [0, 0, 0, 0]).toArray 26)
           have k3 := k2.trans (hb2.mono k2.size)
           exact ⟨k3.trans (hb3.mono k3.size), _, k3.size, hp⟩)
        | (have k1 : Below W.heap.size W (W.drew.alloc (.cells (uv [0, 0, 0, 0]).toArray 26)) := (Below.refl W.heap.size W).drew.alloc (Nat.le_refl _) _
           have k2 := k1.trans (hb1.mono k1.size)
           have k3 := k2.trans (hb2.mono k2.size)
           exact ⟨k3.trans (hb3.mono k3.size), _, k3.size, hp⟩)
      obtain ⟨hbw, lo, hlo, hp⟩ := hww
      obtain ⟨q1, q2⟩ := pp_new (n0 := 8) (n1 := 4) (n2 := 2) (k := 1) (ch := 4) (l0 := wordsL 3 8) (l1 := [0, 0, 0, 0]) (by omega) (by omega) (.inr rfl) (wordsL_length 3 8) rfl rfl (by omega) (by omega) (by omega) hp hbw hlo
      have HQ1 := Lib.hid q1
      have HQ2 := Lib.hid q2
      clear hok hb1 hb2 hb3 hp q1 q2 hbw hlo ho1 ho2
      go_wp2_with fail
      go_meet
      case rel => exact ⟨lo, pb, bL, cL, _, _, rfl, rfl, HQ2.out, rfl, rfl, rfl, HQ1.out⟩
  case rest =>
    obtain ⟨lo, pb, bL, cL, C, K, rfl, rfl, hpk, hmd, hn0, hch, hp⟩ := hcut
    have HP0 := Lib.hid hp
    have HPK := Lib.hid hpk
    have HMD := Lib.hid hmd
    have HN0 := Lib.hid hn0
    have HCH := Lib.hid hch
    obtain ⟨x0, x1, x2, x3, x4, x5, x6⟩ := hp.cells
    have hR0 : rvN (wordsL 3 8) [0, 0, 0, 0] 1 4 2 = ⟨wordsL 3 8, [0, 0, 0, 0], (newW 1 4).set 0 (hdI 1 4 2 true), ax1⟩ := rfl
    have HR0 := Lib.hid hR0
    have hl0 := wordsL_length 3 8
    have hl0w := wordsL_w 3 8
    clear hp hpk hmd hn0 hch hmk hw0 HOP hR0
    obtain ⟨Q0, m0, l0, hE0, hp0⟩ : ∃ Q0 m0 l0, wordsL 3 8 = l0 ∧ PP lo W wc (fun _ => False) pb bL cL C K ⟨l0, [0, 0, 0, 0], m0, ax1⟩ Q0 30 := ⟨_, _, _, rfl, by have h := HP0.out; rw [HR0.out] at h; exact h⟩
    rw [hE0] at hl0 hl0w
    have HE0 := Lib.hid hE0
    clear hE0 HR0 HP0
    -- what is read and written
    have hv1 := hp0.vread HPK.out (a := 1) (by rw [HN0.out]; omega) (by omega)
    rw [HCH.out, aw1 l0 [0, 0, 0, 0] m0 hl0, show ((1 : Nat) : Int) = 1 from rfl] at hv1
    have HS0 := Lib.hid hp0.vsize
    have HV1 := Lib.hid hv1
    clear hv1
    go_upto_region 4 with (go_at_call 46; (with_reducible refine HS0.out.mono ?_); rintro e w' ⟨rfl, rfl⟩; rw [HN0.out])
    go_upto_region 5 with (go_at_call 22; (with_reducible refine HV1.out.mono ?_); rintro e w1 ⟨rfl, -, hp1, -⟩)
    clear HS0 HV1 x0 x1 x2 x3 x4 x5 x6 hp0
    obtain ⟨x0, x1, x2, x3, x4, x5, x6⟩ := hp1.cells
    obtain ⟨m2, h2⟩ := aw2 l0 [0, 0, 0, 0] m0 hl0
    have hv2 := hp1.vread HPK.out (a := 2) (by rw [HN0.out]; omega) (by omega)
    rw [HCH.out, h2, show ((2 : Nat) : Int) = 2 from rfl] at hv2
    have HV2 := Lib.hid hv2
    clear hv2 h2 hp1
    generalize ((cpL [0, 0, 0, 0] 0 l0 0 4)[2]?.getD 0) = y2 at *
    have hf2 : (cpL [0, 0, 0, 0] 0 l0 0 4).length = 4 := by rw [cpL_length]; rfl
    generalize (cpL [0, 0, 0, 0] 0 l0 0 4) = f2 at *
    go_upto_region 6 with (go_at_call 22; (with_reducible refine HV2.out.mono ?_); rintro e w2 ⟨rfl, -, hp2, -⟩)
    clear HV2 x0 x1 x2 x3 x4 x5 x6
    obtain ⟨x0, x1, x2, x3, x4, x5, x6⟩ := hp2.cells
    obtain ⟨m3, h3⟩ := aw3 l0 f2 m2 hl0 9
    have hv3 := hp2.vwrite HPK.out (a := 1) (v := 9) (by rw [HN0.out]; omega) (by omega) (by omega)
    rw [HCH.out, HMD.out, show decide ((2 : Int) = 2) = true from rfl, h3, show ((1 : Nat) : Int) = 1 from rfl, show ((9 : Nat) : Int) = 9 from rfl] at hv3
    have HV3 := Lib.hid hv3
    clear hv3 h3 hp2
    go_upto_region 7 with (go_at_call 31; (with_reducible refine HV3.out.mono ?_); rintro e w3 ⟨rfl, hp3, -⟩)
    clear HV3 x0 x1 x2 x3 x4 x5 x6
    obtain ⟨x0, x1, x2, x3, x4, x5, x6⟩ := hp3.cells
    have hf3 : (f2.set 1 9)[1]? = some 9 := List.getElem?_set_self (by rw [hf2]; omega)
    have hv4 := hp3.vread HPK.out (a := 1) (by rw [HN0.out]; omega) (by omega)
    rw [HCH.out, aw4 l0 (f2.set 1 9) m3 hl0, hf3, Option.getD_some, show ((1 : Nat) : Int) = 1 from rfl, show ((9 : Nat) : Int) = 9 from rfl] at hv4
    have HV4 := Lib.hid hv4
    clear hv4 hp3
    generalize f2.set 1 9 = f3 at *
    go_upto_region 8 with (go_at_call 22; (with_reducible refine HV4.out.mono ?_); rintro e w4 ⟨rfl, -, hp4, -⟩)
    clear HV4 x0 x1 x2 x3 x4 x5 x6 hf2
    obtain ⟨x0, x1, x2, x3, x4, x5, x6⟩ := hp4.cells
    have HV5 := Lib.hid hp4.vstate
    have HP4 := Lib.hid hp4
    clear hp4
    go_upto_region 9 with (go_at_call 26; (with_reducible refine HV5.out.mono ?_); rintro e w5 ⟨⟨v, rfl, A, n, c, m, B, d, rfl, hn, hm, hS, hM⟩, hb5⟩; unfold csV)
    have hn1 : n = 1 := hn.symm
    subst hn1
    obtain ⟨a, ca, hA, hal, hau⟩ := hS.form (by omega)
    injection hA with hA _ _
    subst hA
    obtain ⟨b', o', e', -, hcc⟩ := scs_read (Reads.of_own hS) (by decide)
    injection e' with e'
    injection e' with e1 e2
    subst e1
    subst e2
    obtain ⟨-, hd, -, -⟩ := hcc 0 ⟨true, true, 0, 3⟩ rfl
    have hba : Below w5.heap.size w5 (w5.alloc (.cells #[.slice (some ⟨a, 0, none⟩) 1 c, .int .i64 ax5.clk, .slice B m d] 58)) := (Below.refl _ w5).alloc (Nat.le_refl _) _
    have hbox := (Cs.new w5 58 #[.slice (some ⟨a, 0, none⟩) 1 c, .int .i64 ax5.clk, .slice B m d]).cell 0
    have hsz6 : (w5.alloc (.cells #[.slice (some ⟨a, 0, none⟩) 1 c, .int .i64 ax5.clk, .slice B m d] 58)).heap.size = w5.heap.size + 1 := by simp
    have hd6 := (hba.cell (p := ⟨a, 1, none⟩) (by simpa using hau)).trans hd
    have hp6 := HP4.out.more (hb5.trans (hba.mono hb5.size)) (Y := fun j => j = a ∨ j = w5.heap.size) (by
      have := hb5.size
      rintro j (rfl | rfl)
      · exact .inr ⟨hal, by omega⟩
      · exact .inr ⟨this, by omega⟩)
    clear hba hd hcc hS hM hm hb5 HP4 HV5 hn x0 x1 x2 x3 x4 x5 x6
    generalize hbx : w5.heap.size = bx at *
    change Code.wp _ _ _ _ _
    generalize (w5.alloc (.cells #[.slice (some ⟨a, 0, none⟩) 1 c, .int .i64 ax5.clk, .slice B m d] 58)) = w6 at *
    have hlA : a < w6.heap.size := by omega
    have hlB : bx < w6.heap.size := by omega
    clear hbx hal hau hsz6
    obtain ⟨x0, x1, x2, x3, x4, x5, x6⟩ := hp6.cells
    obtain ⟨m7, h7⟩ := aw5 l0 f3 m3
    have hv7 := hp6.vclean HPK.out 5 (by omega) (by omega)
    rw [HCH.out, h7, show ((5 : Nat) : Int) = 5 from rfl] at hv7
    have HV7 := Lib.hid hv7
    clear hv7 h7 hp6
    go_upto_region 10 with (go_at_call 47; (with_reducible refine HV7.out.mono ?_); rintro e w7 ⟨rfl, hp7, hf7⟩)
    have hb7 := (Frx.cell hf7 (i := 0) (.inr rfl) hlB).trans hbox
    have hd7 := (Frx.cell hf7 (i := 1) (.inl rfl) hlA).trans hd6
    have hs7 := hf7.size
    clear HV7 x0 x1 x2 x3 x4 x5 x6 hbox hd6 hf7
    obtain ⟨x0, x1, x2, x3, x4, x5, x6⟩ := hp7.cells
    have HV8 := Lib.hid (hp7.vflush (by omega))
    clear hp7
    go_upto_region 11 with (go_at_call 34; (with_reducible refine HV8.out.mono ?_); rintro e w8 ⟨rfl, hp8, hf8⟩)
    have hb8 := (Frx.cell hf8 (i := 0) (.inr rfl) (by omega)).trans hb7
    have hd8 := (Frx.cell hf8 (i := 1) (.inl rfl) (by omega)).trans hd7
    have hs8 := hf8.size
    clear HV8 x0 x1 x2 x3 x4 x5 x6 hb7 hd7 hf8
    obtain ⟨x0, x1, x2, x3, x4, x5, x6⟩ := hp8.cells
    obtain ⟨F, S, hdk, hsp, hnf, hno, -, -, -⟩ := hp8.dsk
    obtain ⟨r1, r2⟩ := rd_out hnf.hea hnf.dn (i := 0) (n := C.n0) rfl 1 (by rw [HN0.out]; omega)
    dsimp only at hno
    rw [hno, cpL_at, if_pos ⟨by omega, by omega, by rw [hl0]; omega⟩, hf3, Option.getD_some] at r2
    injection r2 with r2
    rw [show ((1 : Nat) : Int) = 1 from rfl] at r1 r2
    have HR1 := Lib.hid r1
    have HR2 : Hid (S.sread 0 C.n0 1 = 9) := r2.symm
    have HD8 := Lib.hid hdk
    have HSP := Lib.hid hsp
    have HP8 := Lib.hid hp8
    clear r1 r2 hdk hsp hnf hno hp8 x0 x3 x5 x6
    go_wp2_with (first
      | (go_at_call 190; refine (sread_any w8 F C.g C.s0 0 C.n0 S 1 HD8.out HSP.out (by rw [HN0.out]; omega)).mono ?_; rintro e w9 ⟨rfl, hb9⟩; rw [HR1.out, HR2.out]; have HP9 := Lib.hid (HP8.out.keep hb9); have yb := (hb9.cell (p := ⟨bx, 0, none⟩) (by show bx < _; omega)).trans hb8; have yd := (hb9.cell (p := ⟨a, 1, none⟩) (by show a < _; omega)).trans hd8; have hs9 := hb9.size)
      | (go_at_call 16; refine (words2_any 8 3 w9 (by omega)).mono ?_; rintro e w10 ⟨v10, rfl, ho10, hb10⟩; obtain ⟨b10, c10, hv10, -, -⟩ := ho10.form (by omega); subst hv10; rw [HE0.out] at ho10; have z1 := ho10.cellAt 1 (by omega); rw [uv_at _ _ (by rw [hl0]; omega)] at z1; have HP10 := Lib.hid (HP9.out.keep hb10); have zb := (hb10.cell (p := ⟨bx, 0, none⟩) (by show bx < _; omega)).trans yb; have zd := (hb10.cell (p := ⟨a, 1, none⟩) (by show a < _; omega)).trans yd; have z2 := HP10.out.cells.2.2.1)
      | (go_at_call 25; refine (HP10.out.vdetach HPK.out (by omega)).mono ?_; rintro e w11 ⟨rfl, hp11, -⟩; have HP11 := Lib.hid hp11; have z3 := HP11.out.cells.2.2.1)
      | (go_at_call 23; refine (HP11.out.vclose HPK.out (by have := HCH.out; simp only [List.length_cons, List.length_nil]; omega)).mono ?_; rintro e w12 ⟨rfl, hp12, -⟩; have HP12 := Lib.hid hp12; have z4 := HP12.out.cells.2.2.1)
      | (go_at_call 34; refine HP12.out.vflush.mono ?_; rintro e w' ⟨rfl, rfl⟩))
    go_ret
    exact ⟨rfl, HP12.out.bel⟩

end Go.Proofs.YtogchafnnkajfaaGreat

namespace Go.Proofs.YtogchafnnkajfaaGreat
set_option linter.unusedVariables false
open Go.RowKit
attribute [local go_sem] Oper.semAt_some

/-- A number from 1 to 3 out of any. -/
theorem one3 (T : Int) (hT : -3 < T ∧ T < 3) : ∃ x : Nat, IntKind.i64.wrap (T + 3) = T + 3 ∧ IntKind.i64.wrap (1 + (T + 3).tmod 3) = (x : Int) ∧ 1 ≤ x ∧ x ≤ 3 := by
  have u4 := Int.tmod_lt_of_pos (T + 3) (b := (3 : Int)) (by omega)
  have u5 := Int.tmod_nonneg (3 : Int) (show 0 ≤ T + 3 by omega)
  generalize (T + 3).tmod 3 = V at *
  exact ⟨(1 + V).toNat, IntWalk.i64_in _ (by omega), by rw [IntWalk.i64_in _ (by omega)]; omega, by omega, by omega⟩

set_option maxRecDepth 100000 in
set_option maxHeartbeats 4000000 in
theorem back33_any (As : Option Addr) (n c : Nat) (ls : List Stp) (x : Int) (W : World) (hn : ls.length = n) (hs : Reads W As (svs ls)) (hok : StpOk ls) :
    Calls Tryz.prog 7 #[.slice As n c, .int .i64 x] W fun e w' => e = .returned (.bool true) ∧ Below W.heap.size W w' := by
  have HN := Lib.hid hn
  have HS := Lib.hid hs
  have HOK := Lib.hid hok
  have HAW := Lib.hid (awake33_any W)
  clear hn hs hok
  go_enter Tryz.func7, Tryz.ntmps7
  go_wp2_with fail
  refine (few_any As n c W).mono ?_
  rintro e W0 ⟨rfl, rfl⟩
  by_cases h24 : n ≤ 24
  · have d1 : decide (n ≤ 24) = true := by simpa using h24
    obtain ⟨T, hT⟩ : ∃ T, x.tmod 3 = T := ⟨_, rfl⟩
    obtain ⟨a, u1, u2, ha1, ha2⟩ := one3 T (by rw [← hT]; exact ⟨Int.lt_tmod_of_pos x (by omega), Int.tmod_lt_of_pos x (by omega)⟩)
    obtain ⟨D, hD⟩ : ∃ D, IntKind.i64.wrap (x.tdiv 3) = D := ⟨_, rfl⟩
    obtain ⟨U, hU⟩ : ∃ U, D.tmod 3 = U := ⟨_, rfl⟩
    obtain ⟨b, v1, v2, hb1, hb2⟩ := one3 U (by rw [← hU]; exact ⟨Int.lt_tmod_of_pos D (by omega), Int.tmod_lt_of_pos D (by omega)⟩)
    generalize hV : (T + 3).tmod 3 = V at *
    generalize hV2 : (U + 3).tmod 3 = V2 at *
    go_wp2_with fail
    have hba : Below W.heap.size W (W.alloc (.cells #[.int .i64 2] 3)) := (Below.refl _ W).alloc (Nat.le_refl _) _
    have hmv : Reads (W.alloc (.cells #[.int .i64 2] 3)) (some ⟨W.heap.size, 0, none⟩) (iv [2]) := Reads.new W #[.int .i64 2] 3
    refine (sound33_any As (some ⟨W.heap.size, 0, none⟩) n c 1 1 ls [2] a b (W.alloc (.cells #[.int .i64 2] 3)) HN.out h24 (HS.out.keep hba) HOK.out rfl hmv (by simp) (by omega) (by omega) (by omega)).mono ?_
    rintro e w2 ⟨rfl, hb2⟩
    have hb := hba.trans (hb2.mono hba.size)
    have HAW2 := Lib.hid (awake33_any w2)
    clear hba hmv hb2
    go_wp2_with (go_at_call 18; refine HAW2.out.mono ?_; rintro e w3 ⟨rfl, hb3⟩)
    go_ret
    exact ⟨rfl, hb.trans (hb3.mono hb.size)⟩
  · have d1 : decide (n ≤ 24) = false := by simpa using h24
    go_wp2_with (go_at_call 18; refine HAW.out.mono ?_; rintro e w3 ⟨rfl, hb3⟩)
    go_ret
    exact ⟨rfl, hb3⟩

set_option maxRecDepth 100000 in
set_option maxHeartbeats 4000000 in
theorem thru33_any (As : Option Addr) (n c : Nat) (ls : List Stp) (x : Int) (mixed : Bool) (W : World) (hn : ls.length = n) (hs : Reads W As (svs ls)) (hok : StpOk ls) :
    Calls Tryz.prog 8 #[.slice As n c, .int .i64 x, .bool mixed] W fun e w' => e = .returned (.bool true) ∧ Below W.heap.size W w' := by
  have HN := Lib.hid hn
  have HS := Lib.hid hs
  have HOK := Lib.hid hok
  have HAW := Lib.hid (awake33_any W)
  clear hn hs hok
  go_enter Tryz.func8, Tryz.ntmps8
  go_wp2_with fail
  refine (few_any As n c W).mono ?_
  rintro e W0 ⟨rfl, rfl⟩
  by_cases h24 : n ≤ 24
  · have d1 : decide (n ≤ 24) = true := by simpa using h24
    obtain ⟨T, hT⟩ : ∃ T, x.tmod 3 = T := ⟨_, rfl⟩
    obtain ⟨a, u1, u2, ha1, ha2⟩ := one3 T (by rw [← hT]; exact ⟨Int.lt_tmod_of_pos x (by omega), Int.tmod_lt_of_pos x (by omega)⟩)
    obtain ⟨D, hD⟩ : ∃ D, IntKind.i64.wrap (x.tdiv 3) = D := ⟨_, rfl⟩
    obtain ⟨U, hU⟩ : ∃ U, D.tmod 3 = U := ⟨_, rfl⟩
    obtain ⟨b, v1, v2, hb1, hb2⟩ := one3 U (by rw [← hU]; exact ⟨Int.lt_tmod_of_pos D (by omega), Int.tmod_lt_of_pos D (by omega)⟩)
    generalize hV : (T + 3).tmod 3 = V at *
    generalize hV2 : (U + 3).tmod 3 = V2 at *
    have hba : Below W.heap.size W (W.alloc (.cells #[.int .i64 1] 3)) := (Below.refl _ W).alloc (Nat.le_refl _) _
    cases mixed
    · go_wp2_with fail
      have hmv : Reads (W.alloc (.cells #[.int .i64 1] 3)) (some ⟨W.heap.size, 0, none⟩) (iv [1]) := Reads.new W #[.int .i64 1] 3
      refine (sound33_any As (some ⟨W.heap.size, 0, none⟩) n c 1 1 ls [1] a b (W.alloc (.cells #[.int .i64 1] 3)) HN.out h24 (HS.out.keep hba) HOK.out rfl hmv (by simp) (by omega) (by omega) (by omega)).mono ?_
      rintro e w2 ⟨rfl, hb2⟩
      have hb := hba.trans (hb2.mono hba.size)
      have HAW2 := Lib.hid (awake33_any w2)
      clear hba hmv hb2
      go_wp2_with (go_at_call 18; refine HAW2.out.mono ?_; rintro e w3 ⟨rfl, hb3⟩)
      go_ret
      exact ⟨rfl, hb.trans (hb3.mono hb.size)⟩
    · go_wp2_with fail
      have hsz : (W.alloc (.cells #[.int .i64 1] 3)).heap.size = W.heap.size + 1 := by simp
      generalize (W.alloc (.cells #[.int .i64 1] 3)) = W1 at *
      have hbb := hba.alloc hba.size (.cells #[.int .i64 1, .int .i64 2, .int .i64 2] 3)
      have hmv : Reads (W1.alloc (.cells #[.int .i64 1, .int .i64 2, .int .i64 2] 3)) (some ⟨W1.heap.size, 0, none⟩) (iv [1, 2, 2]) := Reads.new W1 #[.int .i64 1, .int .i64 2, .int .i64 2] 3
      have HBB := Lib.hid hbb
      have HMV := Lib.hid hmv
      clear hbb hmv
      rw [← hsz]
      clear hsz
      refine (sound33_any As (some ⟨W1.heap.size, 0, none⟩) n c 3 3 ls [1, 2, 2] a b _ HN.out h24 (HS.out.keep HBB.out) HOK.out rfl HMV.out (by simp) (by omega) (by omega) (by omega)).mono ?_
      rintro e w2 ⟨rfl, hb2⟩
      have hb := HBB.out.trans (hb2.mono HBB.out.size)
      have HAW2 := Lib.hid (awake33_any w2)
      clear hba hb2 HBB HMV
      go_wp2_with (go_at_call 18; refine HAW2.out.mono ?_; rintro e w3 ⟨rfl, hb3⟩)
      go_ret
      exact ⟨rfl, hb.trans (hb3.mono hb.size)⟩
  · have d1 : decide (n ≤ 24) = false := by simpa using h24
    go_wp2_with (go_at_call 18; refine HAW.out.mono ?_; rintro e w3 ⟨rfl, hb3⟩)
    go_ret
    exact ⟨rfl, hb3⟩

end Go.Proofs.YtogchafnnkajfaaGreat

namespace Go.Proofs.YtogchafnnkajfaaGreat
set_option linter.unusedVariables false
open Go.RowKit Go.ChangeShapes Go.WideShapes Go.Deep

theorem step_cells : Tryz.prog.cellsOf 134 = 4 := by kernel_rfl
theorem int_cells : Tryz.prog.cellsOf 3 = 1 := by kernel_rfl
theorem u64_cells : Tryz.prog.cellsOf 26 = 1 := by kernel_rfl

theorem step_one {H : Type} {enc : TypeId × Value → H} {w : World} {base : Nat} {spare : Nat → Bool} {held : Bool} {n : Nat} {cs : List Value} {x : DataW H × List MemPlace}
    (h : DataW.trod enc Tryz.prog w base spare held n 134 cs = some x) : ∃ s : Stp, cs = s.cells ∧ StpOk [s] := by
  obtain ⟨xs, n', -, -, hlen, hxl, hg⟩ := DataW.trod_struct Tryz.underlying134 h
  have hxl : xs.length = 4 := hxl
  rw [step_cells] at hlen
  obtain ⟨c0, c1, c2, c3, rfl⟩ : ∃ c0 c1 c2 c3, cs = [c0, c1, c2, c3] := by
    rcases cs with _ | ⟨c0, _ | ⟨c1, _ | ⟨c2, _ | ⟨c3, _ | ⟨c4, r⟩⟩⟩⟩⟩ <;> simp at hlen
    exact ⟨c0, c1, c2, c3, rfl⟩
  obtain ⟨n0, e0, -, w0⟩ := DataW.trod_int (k := .i64) Tryz.underlying3 ((hg 0 _ rfl).trans (List.getElem?_eq_getElem (by omega)))
  obtain ⟨n1, e1, -, w1⟩ := DataW.trod_int (k := .i64) Tryz.underlying3 ((hg 1 _ rfl).trans (List.getElem?_eq_getElem (by omega)))
  obtain ⟨n2, e2, -, w2⟩ := DataW.trod_int (k := .u64) Tryz.underlying26 ((hg 2 _ rfl).trans (List.getElem?_eq_getElem (by omega)))
  obtain ⟨n3, e3, -, w3⟩ := DataW.trod_int (k := .u64) Tryz.underlying26 ((hg 3 _ rfl).trans (List.getElem?_eq_getElem (by omega)))
  simp [int_cells] at e0 e1
  simp [u64_cells] at e2 e3
  subst e0; subst e1; subst e2; subst e3
  have v2 := wf_u64 w2
  have v3 := wf_u64 w3
  have v1 := bounds_i64 w1
  refine ⟨⟨n0, n1, n2.toNat, n3.toNat⟩, ?_, ?_⟩
  · show _ = [Value.int .i64 n0, .int .i64 n1, .int .u64 (n2.toNat : Int), .int .u64 (n3.toNat : Int)]
    rw [show ((n2.toNat : Nat) : Int) = n2 by omega, show ((n3.toNat : Nat) : Int) = n3 by omega]
  · intro y hy
    rw [List.mem_singleton] at hy
    subst hy
    exact ⟨by dsimp only; omega, by dsimp only; omega, by dsimp only; omega⟩

theorem svs_snoc (l : List Stp) (s : Stp) : svs (l ++ [s]) = svs l ++ s.cells := by simp [svs]

theorem steps_row {H : Type} {enc : TypeId × Value → H} {w : World} {base : Nat} {spare : Nat → Bool} {held : Bool} {n : Nat} {cs : List Value} {x : DataW H × List MemPlace}
    (h : DataW.trod enc Tryz.prog w base spare held n 69 cs = some x) : ∃ (A : Option Addr) (len cap : Nat) (ls : List Stp), cs = [.slice A len cap] ∧ ls.length = len ∧ StpOk ls ∧ Reads w A (svs ls) := by
  rcases open_slice Tryz.underlying69 h with ⟨rfl, -⟩ | ⟨a, len, cap, m, n', D, Pl, rfl, -, hl, -, hmm, -, hi⟩
  · exact ⟨none, 0, 0, [], rfl, rfl, (fun x hx => by cases hx), Reads.nil⟩
  · have hlm : len ≤ m := by rw [hmm]; split <;> omega
    have key : ∀ k, k ≤ len → ∃ ls : List Stp, ls.length = k ∧ StpOk ls ∧ ∀ q v, (svs ls)[q]? = some v → w.cell? (a.add q) = some v := by
      intro k
      induction k with
      | zero => exact fun _ => ⟨[], rfl, (fun x hx => by cases hx), fun q v hq => by simp [svs] at hq⟩
      | succ k ih =>
        intro hk
        obtain ⟨ls, hls, hok, hc⟩ := ih (by omega)
        obtain ⟨cs', hcs, ht⟩ := hi k (by omega)
        obtain ⟨s, rfl, hs⟩ := step_one ht
        rw [step_cells] at hcs
        obtain ⟨-, -, hat⟩ := World.cells?_some hcs
        refine ⟨ls ++ [s], by simp [hls], fun y hy => ?_, fun q v hq => ?_⟩
        · rcases List.mem_append.1 hy with hy | hy
          · exact hok y hy
          · exact hs y hy
        · rw [svs_snoc] at hq
          by_cases hlt : q < (svs ls).length
          · rw [List.getElem?_append_left hlt] at hq
            exact hc q v hq
          · rw [List.getElem?_append_right (by omega)] at hq
            rw [svs_length, hls] at hq hlt
            obtain ⟨j, hj⟩ : ∃ j, q = k * 4 + j := ⟨q - k * 4, by omega⟩
            subst hj
            rw [show k * 4 + j - k * 4 = j by omega] at hq
            have hj4 : j < 4 := (List.getElem?_eq_some_iff.1 hq).1
            rw [← Go.Deep.add_add, hat j hj4, hq]
    obtain ⟨ls, hls, hok, hc⟩ := key len (Nat.le_refl _)
    refine ⟨some a, len, cap, ls, rfl, hls, hok, fun hz => ?_⟩
    obtain ⟨v0, hv0⟩ : ∃ v, (svs ls)[0]? = some v := ⟨_, List.getElem?_eq_getElem (by omega)⟩
    have h0 := hc 0 v0 hv0
    obtain ⟨b, off, rfl⟩ := addr_plain (show w.cell? (a.add 0) = _ from h0)
    exact ⟨b, off, rfl, World.block_lt_of_cell? _ _ h0, fun i v hi => by have := hc i v hi; rw [Addr.add_lit] at this; exact this⟩

end Go.Proofs.YtogchafnnkajfaaGreat
