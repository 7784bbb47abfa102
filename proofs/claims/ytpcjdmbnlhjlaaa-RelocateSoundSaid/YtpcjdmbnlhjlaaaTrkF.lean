/-
  Soundness of a device that is given by its contracts: Track.Again.
-/
import Derived.Test.YtpcjdmbnlhjlaaaTrkE
import Derived.BigQuiet
import Derived.Deep.QuietTactic
namespace Go.Proofs.Ytpcjdmbnlhjlaaa
set_option linter.unusedVariables false
open Go.RowKit
attribute [local go_sem] Oper.semAt_some d_read d_write d_flush d_size

theorem own_ge {w : World} {base size n : Nat} {e : TypeId} {v : Value} {xs : List Value} (h : w.ownsRow base e size v n xs) (b : Nat) (hb : v.ownBlock = some b) : base ≤ b := by
  rcases h.2 with ⟨rfl, _⟩ | ⟨g, cap, cur, rfl, hg, _⟩
  · simp [Value.ownBlock] at hb
  · obtain rfl : g = b := by simpa [Value.ownBlock] using hb
    exact hg

theorem Turn.drewN' {F F' : Nat → Prop} {W W' : World} (h : Turn F F' W W') (q : Nat) : Turn F F' W (W'.drewN q) := ⟨h.1.drewN q, h.2⟩

section
variable {B n L ga : Nat} {D : World → (Nat → Prop) → List Sec → Bool → Nat → Nat → Prop} {Z : World → (Nat → Prop) → List Sec → Nat → Prop}
theorem DTr.drewN {fO : Nat} {oa : Array Value} {w : World} {F G : Nat → Prop} {t : List Sec} {k : Bool} {c p tb : Nat} (C : DevC B n L ga fO oa D Z) (h : DTr D B n w F G t k c p tb) (q : Nat) : DTr D B n (w.drewN q) F G t k c p tb :=
  ⟨C.dfr h.d ((Fr.refl (fun _ => False) w).drewN q) (fun _ _ h => h) (fun _ h => h.elim), h.tr.fr ((Fr.refl (fun _ => False) w).drewN q) (fun _ _ h => h), h.dj, h.tl, h.sm, h.gb, h.wb⟩

set_option maxRecDepth 100000 in
set_option maxHeartbeats 4000000 in
theorem again_any (op : Nat) {w : World} {F G : Nat → Prop} {t : List Sec} {k : Bool} {c p tb : Nat} (C : DevC B n L ga 29 #[.pointer (some ⟨op, 0, none⟩)] D Z) (h : DTr D B n w F G t k c p tb) (hn : n ≤ 1000) (hc : c + n + 2 ≤ L) (hL : L ≤ 90000) (kw : Nat) (hkw : kw < 18446744073709551616) :
    Calls Try.prog 49 #[.pointer (some ⟨tb, 0, none⟩), .pointer (some ⟨ga, 0, none⟩), .func (.func 29) #[.pointer (some ⟨op, 0, none⟩)] #[], .int .u64 (kw : Int)] w fun e w' => ∃ p' F' G' t', e = .returned (.tuple #[.iface 61 (.pointer (some ⟨p', 0, none⟩)), .bool true]) ∧ DTr D B n w' F' G' t' true (c + n + 2) p' tb ∧ Turn (FU F G) (FU F' G') w w' := by
  have HH := Lib.hid h
  have HC := Lib.hid C
  have htl := h.tl
  clear h C
  go_enter Try.func49, Try.ntmps49
  go_wp2_with fail
  refine (failed_any w G tb t HH.out.tr (by omega)).mono ?_
  rintro e w1 ⟨rfl, htr1, hf1⟩
  have ht1 : Turn G G w w1 := ⟨hf1, fun j hj => .inl hj⟩
  obtain ⟨G1, hG1⟩ : ∃ G1 : Nat → Prop, G1 = G := ⟨_, rfl⟩
  have hG2 := hG1.symm
  rw [show Turn G G w w1 = Turn G G1 w w1 by rw [hG1]] at ht1
  rw [← hG1] at htr1
  clear hG1 hG2 hf1
  have gb1 : ∀ j, G1 j → B ≤ j := ht1.ge HH.out.wb HH.out.gb
  have wb1 : B ≤ w1.heap.size := Nat.le_trans HH.out.wb ht1.1.size
  obtain ⟨hd1, dj1⟩ := dev_trk HC.out HH.out.d HH.out.dj HH.out.gb ht1
  have HD1 := Lib.hid hd1
  have HT1 := Lib.hid (ht1.right (F := F))
  have HR1 := Lib.hid htr1
  have HJ1 := Lib.hid dj1
  clear ht1 hd1 htr1 dj1
  go_wp2_with fail
  refine (keep_any kw w1 hkw).mono ?_
  rintro e w2 ⟨v, bs, rfl, ho, hbl, hb2⟩
  obtain ⟨A, cc, rfl⟩ := own_form ho
  obtain ⟨htr2, dj2⟩ := trk_dev HR1.out HJ1.out (Turn.of_below (F := FT F w) hb2)
  have hd2 := HC.out.dfr (HC.out.dti HD1.out) (Fr.of_below (G := fun _ => False) hb2) (fun _ _ h => h) (fun _ h => h.elim)
  have wb2 : B ≤ w2.heap.size := Nat.le_trans wb1 hb2.size
  have hap : ∀ b, (Value.slice A 192 cc).ownBlock = some b → ¬ FT (FT F w) w1 b := fun b hb hf => by have := own_ge ho b hb; have := hf.2; omega
  have HD2 := Lib.hid hd2
  have HT2 := Lib.hid (HT1.out.trans (Turn.of_below (F := FU (FT F w) G1) hb2))
  have HR2 := Lib.hid htr2
  have HJ2 : Hid (∀ j, FT (FT F w) w1 j → ¬ FT G1 w1 j) := fun j hj hg => HJ1.out j hj.1 hg.1
  have HO := Lib.hid ho
  have HAP := Lib.hid hap
  clear ho hb2 htr2 dj2 hd2 hap HD1 HR1
  go_wp2_with fail
  refine (HC.out.restart A cc _ bs HD2.out (by omega) HO.out hbl HAP.out).mono ?_
  rintro e w3 ⟨rfl, F3, ht3, hz3⟩
  obtain ⟨htr3, dj3⟩ := trk_dev HR2.out HJ2.out ht3
  have wb3 : B ≤ w3.heap.size := Nat.le_trans wb2 ht3.1.size
  have HZ3 := Lib.hid hz3
  have HT3 : Hid (Turn (FU F G) (FU F3 (FT (FT G1 w1) w2)) w w3) := by
    refine HT2.out.trans ⟨ht3.1.mono (fun j _ hj => .inl hj.1), fun j hj => hj.elim (fun a => (ht3.2 j a).elim (fun b => .inl (.inl b.1)) .inr) (fun a => .inl (.inr a.1.1))⟩
  have HR3 := Lib.hid htr3
  have HJ3 := Lib.hid dj3
  clear hz3 htr3 dj3 ht3 HD2 HR2 HJ2 HO HAP HJ1 HT1 HT2 hbl
  go_wp2_with fail
  refine (HC.out.opens HZ3.out (by omega)).mono ?_
  rintro e w4 ⟨p4, F4, rfl, ht4, hd4⟩
  obtain ⟨htr4, dj4⟩ := trk_dev HR3.out HJ3.out ht4
  have HT4 := Lib.hid (HT3.out.trans (ht4.left (G := FT (FT G1 w1) w2)))
  have h4 : DTr D B n w4 F4 (FT (FT (FT G1 w1) w2) w3) (tFailed t) true (c + 2) p4 tb := ⟨hd4, htr4, dj4, by unfold tFailed; rw [List.length_map]; exact htl, fun a => by have := sm_failed HH.out.sm a; omega, fun j hj => gb1 j hj.1.1.1, Nat.le_trans wb3 ht4.1.size⟩
  obtain ⟨rb, cap, c4⟩ := htr4.len
  rw [h4.tl] at c4
  have H4 := Lib.hid h4
  have HS := Lib.hid (fun q => HC.out.size (HC.out.dfr hd4 ((Fr.refl (fun _ => False) w4).drewN q) (fun _ _ h => h) (fun _ h => h.elim)))
  clear hd4 htr4 dj4 ht4 h4 HZ3 HR3 HJ3 HT3
  go_wp2_with fail
  go_quiet ((go_at_call 86; exact Calls.quiet_of (HS.out _)))
  clear c4 HS
  go_wp2_with fail
  refine (all_any HC.out (DTr.drewN HC.out H4.out _) hn (by omega) hL).mono ?_
  rintro e w5 ⟨rfl, F5, G5, t5, h5, ht5⟩
  go_wp2_with fail
  go_ret2
  refine ⟨p4, F5, G5, t5, rfl, by rw [show c + n + 2 = c + 2 + n by omega]; exact h5, HT4.out.trans ((Turn.drewN' (Turn.refl _ w4) _).trans ht5)⟩
end

end Go.Proofs.Ytpcjdmbnlhjlaaa
