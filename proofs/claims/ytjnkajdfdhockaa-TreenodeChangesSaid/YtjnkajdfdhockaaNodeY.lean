/-
  law25.awake.
-/
import Derived.Test.YtjnkajdfdhockaaNodeX
import Derived.Test.YtjnkajdfdhockaaNodeS
namespace Go.Proofs.Ytjnkajdfdhockaa
set_option linter.unusedVariables false
open Go.RowKit

theorem own_cap {w : World} {base n c : Nat} {e : TypeId} {size : Nat} {A : Option Addr} {xs : List Value} (h : w.ownsRow base e size (.slice A n c) n xs) : n ≤ c := by
  rcases h.2 with ⟨h1, h2⟩ | ⟨g, cap, cur, h1, _, _, h3, _⟩
  · omega
  · injection h1 with _ _ h1; omega

/-- What a law's walk holds of memory: blocks that are known whole, slices that read as lists; nothing older has changed. -/
def Env (w W : World) (cs : List (Nat × TypeId × Array Value)) (rs : List (Option Addr × List Value)) : Prop :=
  Below w.heap.size w W ∧ (∀ c ∈ cs, Cs W c.1 c.2.1 c.2.2) ∧ (∀ r ∈ rs, Reads W r.1 r.2)
theorem Env.keep {w W W' : World} {cs : List (Nat × TypeId × Array Value)} {rs : List (Option Addr × List Value)} (h : Env w W cs rs) (hb : Below W.heap.size W W') : Env w W' cs rs :=
  ⟨h.1.trans (hb.mono h.1.size), fun c hc => (h.2.1 c hc).below hb (h.2.1 c hc).lt, fun r hr => (h.2.2 r hr).keep hb⟩
theorem Env.start {w W : World} (h : Below w.heap.size w W) : Env w W [] [] := ⟨h, (fun c hc => absurd hc (by simp)), (fun r hr => absurd hr (by simp))⟩
theorem Env.alloc {w W : World} {cs : List (Nat × TypeId × Array Value)} {rs : List (Option Addr × List Value)} (h : Env w W cs rs) (o : Obj) : Env w (W.alloc o) cs rs := h.keep ((Below.refl _ W).alloc (Nat.le_refl _) o)
theorem Env.cons {w W : World} {cs : List (Nat × TypeId × Array Value)} {rs : List (Option Addr × List Value)} (h : Env w W cs rs) {g : Nat} {t : TypeId} {a : Array Value} (hc : Cs W g t a) : Env w W ((g, t, a) :: cs) rs :=
  ⟨h.1, (fun c hm => (List.mem_cons.1 hm).elim (fun e => by rw [e]; exact hc) (h.2.1 c)), h.2.2⟩
theorem Env.row {w W : World} {cs : List (Nat × TypeId × Array Value)} {rs : List (Option Addr × List Value)} (h : Env w W cs rs) {A : Option Addr} {xs : List Value} (hr : Reads W A xs) : Env w W cs ((A, xs) :: rs) :=
  ⟨h.1, h.2.1, (fun r hm => (List.mem_cons.1 hm).elim (fun e => by rw [e]; exact hr) (h.2.2 r))⟩
theorem Env.new {w W : World} {cs : List (Nat × TypeId × Array Value)} {rs : List (Option Addr × List Value)} (h : Env w W cs rs) (t : TypeId) (a : Array Value) : Env w (W.alloc (.cells a t)) ((W.heap.size, t, a) :: cs) rs := (h.alloc _).cons (Cs.new W t a)

theorem reads_at {W : World} {g : Nat} {E : List Nat} (h : Reads W (some ⟨g, 0, none⟩) (uv E)) (i : Nat) (hi : i < E.length) : W.cell? ⟨g, i, none⟩ = some (.int .u64 ((E[i]?.getD 0 : Nat) : Int)) := by
  obtain ⟨b, off, e, _, hc⟩ := h.u (by omega)
  simp only [Option.some.injEq, Addr.mk.injEq] at e
  obtain ⟨rfl, rfl, _⟩ := e
  have := hc i hi
  rwa [Nat.zero_add] at this

set_option maxRecDepth 100000 in
set_option maxHeartbeats 1000000 in
theorem awake_any (w : World) : Calls Try.prog 17 #[] w fun e w' => e = .returned (.bool true) ∧ Below w.heap.size w w' := by
  have hv : validN 0 0 [(5, 7)] = 0 := by decide
  have hE : E64 [(5, 7)] := (by
    intro p hp
    have h : p = (5, 7) := (by simpa using hp)
    rw [h]
    exact ⟨by decide, by decide, by decide⟩)
  have hdec := decode_enc 0 0 [(5, 7)] 3 hE hv (by decide) (by decide)
  have hsl := sealed_enc 0 0 [(5, 7)] 3 3 hv (by decide) (by decide)
  rw [if_neg (by decide)] at hsl
  obtain ⟨s, hs, e1, e2, e3⟩ := enc_facts 0 0 [(5, 7)] 3 hv (by decide) (by decide)
  have hw1 : (encN 0 0 [(5, 7)] 3)[1]?.getD 0 = 5 := by rw [e3 1 (by omega)]; decide
  have hw8 : (encN 0 0 [(5, 7)] 3)[8]?.getD 0 = 7 := by rw [e3 8 (by omega)]; decide
  have hwl := encN_length 0 0 [(5, 7)] 3
  have hww := encN_w 0 0 [(5, 7)] 3 hE (by decide)
  clear e1 e2 e3 hs s
  have hfind : findN [(5, 7)] 6 = 0 := by decide
  have hex : exactN [(5, 7)] 6 = false := by decide
  have hpE : putE [(5, 7)] 6 = 0 := by decide
  have hpN : putN [(5, 7)] 6 8 = [(5, 7), (6, 8)] := by decide
  have hrE : remE [(5, 7), (6, 8)] 0 = 0 := by decide
  have hhd : ((hdN 2 0 1 3 : Nat) : Int) ≠ 0 := by unfold hdN; omega
  have hhd2 : (((hdN 2 0 1 3 : Nat) : Int) != 0) = true := by simpa using hhd
  obtain ⟨W1, hW1⟩ : ∃ W1, W1 = (w.alloc (.cells #[.int .i64 5, .int .u64 7] 52)).alloc (.cells #[.int .i64 0, .int .i64 0, .slice (some ⟨w.heap.size, 0, none⟩) 1 1] 27) := ⟨_, rfl⟩
  have hB1 : Below w.heap.size w W1 := by rw [hW1]; exact ((Below.refl _ w).alloc (Nat.le_refl _) _).alloc (by simp) _
  have hCn : Cs W1 (w.heap.size + 1) 27 #[.int .i64 0, .int .i64 0, .slice (some ⟨w.heap.size, 0, none⟩) 1 1] := by
    rw [hW1]; have := Cs.new (w.alloc (.cells #[.int .i64 5, .int .u64 7] 52)) 27 #[.int .i64 0, .int .i64 0, .slice (some ⟨w.heap.size, 0, none⟩) 1 1]
    rwa [World.size_alloc] at this
  have hRn : Reads W1 (some ⟨w.heap.size, 0, none⟩) (ev [(5, 7)]) := by
    rw [hW1]; exact Reads.alloc (Reads.new w #[.int .i64 5, .int .u64 7] 52) _
  have HW := Lib.hid hW1
  have HV := Lib.hid hv
  have HE := Lib.hid hE
  have HDEC := Lib.hid hdec
  have HSL := Lib.hid hsl
  have H1 := Lib.hid hw1
  have H8 := Lib.hid hw8
  have HWL := Lib.hid hwl
  have HFIND := Lib.hid hfind
  have HEX := Lib.hid hex
  have HPE := Lib.hid hpE
  have HPN := Lib.hid hpN
  have HRE := Lib.hid hrE
  have EN := Lib.hid (((Env.start hB1).cons hCn).row hRn)
  clear hv hdec hsl hw1 hw8 hwl hfind hex hpE hpN hrE hhd hW1 hCn hRn hE hB1
  go_enter Try.func17, Try.ntmps17
  go_wp2_with fail
  rw [← HW.out]
  -- Encode
  refine (encode_ok 0 0 3 (some ⟨w.heap.size, 0, none⟩) 1 1 [(5, 7)] W1 rfl (EN.out.2.2 (some ⟨w.heap.size, 0, none⟩, ev [(5, 7)]) (by simp)) HE.out HV.out (by decide) (by decide)).mono ?_
  rintro e W2 ⟨g, rfl, hown2, hb2⟩
  have EN2 := Lib.hid ((EN.out.keep hb2).row (Reads.of_own hown2))
  clear hown2 hb2 EN
  generalize encN 0 0 [(5, 7)] 3 = E at *
  go_wp2_with fail
  -- Decode
  refine (decode_all (some ⟨g, 0, none⟩) 16 16 E 3 W2 HWL.out (EN2.out.2.2 (some ⟨g, 0, none⟩, uv E) (by simp)) hww (by omega)).mono ?_
  rintro e W3 ⟨v3, rfl, hown3, hb3⟩
  rw [HDEC.out.1, HDEC.out.2.1, HDEC.out.2.2.1]
  rw [HDEC.out.2.2.2] at hown3
  obtain ⟨A3, c3, rfl⟩ := own_form hown3
  have EN3 := Lib.hid ((EN2.out.keep hb3).new 27 #[.int .i64 0, .int .i64 0, .slice A3 1 c3])
  have hm3 : Hid (W3.heap.size = W3.heap.size) := rfl
  clear hown3 EN2 hb3
  obtain ⟨x0, x1, x2, _⟩ := (EN3.out.2.1 (w.heap.size + 1, 27, #[.int .i64 0, .int .i64 0, .slice (some ⟨w.heap.size, 0, none⟩) 1 1]) (by simp)).at3
  go_wp2_with fail
  generalize hM : W3.heap.size = bm at *
  generalize (W3.alloc _) = W4 at EN3 ⊢
  clear x0 x1 x2 hM
  -- Find
  refine (find_any 0 0 6 (some ⟨w.heap.size, 0, none⟩) 1 1 [(5, 7)] W4 rfl (EN3.out.2.2 (some ⟨w.heap.size, 0, none⟩, ev [(5, 7)]) (by simp)) (by omega)).mono ?_
  rintro e W5 ⟨rfl, hb5⟩
  rw [HFIND.out, HEX.out]
  have EN5 := Lib.hid (EN3.out.keep hb5)
  clear EN3 hb5
  obtain ⟨x0, x1, x2, _⟩ := (EN5.out.2.1 (w.heap.size + 1, 27, #[.int .i64 0, .int .i64 0, .slice (some ⟨w.heap.size, 0, none⟩) 1 1]) (by simp)).at3
  go_wp2_with fail
  clear x0 x1 x2
  -- Put
  refine (put_ok 0 0 6 8 (some ⟨w.heap.size, 0, none⟩) 1 1 [(5, 7)] W5 rfl (EN5.out.2.2 (some ⟨w.heap.size, 0, none⟩, ev [(5, 7)]) (by simp)) HPE.out).mono ?_
  rintro e W6 ⟨v6, rfl, hown6, hb6⟩
  rw [HPN.out] at hown6
  obtain ⟨A6, c6, rfl⟩ := own_form hown6
  have hc6 := own_cap hown6
  have EN6 := Lib.hid (((EN5.out.keep hb6).row (Reads.of_own hown6)).new 27 #[.int .i64 0, .int .i64 0, .slice A6 2 c6])
  clear EN5 hb6 hown6
  obtain ⟨x0, x1, x2, _⟩ := (EN6.out.2.1 (W6.heap.size, 27, #[.int .i64 0, .int .i64 0, .slice A6 2 c6]) (by simp)).at3
  go_wp2_with fail
  generalize hP : W6.heap.size = bp at *
  generalize (W6.alloc _) = W7 at EN6 x0 x1 x2 ⊢
  clear hP x0 x1 x2
  -- Remove
  refine (remove_ok 0 0 0 A6 c6 2 [(5, 7), (6, 8)] W7 rfl (EN6.out.2.2 (A6, ev [(5, 7), (6, 8)]) (by simp)) (by omega) HRE.out).mono ?_
  rintro e W8 ⟨v8, rfl, hown8, hb8⟩
  rw [show (delN [(5, 7), (6, 8)] (0 : Int).toNat).length = 1 by decide] at hown8
  obtain ⟨A8, c8, rfl⟩ := own_form hown8
  have EN8 := Lib.hid ((EN6.out.keep hb8).new 27 #[.int .i64 0, .int .i64 0, .slice A8 1 c8])
  clear EN6 hb8 hown8
  obtain ⟨x0, x1, x2, _⟩ := (EN8.out.2.1 (bp, 27, #[.int .i64 0, .int .i64 0, .slice A6 2 c6]) (by simp)).at3
  go_wp2_with fail
  generalize hR : W8.heap.size = br at *
  generalize (W8.alloc _) = W9 at EN8 x0 x1 x2 ⊢
  clear hR x0 x1 x2
  -- Split
  refine (splitN_any 0 0 A6 c6 2 [(5, 7), (6, 8)] W9 rfl (EN8.out.2.2 (A6, ev [(5, 7), (6, 8)]) (by simp)) hc6 (fun h => absurd h (by omega))).mono ?_
  rintro e W10 ⟨va, vb, rfl, howna, hownb, hb10⟩
  rw [show (spA [(5, 7), (6, 8)]).length = 1 by decide] at howna
  rw [show (spB [(5, 7), (6, 8)]).length = 1 by decide] at hownb
  rw [show splE [(5, 7), (6, 8)] = 0 by decide, show spV [(5, 7), (6, 8)] 0 = 0 by decide]
  obtain ⟨Aa, ca, rfl⟩ := own_form howna
  obtain ⟨Ab, cb, rfl⟩ := own_form hownb
  have EN10 := Lib.hid (((EN8.out.keep hb10).new 27 #[.int .i64 0, .int .i64 0, .slice Aa 1 ca]).new 27 #[.int .i64 0, .int .i64 0, .slice Ab 1 cb])
  clear EN8 hb10 howna hownb
  have q1 := reads_at (EN10.out.2.2 (some ⟨g, 0, none⟩, uv E) (by simp)) 1 (by rw [HWL.out]; omega)
  have q8 := reads_at (EN10.out.2.2 (some ⟨g, 0, none⟩, uv E) (by simp)) 8 (by rw [HWL.out]; omega)
  rw [H1.out] at q1
  rw [H8.out] at q8
  obtain ⟨x0, x1, x2, _⟩ := (EN10.out.2.1 (w.heap.size + 1, 27, #[.int .i64 0, .int .i64 0, .slice (some ⟨w.heap.size, 0, none⟩) 1 1]) (by simp)).at3
  obtain ⟨m0, m1, m2, _⟩ := (EN10.out.2.1 (bm, 27, #[.int .i64 0, .int .i64 0, .slice A3 1 c3]) (by simp)).at3
  obtain ⟨p0, p1, p2, _⟩ := (EN10.out.2.1 (bp, 27, #[.int .i64 0, .int .i64 0, .slice A6 2 c6]) (by simp)).at3
  obtain ⟨r0, r1, r2, _⟩ := (EN10.out.2.1 (br, 27, #[.int .i64 0, .int .i64 0, .slice A8 1 c8]) (by simp)).at3
  clear m0 m1 p0 p1 r0 r1
  go_wp2_with fail
  clear q1 q8 x0 x1 x2 m2 p2 r2
  generalize ((W10.alloc _).alloc _) = W11 at EN10 ⊢
  -- Valid
  refine (valid_any 0 0 (some ⟨w.heap.size, 0, none⟩) 1 1 [(5, 7)] W11 rfl (EN10.out.2.2 (some ⟨w.heap.size, 0, none⟩, ev [(5, 7)]) (by simp)) HE.out (by omega)).mono ?_
  rintro e W12 ⟨rfl, hb12⟩
  rw [HV.out]
  have EN12 := Lib.hid (EN10.out.keep hb12)
  clear EN10 hb12
  go_wp2_with fail
  -- Sealed
  refine (sealed_any (some ⟨g, 0, none⟩) 16 16 E 2 3 W12 HWL.out (EN12.out.2.2 (some ⟨g, 0, none⟩, uv E) (by simp)) hww (by omega)).mono ?_
  rintro e W13 ⟨rfl, hb13⟩
  rw [HSL.out]
  have EN13 := Lib.hid (EN12.out.keep hb13)
  clear EN12 hb13
  go_wp2_with fail
  -- Seal
  refine (seal_any none 0 0 [] W13 rfl Reads.nil (by intro x hx; cases hx) (by omega)).mono ?_
  rintro e W14 ⟨g2, rfl, _, hb14⟩
  have EN14 := Lib.hid (EN13.out.keep hb14)
  clear EN13 hb14
  go_wp2_with fail
  -- Header
  refine (header_any 2 0 1 3 W14).mono ?_
  rintro e W15 ⟨rfl, hb15⟩
  have EN15 := Lib.hid (EN14.out.keep hb15)
  clear EN14 hb15
  go_wp2_with fail
  go_ret
  exact ⟨rfl, EN15.out.1⟩

end Go.Proofs.Ytjnkajdfdhockaa
