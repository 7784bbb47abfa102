/-
  relocate: the mover's functions.
-/
import Derived.Test.YtpcjdmbnlhjlaaaRelA
import Derived.Test.YtpcjdmbnlhjlaaaRelC
namespace Go.Proofs.Ytpcjdmbnlhjlaaa
set_option linter.unusedVariables false
open Go.RowKit
attribute [local go_sem] Oper.semAt_some m_size m_read m_write m_flush

theorem MovIn.cells {W : World} {F Fm : Nat → Prop} {g s0 s1 m n : Nat} {S : DS} {ext done : Nat} {cp : Bool} (h : MovIn W F Fm g s0 s1 m n S ext done cp) :
    W.cell? ⟨m, 0, none⟩ = some (.iface 114 (.pointer (some ⟨s0, 0, none⟩))) ∧ W.cell? ⟨m, 1, none⟩ = some (.iface 114 (.pointer (some ⟨s1, 0, none⟩))) ∧ W.cell? ⟨m, 2, none⟩ = some (.int .i64 (ext : Int)) ∧ W.cell? ⟨m, 3, none⟩ = some (.int .i64 (done : Int)) ∧ W.cell? ⟨m, 4, none⟩ = some (.bool cp) :=
  ⟨h.mov.cell 0, h.mov.cell 1, h.mov.cell 2, h.mov.cell 3, h.mov.cell 4⟩

theorem rsize_any (W : World) (F Fm : Nat → Prop) (g s0 s1 m n : Nat) (S : DS) (ext done : Nat) (cp : Bool) (h : MovIn W F Fm g s0 s1 m n S ext done cp) :
    Calls Try.prog 35 #[.pointer (some ⟨m, 0, none⟩)] W fun e w' => e = .returned (.int .i64 (n : Int)) ∧ W = w' := by
  obtain ⟨x0, x1, x2, x3, x4⟩ := h.cells
  go_enter Try.func35, Try.ntmps35
  go_wp2_with fail
  refine (ssize_any _ s0 g 0 n h.sp0).mono ?_
  rintro e w' ⟨rfl, rfl⟩
  go_wp2_with fail
  go_ret
  exact ⟨rfl, rfl⟩

theorem rdone_any (W : World) (F Fm : Nat → Prop) (g s0 s1 m n : Nat) (S : DS) (ext done : Nat) (cp : Bool) (h : MovIn W F Fm g s0 s1 m n S ext done cp) :
    Calls Try.prog 22 #[.pointer (some ⟨m, 0, none⟩)] W fun e w' => e = .returned (.int .i64 (done : Int)) ∧ W = w' := by
  obtain ⟨x0, x1, x2, x3, x4⟩ := h.cells
  go_enter Try.func22, Try.ntmps22
  go_wp2_with fail
  go_ret
  exact ⟨rfl, rfl⟩
theorem rcopied_any (W : World) (F Fm : Nat → Prop) (g s0 s1 m n : Nat) (S : DS) (ext done : Nat) (cp : Bool) (h : MovIn W F Fm g s0 s1 m n S ext done cp) :
    Calls Try.prog 23 #[.pointer (some ⟨m, 0, none⟩)] W fun e w' => e = .returned (.bool cp) ∧ W = w' := by
  obtain ⟨x0, x1, x2, x3, x4⟩ := h.cells
  go_enter Try.func23, Try.ntmps23
  go_wp2_with fail
  go_ret
  exact ⟨rfl, rfl⟩

theorem div_wrap (a b : Nat) (h : a ≤ 1000000000000) : IntKind.i64.wrap ((a : Int) / (b : Int)) = ((a / b : Nat) : Int) := by
  have hle : a / b ≤ a := Nat.div_le_self a b
  rw [← Int.natCast_ediv]
  generalize a / b = q at *
  rw [IntWalk.i64_in _ (by omega)]

/-- Advance. -/
theorem radv_any (W : World) (F Fm : Nat → Prop) (g s0 s1 m n : Nat) (S : DS) (ext done : Nat) (cp : Bool) (h : MovIn W F Fm g s0 s1 m n S ext done cp) (hd : done ≤ 1000000) :
    Calls Try.prog 19 #[.pointer (some ⟨m, 0, none⟩)] W fun e w' => (cp = false → e = .returned (.int .i64 28) ∧ W = w') ∧ (cp = true → e = .returned (.int .i64 0) ∧ MovIn w' F Fm g s0 s1 m n S ext (done + 1) false ∧ Fr Fm W w') := by
  obtain ⟨x0, x1, x2, x3, x4⟩ := h.cells
  cases cp
  · go_enter Try.func19, Try.ntmps19
    go_wp2_with fail
    go_ret
    exact ⟨fun _ => ⟨rfl, rfl⟩, (fun e => by cases e)⟩
  · have e1 : IntKind.i64.wrap ((done : Int) + 1) = ((done + 1 : Nat) : Int) := IntWalk.i64_in _ (by omega)
    have hc : ((done + 1 : Nat) : Int) = (done : Int) + 1 := rfl
    have h3 := h.setD (done + 1)
    rw [hc] at h3 e1
    have h4 := h3.setC false
    have f3 := h.mov.free 3
    have f4 := h3.mov.free 4
    have y4 : (W.setCell ⟨m, 3, none⟩ (.int .i64 ((done : Int) + 1))).cell? ⟨m, 4, none⟩ = some (.bool true) := h3.mov.cell 4
    have hfr : Fr Fm W ((W.setCell ⟨m, 3, none⟩ (.int .i64 ((done : Int) + 1))).setCell ⟨m, 4, none⟩ (.bool false)) := ((Fr.refl Fm W).set (.inl h.im) _).set (.inl h.im) _
    have H4 := Lib.hid h4
    clear h3 h4 hc
    go_enter Try.func19, Try.ntmps19
    go_wp2_with fail
    go_ret
    exact ⟨(fun e => by cases e), fun _ => ⟨rfl, H4.out, hfr⟩⟩

/-- The place of a sector. -/
theorem rat_any (W : World) (F Fm : Nat → Prop) (g s0 s1 m n : Nat) (S : DS) (ext done : Nat) (cp : Bool) (h : MovIn W F Fm g s0 s1 m n S ext done cp) (a : Nat) (he : 1 ≤ ext) (ha : a ≤ 100000000) :
    Calls Try.prog 36 #[.pointer (some ⟨m, 0, none⟩), .int .i64 (a : Int)] W fun e w' => e = .returned (spanV (if plc ext done a = 1 then s1 else s0)) ∧ Below W.heap.size W w' := by
  obtain ⟨x0, x1, x2, x3, x4⟩ := h.cells
  have e1 := div_wrap a ext (by omega)
  have t0 : ¬ (ext : Int) = 0 := by omega
  by_cases hd : a / ext < done
  · have hp : plc ext done a = 1 := plc_lt hd
    have t1 : ((a / ext : Nat) : Int) < (done : Int) := by omega
    rw [hp, if_pos rfl]
    generalize a / ext = q at *
    clear hd hp
    go_enter Try.func36, Try.ntmps36
    go_wp2_with fail
    go_quiet (fail)
    go_wp2_with fail
    go_ret
    exact ⟨rfl, below_drewN (Below.refl _ _) _⟩
  · have hp : plc ext done a = 0 := plc_ge hd
    have t1 : ¬ ((a / ext : Nat) : Int) < (done : Int) := by omega
    rw [hp, if_neg (by decide)]
    generalize a / ext = q at *
    clear hd hp
    go_enter Try.func36, Try.ntmps36
    go_wp2_with fail
    go_quiet (fail)
    go_wp2_with fail
    go_ret
    exact ⟨rfl, below_drewN (Below.refl _ _) _⟩

theorem sread_lt {W : World} {F : Nat → Prop} {g : Nat} {S : DS} (h : DskAt W F g S) {i n : Nat} {a : Int} : S.sread i n a < 18446744073709551616 := by
  unfold DS.sread
  split
  · unfold DS.read
    split
    · unfold DS.rd
      have hm : ∀ k : Nat, W64 (S.drv k).1 := by
        intro k
        unfold DS.drv
        rcases hk : S.dr[k]? with _ | x
        · intro y hy; simp at hy
        · exact (h.1.drv x (List.mem_of_getElem? hk)).1
      exact (hm _).at _
    · decide
  · decide
/-- Read. -/
theorem rread_no (W : World) (F Fm : Nat → Prop) (g s0 s1 m n : Nat) (S : DS) (ext done : Nat) (cp : Bool) (h : MovIn W F Fm g s0 s1 m n S ext done cp) (a : Int) (ha : a < 0 ∨ (n : Int) ≤ a) :
    Calls Try.prog 13 #[.pointer (some ⟨m, 0, none⟩), .int .i64 a] W fun e w' => e = .returned (.tuple #[.int .u64 0, .int .i64 1]) ∧ W = w' := by
  by_cases h1 : a < 0
  · go_enter Try.func13, Try.ntmps13
    go_wp2_with fail
    go_ret2
    exact ⟨rfl, rfl⟩
  · have h2 : (n : Int) ≤ a := by omega
    go_enter Try.func13, Try.ntmps13
    go_wp2_with fail
    refine (rsize_any W F Fm g s0 s1 m n S ext done cp h).mono ?_
    rintro e w' ⟨rfl, rfl⟩
    go_wp2_with fail
    go_ret2
    exact ⟨rfl, rfl⟩
theorem rread_any (W : World) (F Fm : Nat → Prop) (g s0 s1 m n : Nat) (S : DS) (ext done : Nat) (cp : Bool) (h : MovIn W F Fm g s0 s1 m n S ext done cp) (a : Nat) (he : 1 ≤ ext) (ha : a < n) (hn : n ≤ 65536) :
    Calls Try.prog 13 #[.pointer (some ⟨m, 0, none⟩), .int .i64 (a : Int)] W fun e w' => e = .returned (.tuple #[.int .u64 (S.sread (plc ext done a) n (a : Int) : Int), .int .i64 (S.sE (plc ext done a) n (a : Int))]) ∧ Below W.heap.size W w' := by
  rcases plc_01 ext done a with hp | hp
  · have hat := rat_any W F Fm g s0 s1 m n S ext done cp h a he (by omega)
    rw [hp] at hat ⊢
    rw [if_neg (by decide)] at hat
    unfold spanV at hat
    have HH := Lib.hid h
    have HAT := Lib.hid hat
    have t1 : ¬ (a : Int) < 0 := by omega
    have t2 : ¬ (n : Int) ≤ (a : Int) := by omega
    clear h hat hp
    go_enter Try.func13, Try.ntmps13
    go_wp2_with fail
    refine (rsize_any W F Fm g s0 s1 m n S ext done cp HH.out).mono ?_
    rintro e w' ⟨rfl, rfl⟩
    go_wp2_with fail
    refine HAT.out.mono ?_
    rintro e w1 ⟨rfl, hb1⟩
    have HB1 := Lib.hid hb1
    have HH1 := Lib.hid (HH.out.keep hb1)
    clear hb1
    go_wp2_with fail
    refine (sread_any w1 F g s0 0 n S (a : Int) HH1.out.dsk HH1.out.sp0 hn).mono ?_
    rintro e w2 ⟨rfl, hb2⟩
    have HB2 := Lib.hid (HB1.out.trans (hb2.mono HB1.out.size))
    clear hb2
    go_wp2_with fail
    go_ret2
    exact ⟨rfl, HB2.out⟩
  · have hat := rat_any W F Fm g s0 s1 m n S ext done cp h a he (by omega)
    rw [hp] at hat ⊢
    rw [if_pos rfl] at hat
    unfold spanV at hat
    have HH := Lib.hid h
    have HAT := Lib.hid hat
    have t1 : ¬ (a : Int) < 0 := by omega
    have t2 : ¬ (n : Int) ≤ (a : Int) := by omega
    clear h hat hp
    go_enter Try.func13, Try.ntmps13
    go_wp2_with fail
    refine (rsize_any W F Fm g s0 s1 m n S ext done cp HH.out).mono ?_
    rintro e w' ⟨rfl, rfl⟩
    go_wp2_with fail
    refine HAT.out.mono ?_
    rintro e w1 ⟨rfl, hb1⟩
    have HB1 := Lib.hid hb1
    have HH1 := Lib.hid (HH.out.keep hb1)
    clear hb1
    go_wp2_with fail
    refine (sread_any w1 F g s1 1 n S (a : Int) HH1.out.dsk HH1.out.sp1 hn).mono ?_
    rintro e w2 ⟨rfl, hb2⟩
    have HB2 := Lib.hid (HB1.out.trans (hb2.mono HB1.out.size))
    clear hb2
    go_wp2_with fail
    go_ret2
    exact ⟨rfl, HB2.out⟩

/-- Flush. -/
def MovP (W : World) (Fm : Nat → Prop) (g s0 s1 m n : Nat) (r : Int) (S : DS) (ext done : Nat) (cp : Bool) (e : Ending) (W' : World) : Prop :=
  e = .returned (.int .i64 r) ∧ ∃ Fm', MovAt W' Fm' g s0 s1 m n S ext done cp ∧ Turn Fm Fm' W W'
set_option maxRecDepth 100000 in
set_option maxHeartbeats 4000000 in
theorem rflush_any (W : World) (F Fm : Nat → Prop) (g s0 s1 m n : Nat) (S : DS) (ext done : Nat) (cp : Bool) (h : MovIn W F Fm g s0 s1 m n S ext done cp) (hlog : S.log.length ≤ 1000000) (hlog2 : (S.flush 0).log.length ≤ 1000000) :
    Calls Try.prog 31 #[.pointer (some ⟨m, 0, none⟩)] W (MovP W Fm g s0 s1 m n (mfE S) (mfS S) ext done cp) := by
  obtain ⟨x0, x1, x2, x3, x4⟩ := h.cells
  have HH := Lib.hid h
  clear h
  go_enter Try.func31, Try.ntmps31
  go_wp2_with fail
  go_region_with ((first
    | (go_at_call 90; refine (sflush_any w1 F1 g s1 1 n (S.flush 0) hm1.dsk hm1.sp1 hm1.n1 hlog2).mono ?_; rintro e w2 ⟨rfl, F2, hd2, ht2⟩)
    | (go_at_call 90; refine (sflush_any W.drew F g s0 0 n S HH.out.dsk.drew HH.out.sp0 HH.out.n0 hlog).mono ?_; rintro e w1 ⟨rfl, F1, hd1, ht1⟩; have hm1 := HH.out.turn hd1 ⟨ht1.1.undrew, ht1.2⟩; obtain ⟨y0, y1, y2, y3, y4⟩ := hm1.cells)))
  all_goals
    have HM2 := Lib.hid (hm1.turn hd2 ht2)
    have HT2 := Lib.hid ((HH.out.wide ⟨ht1.1.undrew, ht1.2⟩).trans (hm1.wide ht2))
    clear hm1 hd2 ht2 hd1 ht1
    by_cases hc : S.chkF 0 = 0
    · have HE : Hid (mfE S = (S.flush 0).chkF 1) := if_pos hc
      have t1 : (S.chkF 0 == 0) = true := by simpa using hc
      clear hc
      go_wp2_with fail
      go_ret
      exact ⟨by rw [HE.out]; rfl, _, ⟨_, HM2.out⟩, HT2.out⟩
    · have HE : Hid (mfE S = S.chkF 0) := if_neg hc
      have t1 : (S.chkF 0 == 0) = false := by simpa using hc
      clear hc
      go_wp2_with fail
      go_ret
      exact ⟨by rw [HE.out]; rfl, _, ⟨_, HM2.out⟩, HT2.out⟩

end Go.Proofs.Ytpcjdmbnlhjlaaa
