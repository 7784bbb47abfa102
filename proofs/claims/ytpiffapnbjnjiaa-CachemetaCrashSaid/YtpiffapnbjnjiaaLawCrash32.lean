/-
  The law CachemetaCrash.
-/
import Derived.Test.YtpiffapnbjnjiaaLawCrashA32
import Derived.Deep.CutBlock
import Derived.BigRegion
import Derived.Deep.RegionHeldLaw
namespace Go.Proofs.Ytpiffapnbjnjiaa
set_option linter.unusedVariables false
open Go.RowKit
attribute [local go_sem] Oper.semAt_some

theorem row_info : (Try.prog.info? 39).map (fun i => (i.zero, i.size, i.bytes)) = some (some (.slice none 0 0), 1, 24) := by kernel_rfl
theorem madeCells_row (n : Nat) : madeCells #[Value.slice none 0 0] (n * 1) = (List.replicate n (Value.slice none 0 0)).toArray := by
  apply Array.ext'
  rw [toList_madeCells_one]
  simp
theorem run_make_rows (n : Nat) (hn : n ≤ 1000000) (w : World) : (Instr.makeSlice 64 (.int .i64 (n : Int)) (.int .i64 (n : Int))).run Try.prog w = .ok (.slice (some ⟨w.heap.size, 0, none⟩) n n) (w.alloc (.cells (Array.replicate n (Value.slice none 0 0)) 39)) := by
  obtain ⟨i0, hi0, hz0, hz1, hz2⟩ := info_parts row_info
  have := run_make (P := Try.prog) w 64 39 i0 _ Try.underlying64 hi0 hz0 .i64 .i64 (n : Int) (n : Int) (by omega) (Int.le_refl _) (by rw [hz2]; omega) (by omega)
  rw [this]
  simp only [Int.toNat_natCast, hz1]
  rw [show (Value.slice none 0 0).cells = #[Value.slice none 0 0] from rfl, madeCells_row]
  simp

set_option maxRecDepth 100000 in
set_option maxHeartbeats 40000000 in
theorem crash_any (A : Option Addr) (c n0 : Nat) (ls : List Int) (kp : Nat) (W : World) (hn : ls.length = n0) (hA : Reads W A (iv ls)) (hw : I64 ls) (hc : n0 ≤ c) (hkp : kp < 18446744073709551616) :
    Calls Try.prog 6 #[.slice A n0 c, .int .u64 (kp : Int)] W fun e W' => e = .returned (.bool true) ∧ Below W.heap.size W W' := by
  go_enter Try.func6, Try.ntmps6
  go_wp2_with fail
  refine (new_any A n0 c ls W hn hA hw hc).mono ?_
  rintro e W1 ⟨rfl, hs1, hb1, hsz1⟩
  go_wp2_with fail
  refine (range_any W.heap.size 1 4 W1 hs1 (by omega) (by omega) (by omega)).mono ?_
  rintro e W2 ⟨nn, rfl, hn1, hn4, hs2, hg2⟩
  obtain ⟨n, rfl⟩ : ∃ n : Nat, nn = (n : Int) := ⟨nn.toNat, by omega⟩
  have HB2 := Lib.hid (gb_Below hb1 hg2 hb1.size (Nat.le_refl _))
  clear hs1 hb1 hg2 hsz1 hn hA hw hc
  have hmk : (Instr.makeSlice 25 (.int .i64 ((n : Int) + 1)) (.int .i64 ((n : Int) + 1))).run Try.prog W2 = .ok (.slice (some ⟨W2.heap.size, 0, none⟩) (n + 1) (n + 1)) (W2.alloc (.cells (uv (List.replicate (n + 1) 0)).toArray 28)) := by
    rw [show ((n : Int) + 1) = ((n + 1 : Nat) : Int) by omega]
    exact run_make_u64 (n + 1) (by omega) W2
  go_wp2_with fail
  have hb3 : Below W2.heap.size W2 (W2.alloc (.cells (uv (List.replicate (n + 1) 0)).toArray 28)) := (Below.refl _ _).alloc (Nat.le_refl _) _
  have hR : Reads (W2.alloc (.cells (uv (List.replicate (n + 1) 0)).toArray 28)) (some ⟨W2.heap.size, 0, none⟩) (uv (List.replicate (n + 1) 0)) := Reads.new W2 _ _
  have hS3 := hs2.keep hb3
  have hzl : (List.replicate (n + 1) 0).length = n + 1 := List.length_replicate
  have hzw : W64 (List.replicate (n + 1) 0) := by intro x hx; rw [List.eq_of_mem_replicate hx]; omega
  have HB3 := Lib.hid (HB2.out.trans (hb3.mono HB2.out.size))
  generalize List.replicate (n + 1) 0 = zs at *
  generalize (W2.alloc (.cells (uv zs).toArray 28)) = W3 at *
  generalize W2.heap.size = b2 at *
  clear hs2 HB2 hb3 hmk
  refine (device_any W3 (some ⟨b2, 0, none⟩) (n + 1) (n + 1) zs hR hzl (by omega) (by omega) hzw).mono ?_
  rintro e W4 ⟨F, g, sp, rfl, hdev, hb4⟩
  rw [one_full, hzl] at hdev
  have HDV := Lib.hid hdev
  have HS4 := Lib.hid (hS3.keep hb4)
  have HB4 := Lib.hid (HB3.out.trans (hb4.mono HB3.out.size))
  have hW3 : W.heap.size < W3.heap.size := hS3.lt
  have hW34 := hb4.size
  clear hdev hR hb4 hS3 HB3
  unfold spanV
  go_wp2_with fail
  refine (format_ok W4 F g sp (n + 1) n 2 zs zs [] 0 HDV.out.1 HDV.out.2.1 HDV.out.2.2.1 (Syn.refl _) hzl (by omega) (by omega) (by omega) (by omega) (by simp) (by omega)).mono ?_
  rintro e W5 ⟨rfl, F5, hd5, ht5⟩
  obtain ⟨o1, o2, o3, o4⟩ := open_fmt zs n 2 (by omega) (by omega) (by omega)
  have oz := fmtW_z zs n 2 (by omega)
  obtain ⟨f1, f2, f3, f4, f5, f6⟩ := hdI_fields n 2 0 false (by omega) (by omega) (by omega)
  have hs5 : SpanAt W5 sp g 0 (n + 1) := Cs.fr HDV.out.2.1 ht5.1 HDV.out.2.2.1
  have hsp5 := ht5.out (Cs.lt HDV.out.2.1) HDV.out.2.2.1
  have hW64 : W64 (fmtW zs n 2) := (hd5.1.drv _ (List.mem_singleton.2 rfl)).1
  rw [hzl] at o4
  generalize fmtW zs n 2 = now0 at *
  generalize hdI n 2 0 false = hd0 at *
  have hFl : ∀ j, F j → W.heap.size < j := fun j hj => Nat.lt_of_lt_of_le hW3 (HDV.out.2.2.2.1 j hj)
  have hspl : W.heap.size < sp := Nat.lt_of_lt_of_le hW3 HDV.out.2.2.2.2
  have hF5 : ∀ j, F5 j → W.heap.size < j := fun j hj => (ht5.2 j hj).elim (hFl j) (fun h => by have := HS4.out.lt; omega)
  have HS5 := Lib.hid (HS4.out.fr ht5.1 hFl)
  have HB5 := Lib.hid (HB4.out.trans (ht5.1.below HB4.out.size (fun j hj => Nat.le_of_lt (hFl j hj))))
  have HF5 := Lib.hid hF5
  clear ht5 HS4 HB4 hFl HDV hF5
  go_wp2_with fail
  refine (open_any W5 F5 g sp (n + 1) now0 now0 [] _ hd5 hs5 hsp5 (Syn.refl _) o4 (by omega) (by omega) hW64 (by simp)).mono ?_
  rintro e W6 hO
  obtain ⟨m, Fc, rfl, hC, ht6, hlt6⟩ := hO.ok o1 hs5 hsp5
  rw [o2, f2, f3, f4, f5, o3] at hC
  have hFl : ∀ j, (F5 j ∨ j = sp) → W.heap.size < j := fun j hj => hj.elim (HF5.out j) (fun e => by omega)
  have hFc : ∀ j, Fc j → W.heap.size < j := fun j hj => (ht6.2 j hj).elim (hFl j) (fun h => by have := HS5.out.lt; omega)
  have HS6 := Lib.hid (HS5.out.fr ht6.1 hFl)
  have HB6 := Lib.hid (HB5.out.trans (ht6.1.below HB5.out.size (fun j hj => Nat.le_of_lt (hFl j hj))))
  have HF6 := Lib.hid hFc
  have HC6 := Lib.hid hC
  clear hO hC ht6 hlt6 hFl hFc HF5 HS5 HB5 hd5 hs5 hsp5 f1 f2 f3 f4 f5 f6 o1 o2 o3
  obtain ⟨wr, hwr⟩ : ∃ wr : Int, (0 + 1 + (n : Int) + 1) = wr := ⟨_, rfl⟩
  have hwr2 : wr ≤ 6 := by omega
  rw [hwr] at HC6
  clear hwr
  go_wp2_with fail
  refine (cbegin_any W6 Fc g sp m (n + 1) _ 2 0 wr 2 _ now0 now0 [] HC6.out (.inr rfl) (Syn.refl _) o4 (by omega) (by omega) (by simp; omega) (by simp) (by omega)).mono ?_
  rintro e W7 ⟨rfl, Fc7, hC7, ht7⟩
  have hnl : (now0.set 0 (hdI (List.replicate n Sl.nil).length 2 2 true)).length = n + 1 := by rw [List.length_set]; exact o4
  have hn0 : (now0.set 0 (hdI (List.replicate n Sl.nil).length 2 2 true))[0]?.getD 0 = hdI n 2 2 true := by
    rw [List.getElem?_set_self (by omega), Option.getD_some, List.length_replicate]
  have hnz : ∀ j, j < n → (now0.set 0 (hdI (List.replicate n Sl.nil).length 2 2 true))[1 + j]?.getD 0 = 0 := by
    intro j hj
    rw [List.getElem?_set_ne (by omega)]
    exact oz j hj
  have HS7 := Lib.hid (HS6.out.fr ht7.1 HF6.out)
  have HB7 := Lib.hid (HB6.out.trans (ht7.1.below HB6.out.size (fun j hj => Nat.le_of_lt (HF6.out j hj))))
  have HF7 : Hid (∀ j, Fc7 j → W.heap.size < j) := fun j hj => (ht7.2 j hj).elim (HF6.out j) (fun h => by have := HS6.out.lt; omega)
  have HC7 := Lib.hid hC7.tight
  generalize now0.set 0 (hdI (List.replicate n Sl.nil).length 2 2 true) = now1 at *
  have HZ1 := Lib.hid hnz
  have HN1 := Lib.hid hn0
  have hmk2 := run_make_rows n (by omega) W7
  have hb8 : Below W7.heap.size W7 (W7.alloc (.cells (Array.replicate n (Value.slice none 0 0)) 39)) := (Below.refl _ _).alloc (Nat.le_refl _) _
  have HR8 : Hid (CR W (W7.alloc (.cells (Array.replicate n (Value.slice none 0 0)) 39)) g sp m n W7.heap.size (fun j => Fc7 j ∧ j < W7.heap.size) now1 now1 [] 0 false (wr + 1) (List.replicate n Sl.nil) [] (List.replicate n (Value.slice none 0 0))) :=
    ⟨HS7.out.keep hb8, HB7.out.trans (hb8.mono HB7.out.size), HC7.out.keep hb8, (by rw [show (([] : List Rw).map Rw.v ++ List.replicate n (Value.slice none 0 0)).toArray = Array.replicate n (Value.slice none 0 0) by simp]; exact Cs.new W7 _ _), (by simp), (fun e => by omega), HS7.out.lt, fun j hj => HF7.out j hj.1⟩
  clear hC7 ht7 HC6 HF6 HS6 HB6 HS7 HB7 HF7 HC7 hn0 hnz oz o4 hb8
  go_wp2_with fail
  clear hmk2
  generalize (W7.alloc (.cells (Array.replicate n (Value.slice none 0 0)) 39)) = W8 at *
  generalize W7.heap.size = bs at *
  have HRX : Hid (∃ Fc, CR W W8 g sp m n bs Fc now1 now1 [] 0 false (wr + 1) (List.replicate n Sl.nil) [] (List.replicate n (Value.slice none 0 0))) := ⟨_, HR8.out⟩
  clear HR8 Fc7
  obtain ⟨Fc8, hR8⟩ := HRX.out
  have HR8 := Lib.hid hR8
  clear HRX hR8
  go_loopw [13] (fun s wy => ∃ (k : Nat) (rs : List Rw) (Fc8 : Nat → Prop), s = .int .i64 k ∧ k ≤ n ∧ rs.length = k ∧ (∀ r ∈ rs, r.xs = [Sl.nil]) ∧ CR W wy g sp m n bs Fc8 now1 now1 [] 0 false (wr + 1) (List.replicate n Sl.nil) rs (List.replicate (n - k) (Value.slice none 0 0))) (fun s _ => n - (intOf s).toNat)
  case atStart => exact ⟨0, [], Fc8, rfl, Nat.zero_le _, rfl, by simp, HR8.out⟩
  case round =>
    rename World => wx
    clear HR8
    clear Fc8
    obtain ⟨k, rs, Fc8, rfl, hk, hrl, hrx, hC⟩ := hrel
    have HRL := Lib.hid hrl
    have HRX := Lib.hid hrx
    by_cases hlt : k < n
    · have hrep : List.replicate (n - k) (Value.slice none 0 0) = Value.slice none 0 0 :: List.replicate (n - (k + 1)) (Value.slice none 0 0) := by
        rw [show n - k = (n - (k + 1)) + 1 by omega]; rfl
      rw [hrep] at hC
      have HC := Lib.hid hC
      clear hC hrep hrl hrx
      have t1 : (k : Int) < (n : Int) := by omega
      have hb : Below wx.heap.size wx (wx.alloc (.cells #[.bool false, .bool false, .int .i64 0, .int .i64 0] 50)) := (Below.refl _ _).alloc (Nat.le_refl _) _
      have HC1 := Lib.hid (HC.out.tight.keep hb)
      have x1 : (wx.alloc (.cells #[.bool false, .bool false, .int .i64 0, .int .i64 0] 50)).cell? ⟨bs, k, none⟩ = some (.slice none 0 0) := by
        rw [HC1.out.tab.cell k, List.getElem?_toArray, List.getElem?_append_right (by rw [List.length_map, HRL.out]; omega), List.length_map, HRL.out, Nat.sub_self]
        rfl
      have f1 := HC1.out.tab.free k
      have hrr : RwAt (wx.alloc (.cells #[.bool false, .bool false, .int .i64 0, .int .i64 0] 50)) W.heap.size bs (fun j => Fc8 j ∧ j < wx.heap.size) ⟨wx.heap.size, 0, 1, [Sl.nil]⟩ :=
        ⟨Reads.new wx _ _, (by simp), (by simp), (fun e => by have := e.2; simp at this), HC.out.src.lt, (fun e => by have := HC.out.tab.lt; simp at e; omega)⟩
      have HP := Lib.hid (HC1.out.push k HRL.out _ hrr)
      clear hrr HC1 hb
      go_wp2_with fail
      go_roundw
      case rel => exact ⟨k + 1, _, _, by go_num, by omega, by rw [List.length_append, HRL.out]; rfl, (by intro r hr; rcases List.mem_append.1 hr with hr | hr; exact HRX.out r hr; rw [List.mem_singleton.1 hr]), HP.out⟩
      case measure => simp [intOf]; omega
    · have hkn : k = n := by omega
      subst hkn
      rw [Nat.sub_self] at hC
      have HC := Lib.hid hC
      have HPI := Lib.hid (PI.start k now1 hnl HN1.out HZ1.out rs HRL.out HRX.out)
      have HRX0 := Lib.hid hrx
      clear hC hrl hrx HN1 HZ1 hnl HRX HRL
      go_wp2_with fail
      refine (n_any W.heap.size 20 wx HC.out.src (by omega) (by omega)).mono ?_
      rintro e w1 ⟨r0, rfl, hr0, hr0', hs1, hg1⟩
      have HC1 := Lib.hid (HC.out.grown hs1 hg1)
      have e2 : IntKind.i64.wrap (1 + r0) = 1 + r0 := IntWalk.i64_in _ (by omega)
      obtain ⟨FF, AA, cc, hci⟩ := HC1.out.ref
      have HCI := Lib.hid hci
      clear hs1 hg1 HC hci
      go_wp2_with fail
      refine (fuse_any w1 FF g _ (1 + r0) HCI.out.dsk (by omega) (by omega)).mono ?_
      rintro e w2 ⟨rfl, hd2, hf2⟩
      obtain ⟨Fc2, hC2⟩ := HC1.out.fused HCI.out hd2 hf2
      have HC2 := Lib.hid hC2
      clear hC2 hd2 hf2 HC1 HCI
      go_wp2_with fail
      refine (n_any W.heap.size 20 w2 HC2.out.src (by omega) (by omega)).mono ?_
      rintro e w3 ⟨r1, rfl, hr1, hr1', hs3, hg3⟩
      have HC3 := Lib.hid (HC2.out.grown hs3 hg3)
      clear hs3 hg3 HC2
      go_wp2_with fail
      go_loopw [14] (fun s wy => ∃ (j : Nat) (Fc : Nat → Prop) (now dur : List Nat) (log : List (Nat × Nat × Nat)) (fuse : Int) (down : Bool) (wn : Int) (ss : List Sl) (rs : List Rw), s = .int .i64 j ∧ j ≤ 20 ∧ CR W wy g sp m k bs Fc now dur log fuse down wn ss rs [] ∧ PI k now dur log ss rs ∧ 0 ≤ fuse ∧ log.length + j ≤ 20 ∧ wn + j ≤ 40 ∧ ∀ r ∈ rs, r.xs.length + j ≤ 21) (fun s _ => (intOf s).toNat)
      case atStart => exact ⟨r1.toNat, Fc2, now1, now1, [], 1 + r0, false, wr + 1, _, rs, by rw [show ((r1.toNat : Nat) : Int) = r1 by omega], by omega, HC3.out, HPI.out, by omega, by simp; omega, by omega, by intro r hr; rw [HRX0.out r hr]; simp; omega⟩
      case round =>
        rename World => wx
        clear HC3 HPI HRX0
        clear rs Fc2
        obtain ⟨j, Fc, now, dur, log, fuse, down, wn, ss, rs, rfl, hj, hC, hPI, hfu, hlg, hwn, hrb⟩ := hrel
        have HRB := Lib.hid hrb
        clear hrb
        have HC := Lib.hid hC
        have HPI := Lib.hid hPI
        clear hC hPI
        go_upto_region 16 with (fail)
        go_cut [84] (fun s84 wy => ∃ q : Bool, s84 = .bool q ∧ wy = wx ∧ (q = true → down = false ∧ 0 < j))
        case first =>
          obtain ⟨FF, AA, cc, hci⟩ := HC.out.ref
          have HCI := Lib.hid hci
          clear hci
          by_cases hj0 : 0 < j
          · have t1 : (0 : Int) < (j : Int) := by omega
            cases down
            · go_wp2_with fail
              refine (down_any wx FF g _ HCI.out.dsk).mono ?_
              rintro e w' ⟨rfl, rfl⟩
              go_wp2_with fail
              go_meet
              case rel => exact ⟨true, (by first | rfl | trivial), (by first | rfl | trivial), fun _ => (by first | exact ⟨rfl, hj0⟩ | exact hj0 | (simp; done) | (simp; exact hj0))⟩
            · go_wp2_with fail
              refine (down_any wx FF g _ HCI.out.dsk).mono ?_
              rintro e w' ⟨rfl, rfl⟩
              go_wp2_with fail
              go_meet
              case rel => exact ⟨false, (by first | rfl | trivial), (by first | rfl | trivial), fun h => by cases h⟩
          · have t1 : ¬ (0 : Int) < (j : Int) := by omega
            go_wp2_with fail
            go_meet
            case rel => exact ⟨false, (by first | rfl | trivial | simp), (by first | rfl | trivial), fun h => by cases h⟩
        case rest =>
          obtain ⟨q, rfl, rfl, hq⟩ := hcut
          cases q
          · clear hq
            as_aux_lemma =>
              have HC0 := Lib.hid HC.out.tight
              obtain ⟨FF, AA, cc, hci⟩ := HC0.out.ref
              have HCI := Lib.hid hci.tight
              have hPd := HPI.out.crash (by omega)
              have HPD := Lib.hid hPd
              have hll : log.length ≤ 20 := by omega
              clear hci hPd HC hwn hlg
              go_wp2_with fail
              refine (keep_any kp wc hkp).mono ?_
              rintro e w1 ⟨v, bl, rfl, hown, hbl, hb1⟩
              obtain ⟨A1, c1, hv⟩ := own_form hown
              subst hv
              have hbs1 := own_base hown
              have HO1 := Lib.hid (own_lower hown (Nat.zero_le _))
              have HC1 := Lib.hid (HC0.out.keep hb1)
              have HCI1 := Lib.hid (HCI.out.fr (G := fun _ => False) (Fr.of_below hb1) (fun _ _ h => h))
              have HD := Lib.hid (HPD.out bl _ rfl)
              have HRE := Lib.hid (one_restart now dur log fuse wn down bl HPI.out.syn.idx)
              have hFne : ∀ b, (Value.slice A1 192 c1).ownBlock = some b → ¬ (FF b ∧ b < wc.heap.size) := fun b hb e => by have := hbs1 b hb; omega
              have HFN := Lib.hid hFne
              clear hown hb1 hbs1 hFne HCI HC0 HPD
              go_wp2_with fail
              refine (arestart_any w1 _ g 0 192 c1 _ A1 bl HCI1.out.dsk HO1.out hbl (by omega) HFN.out (by show log.length ≤ _; omega)).mono ?_
              rintro e w2 ⟨rfl, hd2, hf2⟩
              rw [HRE.out] at hd2
              generalize hdd : rsDur dur log bl log.length = d at *
              obtain ⟨hE, hdl, hd0, ss', hss, hsl', hin⟩ := HD.out
              have hW64 : W64 d := (hd2.1.drv _ (List.mem_singleton.2 rfl)).1
              have hs2 : SpanAt w2 sp g 0 (k + 1) := Cs.fr HCI1.out.span hf2 HCI1.out.spF
              have hlo : ∀ j, (FF j ∧ j < wc.heap.size) → W.heap.size < j := fun j hj => HC1.out.lo j (HCI1.out.inF j hj)
              have HB2 := Lib.hid (HC1.out.bel.trans (hf2.below HC1.out.bel.size (fun j hj => Nat.le_of_lt (hlo j hj))))
              have HT2 := Lib.hid (HC1.out.tab.fr hf2 (fun e => HC1.out.apb (HCI1.out.inF _ e)))
              have HR2 : Hid (∀ r ∈ rs, RwAt w2 W.heap.size bs (fun j => Fc j ∧ j < wc.heap.size) r) := fun r hr => (HC1.out.rows r hr).fr hf2 (fun e => (HC1.out.rows r hr).ap (HCI1.out.inF _ e))
              obtain ⟨f1, f2, f3, f4, f5, f6⟩ := hdI_fields k 2 2 true (by omega) (by omega) (by omega)
              have hspl : W.heap.size < sp := HC1.out.lo sp HCI1.out.spC
              go_wp2_with fail
              refine (open_any w2 _ g sp (k + 1) d d [] wn hd2 hs2 HCI1.out.spF (Syn.refl _) hdl (by omega) (by omega) hW64 (by simp)).mono ?_
              rintro e w3 hO
              obtain ⟨m2, Fc3, rfl, hC3, ht3, hlt3⟩ := hO.ok hE hs2 HCI1.out.spF
              rw [hd0, f2, f3, f4, f5, hss] at hC3
              have HC3 := Lib.hid hC3
              have HB3 := Lib.hid (HB2.out.trans (ht3.1.below HB2.out.size (fun j hj => hj.elim (fun h => Nat.le_of_lt (hlo j h)) (fun e => by omega))))
              have HT3 := Lib.hid (HT2.out.fr ht3.1 (fun e => e.elim (fun h => HC1.out.apb (HCI1.out.inF _ h)) (fun h => HC1.out.apb (h ▸ HCI1.out.spC))))
              have HR3 : Hid (∀ r ∈ rs, RwAt w3 W.heap.size bs (fun j => Fc j ∧ j < wc.heap.size) r) := fun r hr => (HR2.out r hr).fr ht3.1 (fun e => e.elim (fun h => (HR2.out r hr).ap (HCI1.out.inF _ h)) (fun h => (HR2.out r hr).ap (h ▸ HCI1.out.spC)))
              have HIN := Lib.hid hin
              clear hO hC3 ht3 hlt3 hin hE hd0 hss HD HRE hd2 hf2 hs2 hlo HB2 HT2 HR2 HC1 HCI1 HO1 HFN f1 f2 f3 f4 f5 f6
              have ob : decide (b01 true = 1) = true := by decide
              rw [ob] at HC3
              obtain ⟨y3, hCm⟩ := HC3.out.cells
              clear ob
              go_wp2_with (first | (go_at_call 19; refine (clean_any w3 m2 _ _ 2 2 true hCm).mono ?_; rintro e w' ⟨rfl, rfl⟩) | (go_at_call 18; refine (mode_any w3 m2 _ _ 2 2 true hCm).mono ?_; rintro e w' ⟨rfl, rfl⟩) | (go_at_call 16; refine (cslots_any w3 Fc3 g sp m2 (k + 1) _ ss' 2 2 true HC3.out (by omega)).mono ?_; rintro e w4 ⟨v4, rfl, hown4, hb4⟩))
              obtain ⟨Ag, cg, hv4⟩ := own_form hown4
              subst hv4
              rw [hsl'] at hown4 ⊢
              have HRG := Lib.hid (Reads.of_own hown4)
              have HB4 := Lib.hid (HB3.out.trans (hb4.mono HB3.out.size))
              have HT4 := Lib.hid (HT3.out.below hb4 HT3.out.lt)
              have HR4 : Hid (∀ r ∈ rs, RwAt w4 W.heap.size bs (fun j => Fc j ∧ j < wc.heap.size) r) := fun r hr => (HR3.out r hr).fr (G := fun _ => False) (Fr.of_below hb4) (fun h => h)
              have HSL := Lib.hid hsl'
              have HRSL := Lib.hid HPI.out.rl
              clear hown4 hb4 HC3 HB3 HT3 HR3 hCm hsl' HPI
              obtain ⟨bg, og, rfl, hgl, hgc⟩ := HRG.out.s (by rw [HSL.out]; omega)
              have HGC := Lib.hid hgc
              clear hgc HRG
              go_loopw [20] (fun s wy => ∃ i q : Nat, s = .int .i64 i ∧ i ≤ k ∧ wy = w4.drewN q) (fun s _ => k - (intOf s).toNat)
              case atStart => exact ⟨0, 0, rfl, Nat.zero_le _, rfl⟩
              case round =>
                obtain ⟨i, q, rfl, hi, rfl⟩ := hrel
                by_cases hlt : i < k
                · have t1 : (i : Int) < (k : Int) := by omega
                  obtain ⟨s, hs⟩ : ∃ s, ss'[i]? = some s := ⟨_, List.getElem?_eq_getElem (by rw [HSL.out]; exact hlt)⟩
                  obtain ⟨r, hr, hsm⟩ := HIN.out i s hs
                  have hrw := HR4.out r (List.mem_of_getElem? hr)
                  obtain ⟨rb, ro, cap, xs⟩ := r
                  have x0 : w4.cell? ⟨bs, i, none⟩ = some (.slice (some ⟨rb, ro, none⟩) xs.length cap) := by
                    rw [HT4.out.cell i, List.getElem?_toArray, List.append_nil, List.getElem?_map, hr]
                    rfl
                  obtain ⟨L, hL⟩ : ∃ L, xs.length = L := ⟨_, rfl⟩
                  have hbd := HRB.out _ (List.mem_of_getElem? hr)
                  change xs.length + j ≤ 21 at hbd
                  rw [hL] at x0 hbd
                  have hLp : 1 ≤ L := by rw [← hL]; exact List.length_pos_iff.2 hrw.ne
                  change s ∈ xs at hsm
                  obtain ⟨mm, hmm⟩ := List.mem_iff_getElem?.1 hsm
                  have hmL : mm < L := by rw [← hL]; exact (List.getElem?_eq_some_iff.1 hmm).1
                  have hrd := hrw.rd
                  change Reads w4 (some ⟨rb, ro, none⟩) (scs xs) at hrd
                  obtain ⟨rb2, ro2, e2, hrbl, hrc⟩ := hrd.s (by rw [hL]; omega)
                  injection e2 with e2
                  injection e2 with e3 e4
                  subst e3
                  subst e4
                  have HRC := Lib.hid hrc
                  have HMM := Lib.hid hmm
                  have HL := Lib.hid hL
                  obtain ⟨g0, g1, g2, g3⟩ := HGC.out i s hs
                  clear hs hr hsm hrw hmm hrd hrc hL
                  go_wp2_with fail
                  go_loopw [21, 22] (fun s21 s22 wy => ∃ (b : Bool) (t q2 : Nat), s21 = .bool b ∧ s22 = .int .i64 t ∧ t ≤ L ∧ wy = w4.drewN q2 ∧ (mm < t → b = true)) (fun _ s22 _ => L - (intOf s22).toNat)
                  case atStart => exact ⟨false, 0, q, rfl, rfl, Nat.zero_le _, rfl, fun h => by omega⟩
                  case round =>
                    obtain ⟨b, t, q2, rfl, rfl, ht, rfl, hb⟩ := hrel
                    have x1 : (w4.drewN q2).cell? ⟨bs, i, none⟩ = some (.slice (some ⟨rb, ro, none⟩) L cap) := x0
                    by_cases htl : t < L
                    · have t2 : (t : Int) < (L : Int) := by omega
                      obtain ⟨s2, hs2⟩ : ∃ s2, xs[t]? = some s2 := ⟨_, List.getElem?_eq_getElem (by rw [HL.out]; exact htl)⟩
                      obtain ⟨r0, r1, r2, r3⟩ := HRC.out t s2 hs2
                      have HQ : Hid (t = mm → s2 = s) := by
                        intro e
                        rw [e, HMM.out] at hs2
                        injection hs2 with hs2
                        exact hs2.symm
                      clear hs2
                      have z1 := sl_held
                      have z2 := sl_guard
                      as_aux_lemma =>
                        obtain ⟨v1, d1, b1, st1⟩ := s
                        obtain ⟨v2, d2, b2', st2⟩ := s2
                        go_upto_block 9 with (fail)
                        go_cut [21] (fun s21 wy => ∃ (b' : Bool) (q3 : Nat), s21 = .bool b' ∧ wy = w4.drewN q3 ∧ (b = true → b' = true) ∧ (t = mm → b' = true))
                        case first =>
                          cases b
                          · by_cases hv : (v1 == v2) = true
                            · by_cases hd : (d1 == d2) = true
                              · by_cases hbk : (b1 == b2') = true
                                · by_cases hst : (st1 == st2) = true
                                  · go_wp2_with fail
                                    go_quiet (fail)
                                    go_wp2_with fail
                                    go_meet
                                    case rel => exact ⟨true, q2 + nq, rfl, by simp [World.drewN, Nat.add_assoc], fun _ => rfl, fun _ => rfl⟩
                                  · have hn : (st1 == st2) = false := by simpa using hst
                                    have HN : Hid (¬ t = mm) := fun e => by have := HQ.out e; injection this with h1 h2 h3 h4; exact hst (by simp [h4])
                                    clear hst
                                    go_wp2_with fail
                                    go_quiet (fail)
                                    go_wp2_with fail
                                    go_meet
                                    case rel => exact ⟨false, q2 + nq, rfl, by simp [World.drewN, Nat.add_assoc], fun h => h, fun e => absurd e HN.out⟩
                                · have hn : (b1 == b2') = false := by simpa using hbk
                                  have HN : Hid (¬ t = mm) := fun e => by have := HQ.out e; injection this with h1 h2 h3 h4; exact hbk (by simp [h3])
                                  clear hbk
                                  go_wp2_with fail
                                  go_quiet (fail)
                                  go_wp2_with fail
                                  go_meet
                                  case rel => exact ⟨false, q2 + nq, rfl, by simp [World.drewN, Nat.add_assoc], fun h => h, fun e => absurd e HN.out⟩
                              · have hn : (d1 == d2) = false := by simpa using hd
                                have HN : Hid (¬ t = mm) := fun e => by have := HQ.out e; injection this with h1 h2 h3 h4; exact hd (by simp [h2])
                                clear hd
                                go_wp2_with fail
                                go_quiet (fail)
                                go_wp2_with fail
                                go_meet
                                case rel => exact ⟨false, q2 + nq, rfl, by simp [World.drewN, Nat.add_assoc], fun h => h, fun e => absurd e HN.out⟩
                            · have hn : (v1 == v2) = false := by simpa using hv
                              have HN : Hid (¬ t = mm) := fun e => by have := HQ.out e; injection this with h1 h2 h3 h4; exact hv (by simp [h1])
                              clear hv
                              go_wp2_with fail
                              go_quiet (fail)
                              go_wp2_with fail
                              go_meet
                              case rel => exact ⟨false, q2 + nq, rfl, by simp [World.drewN, Nat.add_assoc], fun h => h, fun e => absurd e HN.out⟩
                          · go_wp2_with fail
                            go_quiet (fail)
                            go_wp2_with fail
                            go_meet
                            case rel => exact ⟨true, q2 + nq, rfl, by simp [World.drewN, Nat.add_assoc], fun _ => rfl, fun _ => rfl⟩
                        case rest =>
                          obtain ⟨b', q3, rfl, rfl, hb1, hb2⟩ := hcut
                          go_wp2_with fail
                          go_roundw
                          case rel => exact ⟨b', t + 1, q3, rfl, by go_num, by omega, rfl, fun h => by by_cases e : t = mm; exact hb2 e; exact hb1 (hb (by omega))⟩
                          case measure => simp [intOf]; omega
                    · have hb1 : b = true := hb (by omega)
                      subst hb1
                      go_wp2_with fail
                      go_roundw
                      case rel => exact ⟨i + 1, q2, by go_num, by omega, rfl⟩
                      case measure => simp [intOf]; omega
                · go_wp2_with (go_at_call 14; refine (awake_any _).mono ?_; rintro e w5 ⟨rfl, hb5⟩)
                  go_ret
                  exact ⟨rfl, (below_drewN HB4.out q).trans (hb5.mono HB4.out.size)⟩
          · obtain ⟨rfl, hj0⟩ := hq rfl
            go_wp2_with fail
            refine (n_any W.heap.size 4 wc HC.out.src (by omega) (by omega)).mono ?_
            rintro e w1 ⟨r2, rfl, hr2, hr2', hs1, hg1⟩
            have HC1 := Lib.hid (HC.out.grown hs1 hg1)
            clear HC hs1 hg1
            by_cases q0 : r2 = 0
            · have t2 : (r2 == 0) = true := by simpa using q0
              clear q0
              as_aux_lemma =>
                have hbl := HC1.out.bsl
                go_wp2_with fail
                refine (cflush_any w1 Fc g sp m (k + 1) _ ss 2 2 true HC1.out.ca (by show log.length ≤ _; omega)).mono ?_
                rintro e w2 ⟨rfl, Fc2, hc2, ht2⟩
                rw [one_chkF]
                rw [one_flush_syn HPI.out.syn] at hc2
                have HC2 := Lib.hid (HC1.out.turn hc2 ht2)
                have HPF := Lib.hid HPI.out.flush
                clear hc2 ht2 HC1 HPI
                go_wp2_with fail
                go_loopw [15] (fun s wy => ∃ (i : Nat) (rs : List Rw), s = .int .i64 i ∧ i ≤ k ∧ CR W wy g sp m k bs Fc2 now now [] fuse false wn ss rs [] ∧ PI k now now [] ss rs ∧ ∀ r ∈ rs, r.xs.length + j ≤ 21) (fun s _ => k - (intOf s).toNat)
                case atStart => exact ⟨0, rs, rfl, Nat.zero_le _, HC2.out, HPF.out, HRB.out⟩
                case round =>
                  rename World => wy
                  clear HC2 HPF HRB
                  clear rs
                  obtain ⟨i, rs, rfl, hi, hC, hPI, hrb⟩ := hrel
                  have HRB := Lib.hid hrb
                  clear hrb
                  have HC := Lib.hid hC
                  have HPI := Lib.hid hPI
                  clear hC hPI
                  by_cases hlt : i < k
                  · obtain ⟨r, s, hr, hs, hla⟩ := HPI.out.ats i hlt
                    have hrw := HC.out.rows r (List.mem_of_getElem? hr)
                    have x1 := HC.out.cell i r hr
                    have f1 := HC.out.tab.free i
                    obtain ⟨rb, ro, cap, xs⟩ := r
                    have hcl : xs.length ≤ cap := hrw.cl
                    have hxl : 1 ≤ xs.length := List.length_pos_iff.2 hrw.ne
                    change wy.cell? ⟨bs, i, none⟩ = some (.slice (some ⟨rb, ro, none⟩) xs.length cap) at x1
                    obtain ⟨L, hL⟩ : ∃ L, xs.length = L := ⟨_, rfl⟩
                    have hbd := HRB.out _ (List.mem_of_getElem? hr)
                    change xs.length + j ≤ 21 at hbd
                    rw [hL] at x1 hcl hxl hbd
                    have HL := Lib.hid hL
                    have HR := Lib.hid hr
                    have HS := Lib.hid hs
                    have HLA := Lib.hid hla
                    have HRW := Lib.hid hrw
                    have e3 : IntKind.i64.wrap ((L : Int) - 1) = ((L - 1 : Nat) : Int) := by rw [IntWalk.i64_in _ (by omega)]; omega
                    have t5 : (i : Int) < (k : Int) := by omega
                    clear hL hr hs hla hrw
                    go_wp2_with fail
                    go_region
                    have hset := HC.out.set_ i ⟨rb, ro + (L - 1) * 4, cap - (L - 1), [s]⟩ (by have := HRW.out.last s HLA.out; change RwAt _ _ _ _ ⟨rb, ro + (xs.length - 1) * 4, cap - (xs.length - 1), [s]⟩ at this; rwa [HL.out] at this)
                    change CR W (wy.setCell ⟨bs, i, none⟩ (.slice (some ⟨rb, ro + (L - 1) * 4, none⟩) 1 (cap - (L - 1)))) g sp m k bs Fc2 now now [] fuse false wn ss _ [] at hset
                    have hL1 : L - (L - 1) = 1 := by omega
                    rw [hL1]
                    have HST := Lib.hid hset.drew
                    have HPS := Lib.hid (HPI.out.cut i _ ⟨rb, ro + (L - 1) * 4, cap - (L - 1), [s]⟩ s HR.out HS.out rfl)
                    clear hset hL1 x1 f1
                    go_wp2_with fail
                    go_roundw
                    case rel => exact ⟨i + 1, _, by go_num, by omega, HST.out, HPS.out, by intro r hr; rcases List.mem_or_eq_of_mem_set hr with hr | rfl; exact HRB.out r hr; simp; omega⟩
                    case measure => simp [intOf]; omega
                  · have hik : i = k := by omega
                    subst hik
                    have e5 : IntKind.i64.wrap ((j : Int) - 1) = ((j - 1 : Nat) : Int) := by rw [IntWalk.i64_in _ (by omega)]; omega
                    go_wp2_with fail
                    go_roundw
                    case rel => exact ⟨j - 1, Fc2, now, now, [], fuse, false, wn, ss, rs, rfl, by omega, HC.out, HPI.out, hfu, by simp; omega, by omega, fun r hr => by have := HRB.out r hr; omega⟩
                    case measure => simp [intOf]; omega
            · have t2 : (r2 == 0) = false := by simpa using q0
              clear q0
              go_wp2_with fail
              as_aux_lemma =>
                refine (n_any W.heap.size (k : Int) w1 HC1.out.src (by omega) (by omega)).mono ?_
                rintro e w2 ⟨q1, rfl, hq1, hq1', hs2, hg2⟩
                obtain ⟨x, rfl⟩ : ∃ x : Nat, q1 = (x : Int) := ⟨q1.toNat, by omega⟩
                have HC2 := Lib.hid (HC1.out.grown hs2 hg2)
                clear HC1 hs2 hg2
                go_wp2_with fail
                refine (n_any W.heap.size 2 w2 HC2.out.src (by omega) (by omega)).mono ?_
                rintro e w3 ⟨q2, rfl, hq2, hq2', hs3, hg3⟩
                have HC3 := Lib.hid (HC2.out.grown hs3 hg3)
                clear HC2 hs3 hg3
                go_wp2_with fail
                refine (n_any W.heap.size 5 w3 HC3.out.src (by omega) (by omega)).mono ?_
                rintro e w4 ⟨q3, rfl, hq3, hq3', hs4, hg4⟩
                have HC4 := Lib.hid (HC3.out.grown hs4 hg4).tight
                clear HC3 hs4 hg4
                have e6 : IntKind.i64.wrap (10 * q3) = 10 * q3 := IntWalk.i64_in _ (by omega)
                have e7 : IntKind.i64.wrap ((x : Int) + 10 * q3) = (x : Int) + 10 * q3 := IntWalk.i64_in _ (by omega)
                go_upto_region 26 with (fail)
                have hb5 : Below w4.heap.size w4 (w4.alloc (.cells #[.bool true, .bool (q2 == 0), .int .i64 ((x : Int) + 10 * q3), .int .i64 0] 50)) := (Below.refl _ _).alloc (Nat.le_refl _) _
                have HC5 := Lib.hid (HC4.out.keep hb5)
                have HCy := Lib.hid (Cs.new w4 50 #[.bool true, .bool (q2 == 0), .int .i64 ((x : Int) + 10 * q3), .int .i64 0])
                have hsy : W.heap.size < w4.heap.size := HC4.out.src.lt
                have hbsy : bs < w4.heap.size := HC4.out.tab.lt
                have HRL : Hid (∀ r ∈ rs, r.rb < w4.heap.size) := fun r hr => (HC4.out.rows r hr).lt
                clear HC4 hb5
                generalize (w4.alloc (.cells #[.bool true, .bool (q2 == 0), .int .i64 ((x : Int) + 10 * q3), .int .i64 0] 50)) = w5 at *
                generalize w4.heap.size = sy at *
                go_wp2_with fail
                refine (n_any W.heap.size 4 w5 HC5.out.src (by omega) (by omega)).mono ?_
                rintro e w6 ⟨q5, rfl, hq5, hq5', hs6, hg6⟩
                have HC6 := Lib.hid (HC5.out.grown hs6 hg6)
                have HCy6 := Lib.hid (HCy.out.grown hg6 (by simp; omega))
                clear HC5 HCy hs6 hg6
                have HXG : Hid ((Sl.mk true (q2 == 0) ((x : Int) + 10 * q3) 0).Good) := ⟨by show (0 : Int) ≤ (x : Int) + 10 * q3; omega, by show (x : Int) + 10 * q3 ≤ 16777215; omega, rfl, fun h => by cases h⟩
                have hm10 : ((x : Int) + 10 * q3) % 10 = (x : Int) := by omega
                have HM10 := Lib.hid hm10
                clear hm10
                generalize ((x : Int) + 10 * q3) = bk0 at *
                generalize (q2 == 0) = d0 at *
                go_upto_if 126 with (fail)
                go_cut [] (fun wy => ∃ y : Sl, Cs wy sy 50 y.cells.toArray ∧ y.Good ∧ (y.valid = true → y.block % 10 = (x : Int)) ∧ CR W wy g sp m k bs (fun j => Fc j ∧ j < sy) now dur log fuse false wn ss rs [])
                case first =>
                  by_cases q6 : q5 = 0
                  · have t3 : (q5 == 0) = true := by simpa using q6
                    as_aux_lemma =>
                      clear q6
                      have y0 : w6.cell? ⟨sy, 0, none⟩ = some (.bool true) := HCy6.out.cell 0
                      have y1 : w6.cell? ⟨sy, 1, none⟩ = some (.bool d0) := HCy6.out.cell 1
                      have y2 : w6.cell? ⟨sy, 2, none⟩ = some (.int .i64 bk0) := HCy6.out.cell 2
                      have y3 : w6.cell? ⟨sy, 3, none⟩ = some (.int .i64 0) := HCy6.out.cell 3
                      have g0 := HCy6.out.free 0
                      have g1 := HCy6.out.free 1
                      have g2 := HCy6.out.free 2
                      have g3 := HCy6.out.free 3
                      go_wp2_with fail
                      go_meet
                      case rel =>
                        refine ⟨Sl.nil, Cs.put4 HCy6.out _ _ _ _, ⟨by decide, by decide, rfl, fun _ => ⟨rfl, rfl⟩⟩, (fun h => by cases h), HC6.out.fr (fr_put4 w6 sy _ _ _ _) ?_ (fun j hj => by omega) (by omega) (fun r hr => ?_) (fun j hj => by have := hj.2; omega)⟩
                        · exact (((HC6.out.src.set hsy _).set hsy _).set hsy _).set hsy _
                        · have := HRL.out r hr; omega
                  · have t3 : (q5 == 0) = false := by simpa using q6
                    clear q6
                    go_wp2_with fail
                    go_meet
                    case rel => exact ⟨⟨true, d0, bk0, 0⟩, HCy6.out, HXG.out, fun _ => HM10.out, HC6.out⟩
                case rest =>
                  as_aux_lemma =>
                    obtain ⟨y, hcy, hyg, hym, hC⟩ := hcut
                    clear HC6 HCy6 HXG HM10
                    obtain ⟨v, d, bk, st⟩ := y
                    obtain ⟨g1, g2, g3, g4⟩ := hyg
                    change 0 ≤ bk at g1
                    change bk ≤ 16777215 at g2
                    change st = 0 at g3
                    subst g3
                    have HYG : Hid ((Sl.mk v d bk 0).Good) := ⟨g1, g2, rfl, g4⟩
                    have HYM := Lib.hid hym
                    have HG4 := Lib.hid g4
                    have HCy := Lib.hid hcy
                    have HC := Lib.hid hC
                    clear hcy hym hC g4
                    have y0 : wc.cell? ⟨sy, 0, none⟩ = some (.bool v) := HCy.out.cell 0
                    have y1 : wc.cell? ⟨sy, 1, none⟩ = some (.bool d) := HCy.out.cell 1
                    have y2 : wc.cell? ⟨sy, 2, none⟩ = some (.int .i64 bk) := HCy.out.cell 2
                    have y3 : wc.cell? ⟨sy, 3, none⟩ = some (.int .i64 0) := HCy.out.cell 3
                    have hpo := mput_ok wc _ g sp m (k + 1) _ ss 2 2 true x ⟨v, d, bk, 0⟩ HC.out.ca (by rw [HPI.out.sl]; omega) (by rw [HPI.out.sl]; omega) ⟨g1, g2⟩ HG4.out (by omega) (by show log.length < _; omega) (by show wn ≤ _; omega)
                    unfold PutP at hpo
                    unfold Sl.v at hpo
                    have hE := one_swE now dur log fuse wn (1 + (x : Int)) (by rw [HPI.out.nl]; omega)
                    rw [HPI.out.nl] at hE
                    have HPO := Lib.hid hpo
                    have HE := Lib.hid hE
                    have e5 : IntKind.i64.wrap ((j : Int) - 1) = ((j - 1 : Nat) : Int) := by rw [IntWalk.i64_in _ (by omega)]; omega
                    clear hpo hE
                    by_cases hf1 : fuse = 1
                    · subst hf1
                      as_aux_lemma =>
                        have HE5 := Lib.hid (HE.out.trans (if_pos rfl))
                        have hS := one_swrite_fuse now dur log wn (1 + (x : Int)) (Sl.mk v d bk 0).word (by rw [HPI.out.nl]; omega)
                        rw [HPI.out.nl] at hS
                        have HS := Lib.hid hS
                        clear hS
                        go_wp2_with fail
                        refine HPO.out.mono ?_
                        rintro e w7 ⟨rfl, Fc7, hc7, ht7⟩
                        rw [HE5.out]
                        rw [HE5.out, HS.out, if_neg (by decide)] at hc7
                        have HC7 := Lib.hid (HC.out.turn hc7 ht7)
                        clear hc7 ht7 HPO HE HE5 HS HC y0 y1 y2 y3 HCy
                        go_wp2_with fail
                        go_roundw
                        case rel => exact ⟨j - 1, Fc7, now, dur, log, 0, true, wn, ss, rs, rfl, by omega, HC7.out, HPI.out, by omega, by omega, by omega, fun r hr => by have := HRB.out r hr; omega⟩
                        case measure => simp [intOf]; omega
                    · have hS := one_swrite now dur log fuse wn (1 + (x : Int)) (Sl.mk v d bk 0).word (by rw [HPI.out.nl]; omega) hf1
                      rw [HPI.out.nl, show (1 + (x : Int)).toNat = 1 + x by omega] at hS
                      have HS := Lib.hid hS
                      have HE0 := Lib.hid (HE.out.trans (if_neg hf1))
                      clear hS hf1 HE
                      go_wp2_with fail
                      refine HPO.out.mono ?_
                      rintro e w7 ⟨rfl, Fc7, hc7, ht7⟩
                      rw [HE0.out]
                      rw [HE0.out, HS.out, if_pos rfl] at hc7
                      have HC7 := Lib.hid (HC.out.turn hc7 ht7)
                      have HCy7 := Lib.hid (HCy.out.fr ht7.1 (fun e => by have := e.2; omega))
                      obtain ⟨r, s, hr, hs, hla⟩ := HPI.out.ats x (by omega)
                      have hrw := HC7.out.rows r (List.mem_of_getElem? hr)
                      have x1 := HC7.out.cell x r hr
                      have f1 := HC7.out.tab.free x
                      have hbd := HRB.out r (List.mem_of_getElem? hr)
                      have HRW := Lib.hid hrw
                      have HR := Lib.hid hr
                      clear hc7 ht7 HPO HE0 HS HC y0 y1 y2 y3 HCy hs hla hr hrw
                      have y0 : w7.cell? ⟨sy, 0, none⟩ = some (.bool v) := HCy7.out.cell 0
                      have y1 : w7.cell? ⟨sy, 1, none⟩ = some (.bool d) := HCy7.out.cell 1
                      have y2 : w7.cell? ⟨sy, 2, none⟩ = some (.int .i64 bk) := HCy7.out.cell 2
                      have y3 : w7.cell? ⟨sy, 3, none⟩ = some (.int .i64 0) := HCy7.out.cell 3
                      obtain ⟨rb, ro, cap, xs⟩ := r
                      change w7.cell? ⟨bs, x, none⟩ = some (.slice (some ⟨rb, ro, none⟩) xs.length cap) at x1
                      change xs.length + j ≤ 21 at hbd
                      obtain ⟨L, hL⟩ : ∃ L, xs.length = L := ⟨_, rfl⟩
                      rw [hL] at x1 hbd
                      have HL := Lib.hid hL
                      have hbs7 : bs < w7.heap.size := HC7.out.tab.lt
                      have hsy7 : sy < w7.heap.size := HCy7.out.lt
                      have hslen : (scs xs).length = L * 4 := by rw [scs_length, hL]
                      have HSL := Lib.hid hslen
                      obtain ⟨i0, hi0, hz0, hz1, hz2⟩ := info_parts slot_info
                      clear hL hslen
                      go_upto_region 30 with (fail)
                      have HRD : Hid (Reads w7.drew (some ⟨rb, ro, none⟩) (scs xs)) := HRW.out.rd.keep (Below.refl _ _).drew
                      have x2 : (w7.drew.alloc (.cells #[.bool v, .bool d, .int .i64 bk, .int .i64 0] 50)).cell? ⟨bs, x, none⟩ = some (.slice (some ⟨rb, ro, none⟩) L cap) := (((Below.refl w7.heap.size w7.drew).alloc (Nat.le_refl _) (.cells #[.bool v, .bool d, .int .i64 bk, .int .i64 0] 50)).cell (p := ⟨bs, x, none⟩) hbs7).trans x1
                      go_region_law ((first
                          | (refine step_append_reads w7.drew (by rfl) (.const (.slice none 0 0)) (.tmp 139) _ (by rfl) w7.heap.size 50 i0 _ 4 24 Try.underlying39 hi0 hz0 hz1 hz2 rfl (by omega) (.slice none 0 0) 0 [] (by rfl) (World.ownsRow_nil _ _ _ _) (some ⟨rb, ro, none⟩) L cap (scs xs) (by rfl) HSL.out (HRD.out) (scs_one xs) (by simp only [maxLen]; omega) (by omega) (by simp) ?_; intro v8 w8 hown8 hg8 hat8; simp only [Nat.zero_add, List.nil_append] at hown8; obtain ⟨A8, c8, hv8⟩ := own_form hown8; subst hv8; have hb8 : Below w7.heap.size w7.drew w8 := (Below.refl w7.heap.size w7.drew).grown hg8 (by simp) (by intro k hk; simp [Value.ownBlock] at hk); have y80 := (hb8.cell (p := ⟨sy, 0, none⟩) hsy7).trans y0; have y81 := (hb8.cell (p := ⟨sy, 1, none⟩) hsy7).trans y1; have y82 := (hb8.cell (p := ⟨sy, 2, none⟩) hsy7).trans y2; have y83 := (hb8.cell (p := ⟨sy, 3, none⟩) hsy7).trans y3)
                          | (refine step_append_reads (w7.drew.alloc (.cells #[.bool v, .bool d, .int .i64 bk, .int .i64 0] 50)) (by rfl) (.const (.slice none 0 0)) (.tmp 139) _ (by rfl) w7.heap.size 50 i0 _ 4 24 Try.underlying39 hi0 hz0 hz1 hz2 rfl (by omega) (.slice none 0 0) 0 [] (by rfl) (World.ownsRow_nil _ _ _ _) (some ⟨rb, ro, none⟩) L cap (scs xs) (by rfl) HSL.out (HRD.out.keep ((Below.refl _ _).alloc (Nat.le_refl _) _)) (scs_one xs) (by simp only [maxLen]; omega) (by omega) (by simp) ?_; intro v9 w9 hown9 hg9 hat9; simp only [Nat.zero_add, List.nil_append] at hown9; obtain ⟨A9, c9, hv9⟩ := own_form hown9; subst hv9; have hb9 : Below w7.heap.size w7.drew w9 := (((Below.refl w7.heap.size w7.drew).alloc (Nat.le_refl _) (.cells #[.bool v, .bool d, .int .i64 bk, .int .i64 0] 50))).grown hg9 (by simp) (by intro k hk; simp [Value.ownBlock] at hk); have y90 := (hb9.cell (p := ⟨sy, 0, none⟩) hsy7).trans y0; have y91 := (hb9.cell (p := ⟨sy, 1, none⟩) hsy7).trans y1; have y92 := (hb9.cell (p := ⟨sy, 2, none⟩) hsy7).trans y2; have y93 := (hb9.cell (p := ⟨sy, 3, none⟩) hsy7).trans y3)
                          | (refine step_append_reads (w8.alloc (.cells #[.bool v, .bool d, .int .i64 bk, .int .i64 0] 50)) (by rfl) (.tmp 140) (.tmp 142) _ (by rfl) w7.heap.size 50 i0 _ 4 24 Try.underlying39 hi0 hz0 hz1 hz2 rfl (by omega) (.slice A8 L c8) L (scs xs) (by rfl) (own_keepB hown8 ((Below.refl _ _).alloc (Nat.le_refl _) _)) (some ⟨w8.heap.size, 0, none⟩) 1 1 [.bool v, .bool d, .int .i64 bk, .int .i64 0] (by rfl) (by rfl) (Reads.new w8 _ _) (by simp [Value.oneCell']) (by simp only [maxLen]; omega) (by omega) (by have := hb8.size; simp at this ⊢; omega) ?_; intro vA wA hownA hgA hatA; have hbA : Below w7.heap.size w7.drew wA := (hb8.alloc hb8.size (.cells #[.bool v, .bool d, .int .i64 bk, .int .i64 0] 50)).grown hgA (by have := hb8.size; simp at this ⊢; omega) (own_base hown8); obtain ⟨AA2, cA, hvA⟩ := own_form hownA; subst hvA; have fA := (HC7.out.drew.keep hbA).tab.free x; have xA := (hbA.cell (p := ⟨bs, x, none⟩) hbs7).trans x1)
                          | (refine step_append_reads w9 (by rfl) (.tmp 140) (.tmp 142) _ (by rfl) w7.heap.size 50 i0 _ 4 24 Try.underlying39 hi0 hz0 hz1 hz2 rfl (by omega) (.slice A9 L c9) L (scs xs) (by rfl) (hown9) (some ⟨w7.heap.size, 0, none⟩) 1 1 [.bool v, .bool d, .int .i64 bk, .int .i64 0] (by rfl) (by rfl) ((Reads.new w7.drew _ _).keep ((Below.refl _ _).grown hg9 (Nat.le_refl _) (by intro k hk; simp [Value.ownBlock] at hk))) (by simp [Value.oneCell']) (by simp only [maxLen]; omega) (by omega) (hb9.size) ?_; intro vA wA hownA hgA hatA; have hbA : Below w7.heap.size w7.drew wA := hb9.grown hgA hb9.size (own_base hown9); obtain ⟨AA2, cA, hvA⟩ := own_form hownA; subst hvA; have fA := (HC7.out.drew.keep hbA).tab.free x; have xA := (hbA.cell (p := ⟨bs, x, none⟩) hbs7).trans x1)))
                      all_goals
                        as_aux_lemma =>
                          have hcap := own_cap hownA
                          obtain ⟨bA, cA2, hA, -, hbAl⟩ := hownA.form (by omega)
                          injection hA with hA1 _ hA3
                          subst hA1
                          subst hA3
                          have hbase := own_base hownA bA rfl
                          have h7 : W.heap.size < w7.heap.size := HC7.out.src.lt
                          have hrr : RwAt wA W.heap.size bs (fun j => Fc7 j ∧ j < w7.heap.size) ⟨bA, 0, cA, xs ++ [⟨v, d, bk, 0⟩]⟩ :=
                            ⟨by show Reads wA _ (scs (xs ++ [_])); rw [scs_snoc]; exact Reads.of_own hownA, by simp, by show (xs ++ [_]).length ≤ cA; rw [List.length_append, HL.out]; exact hcap, fun e => by have := e.2; simp at this; omega, Nat.lt_of_lt_of_le h7 hbase, fun e => by simp at e; omega⟩
                          have hset := (HC7.out.tight.drew.keep hbA).set_ x _ hrr
                          unfold Rw.v at hset
                          change CR W (wA.setCell ⟨bs, x, none⟩ (.slice (some ⟨bA, 0, none⟩) (xs ++ [_]).length cA)) g sp m k bs _ _ dur _ _ false (wn + 1) _ _ [] at hset
                          rw [List.length_append, HL.out] at hset
                          have HST := Lib.hid hset
                          have HPP := Lib.hid (HPI.out.put x (by omega) ⟨v, d, bk, 0⟩ HYG.out HYM.out _ ⟨bA, 0, cA, xs ++ [⟨v, d, bk, 0⟩]⟩ HR.out rfl)
                          clear hset hrr hownA hgA hatA xA fA hbA
                          go_wp2_with fail
                          go_roundw
                          case rel => exact ⟨j - 1, _, _, dur, _, _, false, wn + 1, _, _, rfl, by omega, HST.out, HPP.out, by split <;> omega, by simp; omega, by omega, by intro r' hr'; rcases List.mem_or_eq_of_mem_set hr' with hr' | rfl; have := HRB.out r' hr'; omega; show (xs ++ [_]).length + _ ≤ _; rw [List.length_append, HL.out]; simp; omega⟩
                          case measure => simp [intOf]; omega

end Go.Proofs.Ytpiffapnbjnjiaa
